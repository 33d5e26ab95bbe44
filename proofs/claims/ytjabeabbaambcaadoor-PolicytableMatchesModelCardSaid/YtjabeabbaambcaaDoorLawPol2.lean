/- PolicytableMatchesModel. -/
import Derived.Test.YtjabeabbaambcaaDoorLawPol0
import Derived.Test.YtjabeabbaambcaaDoorGenX
import Derived.Test.YtjabeabbaambcaaDoorShellD
import Derived.Test.YtjabeabbaambcaaDoorRows
import Derived.Deep.DeepCutAuto
namespace Go.Proofs.YtjabeabbaambcaaDoor
open Go.ChangeShapes Go.WideShapes Go.ChangeAt Go.RowKit

theorem good_set' {bs : List Int} (h : GoodA bs) (q : Nat) {y : Int} (hy : 0 ≤ y ∧ y ≤ 255) : GoodA (bs.set q y) :=
  ⟨by rw [List.length_set]; exact h.1, fun x hx => by rcases List.mem_or_eq_of_mem_set hx with hx | rfl; exact h.2 x hx; exact hy⟩
set_option maxRecDepth 20000 in
set_option maxHeartbeats 8000000 in
theorem policytableMatchesModel_came {H : Type} {enc : TypeId × Value → H} (W : World) (args : Array Value) (ds : List (DataW H)) (_ : laidMetH Tryd.prog Rows.policytableMatchesModelRow.laid W) (h : Came enc Tryd.prog Tryd.f9 W args ds) :
    Calls Tryd.prog 9 args W fun e W' => e = .returned (.bool true) ∧ Below W.heap.size W W' := by
  obtain ⟨v0, v1, v2, d0, d1, d2, rfl, a0, a1, a2⟩ := h.args3 rfl
  obtain ⟨six, av, rfl, hga⟩ := a0.addr
  obtain ⟨x, rfl, hx⟩ := a1.int Tryd.underlying5
  obtain ⟨y, rfl, hy⟩ := a2.int Tryd.underlying5
  have hx := bounds_u8 hx
  have hy := bounds_u8 hy
  clear h a0 a1 a2
  have hgb := (vldA_good (six := six) hga).1
  have HVA := hid (genValid six av hga)
  have HSA := hid (genSome six av hga)
  have hgs := someA_good (six := six) hga
  generalize vldA six av = vb at hgb HVA
  generalize someA six av = sz at HSA hgs
  obtain ⟨s7, sv⟩ := sz
  obtain ⟨p0, p1⟩ := hga.at (show 2 < 16 by omega)
  obtain ⟨q0, q1⟩ := hga.at (show 3 < 16 by omega)
  have HA := hid (agrees24 six av hga)
  have HB := hid (agrees24 six vb hgb)
  have hgc : GoodA ((vb.set 0 x).set 1 y) := good_set' (good_set' hgb 0 hx) 1 hy
  have HC := hid (agrees24 true ((vb.set 0 x).set 1 y) hgc)
  have hgd : GoodA (v4A x y (at_ av 2) (at_ av 3)) := ⟨rfl, by simp only [v4A, List.mem_cons, List.not_mem_nil, or_false, forall_eq_or_imp, forall_eq]; omega⟩
  have HD := hid (agrees24 false _ hgd)
  have HS := hid (agrees24 s7 sv hgs)
  have HIA := hid (addr_inf (six := six) hga.1)
  have HIB := hid (addr_inf (six := six) hgb.1)
  have HIC := hid (addr_inf (six := true) hgc.1)
  have HID := hid (addr_inf (six := false) hgd.1)
  have HLB : Hid ((addrC six vb).length = 17) := addr_len hgb.1
  have K3 : Hid ((addrC six av)[3]? = some (.int .u8 (at_ av 2))) := addrC_byte (k := 2) (by rw [hga.1]; omega)
  have K4 : Hid ((addrC six av)[4]? = some (.int .u8 (at_ av 3))) := addrC_byte (k := 3) (by rw [hga.1]; omega)
  have B1' : Hid ((addrC six vb)[1]? = some (.int .u8 (at_ vb 0))) := addrC_byte (k := 0) (by rw [hgb.1]; omega)
  have B2' : Hid ((addrC six vb)[2]? = some (.int .u8 (at_ vb 1))) := addrC_byte (k := 1) (by rw [hgb.1]; omega)
  have HSET : Hid ((((addrC six vb).set 0 (.bool true)).set 1 (.int .u8 x)).set 2 (.int .u8 y) = addrC true ((vb.set 0 x).set 1 y)) := by
    show _ = _
    rw [show (addrC six vb).set 0 (.bool true) = addrC true vb from rfl, addr_set true vb 0 x, addr_set true (vb.set 0 x) 1 y]
  have BA : Blk (W.alloc (.cells (addrC six av).toArray 29)) W.heap.size 29 (addrC six av) := Blk.new W _ _
  have CC : Ch [] W (W.alloc (.cells (addrC six av).toArray 29)) := (Ch.refl _ _).alloc _
  generalize at_ av 2 = p at K3 p0 p1 HD HID
  generalize at_ av 3 = q at K4 q0 q1 HD HID
  generalize addrC true ((vb.set 0 x).set 1 y) = ccs at HC HIC HSET
  generalize addrC six av = cs at BA CC HVA HSA HA HIA K3 K4 ⊢
  have HVAL : Hid ((addrC six vb)[0]? = some (.bool six)) := by show _ = _; rfl
  have HCB1 : Hid ((addrC six vb).all (·.oneCell') = true) := addr_one' _ _
  generalize addrC six vb = cb at HCB1 HVA HB HIB HLB B1' B2' HSET HVAL
  generalize at_ vb 0 = z0 at B1'
  generalize at_ vb 1 = z1 at B2'
  clear hga hgb hgs hgc hgd
  go_enter Tryd.func9, Tryd.ntmps9
  go_upto_region 5 with (first
    | (refine wpList_loadB rfl 29 _ rfl W.heap.size 29 cs _ rfl BA Tryd.underlying29 rfl HIA.out ?_)
    | (refine wpList_loadB rfl 29 _ rfl w1.heap.size 29 cb _ rfl BB Tryd.underlying29 rfl HIB.out ?_)
    | (refine wpList_storeB rfl 29 _ _ rfl w1.heap.size 29 (addrC false zeros) cb rfl rfl (Blk.new _ _ _) HIB.out (by rw [HLB.out]; rfl) HCB1.out ?_; intro w2 BB C2 Z2; clear Z2; replace BA := (BA.alloc _).ch C2 (by simp; omega); replace CC := (CC.alloc _).step C2 (fun i hi => .inr (by simp at hi; omega)); have lt2 := BB.lt; have lt2a := BA.lt)
    | (refine wpList_storeB rfl 29 _ _ rfl w2.heap.size 29 (addrC false zeros) cb rfl rfl (Blk.new _ _ _) HIB.out (by rw [HLB.out]; rfl) HCB1.out ?_; intro w3 BC C3 Z3; clear Z3; replace BA := (BA.alloc _).ch C3 (by simp; omega); replace BB := (BB.alloc _).ch C3 (by simp; omega); replace CC := (CC.alloc _).step C3 (fun i hi => .inr (by simp at hi; have := CC.size; omega)); have lt3 := BC.lt; have e0 := (BC.cell 0).trans HVAL.out; have e1 := (BC.cell 1).trans B1'.out; have e2 := (BC.cell 2).trans B2'.out; have f0 := BC.frozen 0; have f1 := BC.frozen 1; have f2 := BC.frozen 2)
    | (go_at_call 45; (with_reducible refine (HVA.out _).mono ?_); rintro e w1 ⟨rfl, Cn⟩; replace BA := BA.ch Cn (by simp); replace CC := CC.trans Cn; have lt1 := BA.lt; have sz1 := CC.size; clear Cn))
  have BC5 := ((BC.set 0 (.bool true)).set 1 (.int .u8 x)).set 2 (.int .u8 y)
  rw [HSET.out] at BC5
  have BA5 := ((BA.far (p := ⟨w2.heap.size, 0, none⟩) (by simp; omega) (.bool true)).far (p := ⟨w2.heap.size, 1, none⟩) (by simp; omega) (.int .u8 x)).far (p := ⟨w2.heap.size, 2, none⟩) (by simp; omega) (.int .u8 y)
  have BB5 := ((BB.far (p := ⟨w2.heap.size, 0, none⟩) (by simp; omega) (.bool true)).far (p := ⟨w2.heap.size, 1, none⟩) (by simp; omega) (.int .u8 x)).far (p := ⟨w2.heap.size, 2, none⟩) (by simp; omega) (.int .u8 y)
  have CC5 := ((CC.setCell (p := ⟨w2.heap.size, 0, none⟩) (.inr (by simp; omega)) (.bool true)).setCell (p := ⟨w2.heap.size, 1, none⟩) (.inr (by simp; omega)) (.int .u8 x)).setCell (p := ⟨w2.heap.size, 2, none⟩) (.inr (by simp; omega)) (.int .u8 y)
  generalize ((w3.setCell ⟨w2.heap.size, 0, none⟩ (.bool true)).setCell ⟨w2.heap.size, 1, none⟩ (.int .u8 x)).setCell ⟨w2.heap.size, 2, none⟩ (.int .u8 y) = w5 at BC5 BA5 BB5 CC5 ⊢
  clear BA BB BC CC e0 e1 e2 f0 f1 f2 C2 C3
  have BA := BA5
  have BB := BB5
  have BC := BC5
  have CC := CC5
  clear BA5 BB5 BC5 CC5
  have e3 := (BA.cell 3).trans K3.out
  have e4 := (BA.cell 4).trans K4.out
  try simp only [Act.put]
  go_wp2_with (first
    | go_skip
    | (refine wpList_load_want rfl 29 _ rfl W.heap.size 0 rfl cs _ BA.range Tryd.underlying29 rfl HIA.out ?_)
    | (refine wpList_load_want rfl 29 _ rfl w1.heap.size 0 rfl cb _ BB.range Tryd.underlying29 rfl HIB.out ?_)
    | (refine wpList_load_want rfl 29 _ rfl w2.heap.size 0 rfl ccs _ BC.range Tryd.underlying29 rfl HIC.out ?_)
    | (refine wpList_load_want rfl 29 _ rfl w6.heap.size 0 rfl (addrC false (v4A x y p q)) _ BD.range Tryd.underlying29 rfl HID.out ?_)
    | (refine wpList_storeB rfl 29 _ _ rfl w6.heap.size 29 (addrC false zeros) (addrC false (v4A x y p q)) rfl rfl (Blk.new _ _ _) HID.out rfl (addr_one' _ _) ?_; intro w7 BD C7 Z7; clear Z7; replace BA := (BA.alloc _).ch C7 (by simp; omega); replace BB := (BB.alloc _).ch C7 (by simp; omega); replace BC := (BC.alloc _).ch C7 (by simp; omega); replace CC := (CC.alloc _).step C7 (fun i hi => .inr (by simp at hi; omega)))
    | (go_at_call 35; (with_reducible refine (v4R _ _ _ _ _).mono ?_); rintro e w6 ⟨rfl, Cn⟩; replace BA := BA.ch Cn (by simp); replace BB := BB.ch Cn (by simp); replace BC := BC.ch Cn (by simp); replace CC := CC.trans Cn; have l1 := BA.lt; have l2 := BB.lt; have l3 := BC.lt; have l4 := CC.size)
    | (go_at_call 46; (with_reducible refine (awake24 _).mono ?_); rintro e wn ⟨rfl, Cn⟩; replace BA := BA.ch Cn (by simp); replace BB := BB.ch Cn (by simp); replace BC := BC.ch Cn (by simp); replace CC := CC.trans Cn; replace BD := BD.ch Cn (by simp); clear Cn)
    | (go_at_call 25; (with_reducible refine (HSA.out _).mono ?_); rintro e wn ⟨rfl, Cn⟩; replace BA := BA.ch Cn (by simp); replace BB := BB.ch Cn (by simp); replace BC := BC.ch Cn (by simp); replace CC := CC.trans Cn; replace BD := BD.ch Cn (by simp); clear Cn)
    | (go_at_call 47; (with_reducible refine (HA.out _).mono ?_); rintro e wn ⟨rfl, Cn⟩; replace BA := BA.ch Cn (by simp); replace BB := BB.ch Cn (by simp); replace BC := BC.ch Cn (by simp); replace CC := CC.trans Cn; replace BD := BD.ch Cn (by simp); clear Cn)
    | (go_at_call 47; (with_reducible refine (HB.out _).mono ?_); rintro e wn ⟨rfl, Cn⟩; replace BA := BA.ch Cn (by simp); replace BB := BB.ch Cn (by simp); replace BC := BC.ch Cn (by simp); replace CC := CC.trans Cn; replace BD := BD.ch Cn (by simp); clear Cn)
    | (go_at_call 47; (with_reducible refine (HC.out _).mono ?_); rintro e wn ⟨rfl, Cn⟩; replace BA := BA.ch Cn (by simp); replace BB := BB.ch Cn (by simp); replace BC := BC.ch Cn (by simp); replace CC := CC.trans Cn; replace BD := BD.ch Cn (by simp); clear Cn)
    | (go_at_call 47; (with_reducible refine (HD.out _).mono ?_); rintro e wn ⟨rfl, Cn⟩; replace BA := BA.ch Cn (by simp); replace BB := BB.ch Cn (by simp); replace BC := BC.ch Cn (by simp); replace CC := CC.trans Cn; replace BD := BD.ch Cn (by simp); clear Cn)
    | (go_at_call 47; (with_reducible refine (HS.out _).mono ?_); rintro e wn ⟨rfl, Cn⟩; replace BA := BA.ch Cn (by simp); replace BB := BB.ch Cn (by simp); replace BC := BC.ch Cn (by simp); replace CC := CC.trans Cn; replace BD := BD.ch Cn (by simp); clear Cn))
  go_ret
  exact ⟨rfl, CC.nil_below⟩
end Go.Proofs.YtjabeabbaambcaaDoor
