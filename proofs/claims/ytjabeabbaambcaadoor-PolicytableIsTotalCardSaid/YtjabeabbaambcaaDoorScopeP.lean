/- policytable.Scope. -/
import Derived.Test.YtjabeabbaambcaaDoorPolW1
namespace Go.Proofs.YtjabeabbaambcaaDoor
open Go.RowKit

theorem h127 {av : List Int} (hg : GoodA av) (hv : validA false av = true) : contP (hasX false 127 0 8) false av = decide (at_ av 0 = 127) := by
  rw [has_eq hg.1 hg.2 hv 127 0 8 (by omega) (by decide)]
  show (decide (cutB (at_ av 0) 8 = 127) && decide (cutB (at_ av 1) 0 = 0)) = _
  rw [cut8, cut0 (hg.at (by omega))]; simp
theorem h169 {av : List Int} (hg : GoodA av) (hv : validA false av = true) : contP (hasX false 169 254 16) false av = (decide (at_ av 0 = 169) && decide (at_ av 1 = 254)) := by
  rw [has_eq hg.1 hg.2 hv 169 254 16 (by omega) (by decide)]
  show (decide (cutB (at_ av 0) 8 = 169) && decide (cutB (at_ av 1) 8 = 254)) = _
  rw [cut8, cut8]
theorem hFE {av : List Int} (hg : GoodA av) (b : Int) (hb : validP (hasX true 254 b 10) = true) : contP (hasX true 254 b 10) true av = (decide (at_ av 0 = 254) && decide (cutB (at_ av 1) 2 = b)) := by
  rw [has_eq hg.1 hg.2 rfl 254 b 10 (by omega) hb]
  show (decide (cutB (at_ av 0) 8 = 254) && decide (cutB (at_ av 1) 2 = b)) = _
  rw [cut8]
theorem and15_mod (b : Int) (hb : 0 ≤ b ∧ b ≤ 255) : bits .and .u8 b 15 = b % 16 := by
  have hall : ∀ b : Fin 256, bits .and .u8 (b.val : Int) 15 = (b.val : Int) % 16 := by decide +kernel
  obtain ⟨n, rfl⟩ := Int.eq_ofNat_of_zero_le hb.1
  exact hall ⟨n, by omega⟩
theorem scope_four {av : List Int} (h : validA false av = true) : scopeP false av = if at_ av 0 = 127 then 2 else if at_ av 0 = 169 ∧ at_ av 1 = 254 then 2 else 14 := by unfold scopeP; rw [if_pos h]; rfl
theorem scope_six {av : List Int} : scopeP true av = if at_ av 0 = 255 then bits .and .u8 (at_ av 1) 15 else if av = [0, 0, 0, 0, 0, 0, 0, 0, 0, 0, 0, 0, 0, 0, 0, 1] then 2 else if at_ av 0 = 254 ∧ cutB (at_ av 1) 2 = 128 then 2 else if at_ av 0 = 254 ∧ cutB (at_ av 1) 2 = 192 then 5 else 14 := by unfold scopeP; rfl
set_option maxRecDepth 20000 in
set_option maxHeartbeats 4000000 in
theorem scP0 (av : List Int) (hg : GoodA av) (six : Bool) (hv : validA six av = false) (w : World) : Calls Tryd.prog 52 #[.agg (addrC six av).toArray] w fun e w' => e = .returned (.int .i64 (-1)) ∧ Ch [] w w' := by
  obtain ⟨x0, x1⟩ := hg.at (show 0 < 16 by omega)
  obtain ⟨y0, y1⟩ := hg.at (show 1 < 16 by omega)
  have HI := hid (addr_inf (six := six) hg.1)
  have HIO := hid (addr_inf (six := true) (bs := [0, 0, 0, 0, 0, 0, 0, 0, 0, 0, 0, 0, 0, 0, 0, 1]) rfl)
  have K0 : Hid ((addrC six av)[0]? = some (.bool six)) := by show _ = _; rfl
  have K1 : Hid ((addrC six av)[1]? = some (.int .u8 (at_ av 0))) := addrC_byte (k := 0) (by rw [hg.1]; omega)
  have K2 : Hid ((addrC six av)[2]? = some (.int .u8 (at_ av 1))) := addrC_byte (k := 1) (by rw [hg.1]; omega)
  have BA : Blk ((w.alloc (.cells (addrC six av).toArray 29)).alloc (.cells #[.bool true, .int .u8 0, .int .u8 0, .int .u8 0, .int .u8 0, .int .u8 0, .int .u8 0, .int .u8 0, .int .u8 0, .int .u8 0, .int .u8 0, .int .u8 0, .int .u8 0, .int .u8 0, .int .u8 0, .int .u8 0, .int .u8 1] 29)) w.heap.size 29 (addrC six av) := (Blk.new w _ _).alloc _
  have BO : Blk ((w.alloc (.cells (addrC six av).toArray 29)).alloc (.cells #[.bool true, .int .u8 0, .int .u8 0, .int .u8 0, .int .u8 0, .int .u8 0, .int .u8 0, .int .u8 0, .int .u8 0, .int .u8 0, .int .u8 0, .int .u8 0, .int .u8 0, .int .u8 0, .int .u8 0, .int .u8 0, .int .u8 1] 29)) (w.heap.size + 1) 29 (addrC true [0, 0, 0, 0, 0, 0, 0, 0, 0, 0, 0, 0, 0, 0, 0, 1]) := Blk.newAt _ 29 (addrC true [0, 0, 0, 0, 0, 0, 0, 0, 0, 0, 0, 0, 0, 0, 0, 1]) (by simp)
  have CC : Ch [] w ((w.alloc (.cells (addrC six av).toArray 29)).alloc (.cells #[.bool true, .int .u8 0, .int .u8 0, .int .u8 0, .int .u8 0, .int .u8 0, .int .u8 0, .int .u8 0, .int .u8 0, .int .u8 0, .int .u8 0, .int .u8 0, .int .u8 0, .int .u8 0, .int .u8 0, .int .u8 0, .int .u8 1] 29)) := ((Ch.refl _ _).alloc _).alloc _
  have HV := hid (ipValid six av hg.1 hg.2)
  rw [hv] at HV
  generalize at_ av 0 = x at K1 x0 x1 ⊢
  generalize at_ av 1 = y at K2 y0 y1 ⊢
  generalize addrC six av = cs at HI K0 K1 K2 BA BO CC HV ⊢
  clear hg
  go_enter Tryd.func52, Tryd.ntmps52
  go_wp2_with (first
    | go_skip
    | (refine wpList_load_want rfl 29 _ rfl w.heap.size 0 rfl cs _ BA.range Tryd.underlying29 rfl HI.out ?_)
    | (refine wpList_load_want rfl 29 _ rfl (w.heap.size + 1) 0 rfl (addrC true [0, 0, 0, 0, 0, 0, 0, 0, 0, 0, 0, 0, 0, 0, 0, 1]) _ BO.range Tryd.underlying29 rfl HIO.out ?_)
    | (go_at_call 58; (with_reducible refine (HV.out _).mono ?_); rintro e wn ⟨rfl, Cn⟩; replace BA := BA.ch Cn (by simp); replace BO := BO.ch Cn (by simp); replace CC := CC.trans Cn; have c0 := (BA.cell 0).trans K0.out; have c1 := (BA.cell 1).trans K1.out; have c2 := (BA.cell 2).trans K2.out; clear Cn))
  go_ret
  exact ⟨rfl, CC⟩

set_option maxRecDepth 20000 in
set_option maxHeartbeats 4000000 in
theorem scP1 (av : List Int) (hg : GoodA av) (hv : validA false av = true) (h1 : decide (at_ av 0 = 127) = true) (w : World) : Calls Tryd.prog 52 #[.agg (addrC false av).toArray] w fun e w' => e = .returned (.int .i64 (2)) ∧ Ch [] w w' := by
  obtain ⟨x0, x1⟩ := hg.at (show 0 < 16 by omega)
  obtain ⟨y0, y1⟩ := hg.at (show 1 < 16 by omega)
  have HI := hid (addr_inf (six := false) hg.1)
  have HIO := hid (addr_inf (six := true) (bs := [0, 0, 0, 0, 0, 0, 0, 0, 0, 0, 0, 0, 0, 0, 0, 1]) rfl)
  have K0 : Hid ((addrC false av)[0]? = some (.bool false)) := by show _ = _; rfl
  have K1 : Hid ((addrC false av)[1]? = some (.int .u8 (at_ av 0))) := addrC_byte (k := 0) (by rw [hg.1]; omega)
  have K2 : Hid ((addrC false av)[2]? = some (.int .u8 (at_ av 1))) := addrC_byte (k := 1) (by rw [hg.1]; omega)
  have BA : Blk ((w.alloc (.cells (addrC false av).toArray 29)).alloc (.cells #[.bool true, .int .u8 0, .int .u8 0, .int .u8 0, .int .u8 0, .int .u8 0, .int .u8 0, .int .u8 0, .int .u8 0, .int .u8 0, .int .u8 0, .int .u8 0, .int .u8 0, .int .u8 0, .int .u8 0, .int .u8 0, .int .u8 1] 29)) w.heap.size 29 (addrC false av) := (Blk.new w _ _).alloc _
  have BO : Blk ((w.alloc (.cells (addrC false av).toArray 29)).alloc (.cells #[.bool true, .int .u8 0, .int .u8 0, .int .u8 0, .int .u8 0, .int .u8 0, .int .u8 0, .int .u8 0, .int .u8 0, .int .u8 0, .int .u8 0, .int .u8 0, .int .u8 0, .int .u8 0, .int .u8 0, .int .u8 0, .int .u8 1] 29)) (w.heap.size + 1) 29 (addrC true [0, 0, 0, 0, 0, 0, 0, 0, 0, 0, 0, 0, 0, 0, 0, 1]) := Blk.newAt _ 29 (addrC true [0, 0, 0, 0, 0, 0, 0, 0, 0, 0, 0, 0, 0, 0, 0, 1]) (by simp)
  have CC : Ch [] w ((w.alloc (.cells (addrC false av).toArray 29)).alloc (.cells #[.bool true, .int .u8 0, .int .u8 0, .int .u8 0, .int .u8 0, .int .u8 0, .int .u8 0, .int .u8 0, .int .u8 0, .int .u8 0, .int .u8 0, .int .u8 0, .int .u8 0, .int .u8 0, .int .u8 0, .int .u8 0, .int .u8 1] 29)) := ((Ch.refl _ _).alloc _).alloc _
  have HV := hid (ipValid false av hg.1 hg.2)
  rw [hv] at HV
  have H1 : Hid (∀ w1 : World, Calls Tryd.prog 81 #[.agg (addrC false av).toArray, .int .i64 8, .slice (some ⟨w1.heap.size, 0, none⟩) 1 1] (w1.alloc (.cells #[.int .u8 127] 5)) fun e w' => e = .returned (.bool (decide (at_ av 0 = 127))) ∧ Ch [] w1 w') := fun w1 => by
    rw [← h127 hg hv]
    exact (has1 false av hg 127 8 (by decide) w1.heap.size _ (Blk.new w1 5 [.int .u8 127]).range (by simp)).mono fun _ _ ⟨h1, h2⟩ => ⟨h1, ((Ch.refl _ _).alloc _).trans h2⟩
  rw [h1] at H1
  clear h1 hv
  generalize at_ av 0 = x at K1 x0 x1 ⊢
  generalize at_ av 1 = y at K2 y0 y1 ⊢
  generalize addrC false av = cs at HI K0 K1 K2 BA BO CC HV H1 ⊢
  clear hg
  go_enter Tryd.func52, Tryd.ntmps52
  go_wp2_with (first
    | go_skip
    | (refine wpList_load_want rfl 29 _ rfl w.heap.size 0 rfl cs _ BA.range Tryd.underlying29 rfl HI.out ?_)
    | (refine wpList_load_want rfl 29 _ rfl (w.heap.size + 1) 0 rfl (addrC true [0, 0, 0, 0, 0, 0, 0, 0, 0, 0, 0, 0, 0, 0, 0, 1]) _ BO.range Tryd.underlying29 rfl HIO.out ?_)
    | (go_at_call 58; (with_reducible refine (HV.out _).mono ?_); rintro e wn ⟨rfl, Cn⟩; replace BA := BA.ch Cn (by simp); replace BO := BO.ch Cn (by simp); replace CC := CC.trans Cn; have c0 := (BA.cell 0).trans K0.out; have c1 := (BA.cell 1).trans K1.out; have c2 := (BA.cell 2).trans K2.out; clear Cn)
    | (go_at_call 81; (with_reducible refine (H1.out _).mono ?_); rintro e wn ⟨rfl, Cn⟩; replace BA := BA.ch Cn (by simp); replace BO := BO.ch Cn (by simp); replace CC := CC.trans Cn; have c0 := (BA.cell 0).trans K0.out; have c1 := (BA.cell 1).trans K1.out; have c2 := (BA.cell 2).trans K2.out; clear Cn))
  go_ret
  exact ⟨rfl, CC⟩

set_option maxRecDepth 20000 in
set_option maxHeartbeats 4000000 in
theorem scP2 (av : List Int) (hg : GoodA av) (hv : validA false av = true) (h1 : decide (at_ av 0 = 127) = false) (h2 : (decide (at_ av 0 = 169) && decide (at_ av 1 = 254)) = true) (w : World) : Calls Tryd.prog 52 #[.agg (addrC false av).toArray] w fun e w' => e = .returned (.int .i64 (2)) ∧ Ch [] w w' := by
  obtain ⟨x0, x1⟩ := hg.at (show 0 < 16 by omega)
  obtain ⟨y0, y1⟩ := hg.at (show 1 < 16 by omega)
  have HI := hid (addr_inf (six := false) hg.1)
  have HIO := hid (addr_inf (six := true) (bs := [0, 0, 0, 0, 0, 0, 0, 0, 0, 0, 0, 0, 0, 0, 0, 1]) rfl)
  have K0 : Hid ((addrC false av)[0]? = some (.bool false)) := by show _ = _; rfl
  have K1 : Hid ((addrC false av)[1]? = some (.int .u8 (at_ av 0))) := addrC_byte (k := 0) (by rw [hg.1]; omega)
  have K2 : Hid ((addrC false av)[2]? = some (.int .u8 (at_ av 1))) := addrC_byte (k := 1) (by rw [hg.1]; omega)
  have BA : Blk ((w.alloc (.cells (addrC false av).toArray 29)).alloc (.cells #[.bool true, .int .u8 0, .int .u8 0, .int .u8 0, .int .u8 0, .int .u8 0, .int .u8 0, .int .u8 0, .int .u8 0, .int .u8 0, .int .u8 0, .int .u8 0, .int .u8 0, .int .u8 0, .int .u8 0, .int .u8 0, .int .u8 1] 29)) w.heap.size 29 (addrC false av) := (Blk.new w _ _).alloc _
  have BO : Blk ((w.alloc (.cells (addrC false av).toArray 29)).alloc (.cells #[.bool true, .int .u8 0, .int .u8 0, .int .u8 0, .int .u8 0, .int .u8 0, .int .u8 0, .int .u8 0, .int .u8 0, .int .u8 0, .int .u8 0, .int .u8 0, .int .u8 0, .int .u8 0, .int .u8 0, .int .u8 0, .int .u8 1] 29)) (w.heap.size + 1) 29 (addrC true [0, 0, 0, 0, 0, 0, 0, 0, 0, 0, 0, 0, 0, 0, 0, 1]) := Blk.newAt _ 29 (addrC true [0, 0, 0, 0, 0, 0, 0, 0, 0, 0, 0, 0, 0, 0, 0, 1]) (by simp)
  have CC : Ch [] w ((w.alloc (.cells (addrC false av).toArray 29)).alloc (.cells #[.bool true, .int .u8 0, .int .u8 0, .int .u8 0, .int .u8 0, .int .u8 0, .int .u8 0, .int .u8 0, .int .u8 0, .int .u8 0, .int .u8 0, .int .u8 0, .int .u8 0, .int .u8 0, .int .u8 0, .int .u8 0, .int .u8 1] 29)) := ((Ch.refl _ _).alloc _).alloc _
  have HV := hid (ipValid false av hg.1 hg.2)
  rw [hv] at HV
  have H1 : Hid (∀ w1 : World, Calls Tryd.prog 81 #[.agg (addrC false av).toArray, .int .i64 8, .slice (some ⟨w1.heap.size, 0, none⟩) 1 1] (w1.alloc (.cells #[.int .u8 127] 5)) fun e w' => e = .returned (.bool (decide (at_ av 0 = 127))) ∧ Ch [] w1 w') := fun w1 => by
    rw [← h127 hg hv]
    exact (has1 false av hg 127 8 (by decide) w1.heap.size _ (Blk.new w1 5 [.int .u8 127]).range (by simp)).mono fun _ _ ⟨h1, h2⟩ => ⟨h1, ((Ch.refl _ _).alloc _).trans h2⟩
  rw [h1] at H1
  have H2 : Hid (∀ w1 : World, Calls Tryd.prog 81 #[.agg (addrC false av).toArray, .int .i64 16, .slice (some ⟨w1.heap.size, 0, none⟩) 2 2] (w1.alloc (.cells #[.int .u8 169, .int .u8 254] 5)) fun e w' => e = .returned (.bool (decide (at_ av 0 = 169) && decide (at_ av 1 = 254))) ∧ Ch [] w1 w') := fun w1 => by
    rw [← h169 hg hv]
    exact (has2 false av hg 169 254 16 (by decide) (by decide) w1.heap.size _ (Blk.new w1 5 [.int .u8 169, .int .u8 254]).range (by simp)).mono fun _ _ ⟨h1, h2⟩ => ⟨h1, ((Ch.refl _ _).alloc _).trans h2⟩
  rw [h2] at H2
  clear h1 h2 hv
  generalize at_ av 0 = x at K1 x0 x1 ⊢
  generalize at_ av 1 = y at K2 y0 y1 ⊢
  generalize addrC false av = cs at HI K0 K1 K2 BA BO CC HV H1 H2 ⊢
  clear hg
  go_enter Tryd.func52, Tryd.ntmps52
  go_wp2_with (first
    | go_skip
    | (refine wpList_load_want rfl 29 _ rfl w.heap.size 0 rfl cs _ BA.range Tryd.underlying29 rfl HI.out ?_)
    | (refine wpList_load_want rfl 29 _ rfl (w.heap.size + 1) 0 rfl (addrC true [0, 0, 0, 0, 0, 0, 0, 0, 0, 0, 0, 0, 0, 0, 0, 1]) _ BO.range Tryd.underlying29 rfl HIO.out ?_)
    | (go_at_call 58; (with_reducible refine (HV.out _).mono ?_); rintro e wn ⟨rfl, Cn⟩; replace BA := BA.ch Cn (by simp); replace BO := BO.ch Cn (by simp); replace CC := CC.trans Cn; have c0 := (BA.cell 0).trans K0.out; have c1 := (BA.cell 1).trans K1.out; have c2 := (BA.cell 2).trans K2.out; clear Cn)
    | (go_at_call 81; (with_reducible refine (H1.out _).mono ?_); rintro e wn ⟨rfl, Cn⟩; replace BA := BA.ch Cn (by simp); replace BO := BO.ch Cn (by simp); replace CC := CC.trans Cn; have c0 := (BA.cell 0).trans K0.out; have c1 := (BA.cell 1).trans K1.out; have c2 := (BA.cell 2).trans K2.out; clear Cn)
    | (go_at_call 81; (with_reducible refine (H2.out _).mono ?_); rintro e wn ⟨rfl, Cn⟩; replace BA := BA.ch Cn (by simp); replace BO := BO.ch Cn (by simp); replace CC := CC.trans Cn; have c0 := (BA.cell 0).trans K0.out; have c1 := (BA.cell 1).trans K1.out; have c2 := (BA.cell 2).trans K2.out; clear Cn))
  go_ret
  exact ⟨rfl, CC⟩

set_option maxRecDepth 20000 in
set_option maxHeartbeats 4000000 in
theorem scP3 (av : List Int) (hg : GoodA av) (hv : validA false av = true) (h1 : decide (at_ av 0 = 127) = false) (h2 : (decide (at_ av 0 = 169) && decide (at_ av 1 = 254)) = false) (w : World) : Calls Tryd.prog 52 #[.agg (addrC false av).toArray] w fun e w' => e = .returned (.int .i64 (14)) ∧ Ch [] w w' := by
  obtain ⟨x0, x1⟩ := hg.at (show 0 < 16 by omega)
  obtain ⟨y0, y1⟩ := hg.at (show 1 < 16 by omega)
  have HI := hid (addr_inf (six := false) hg.1)
  have HIO := hid (addr_inf (six := true) (bs := [0, 0, 0, 0, 0, 0, 0, 0, 0, 0, 0, 0, 0, 0, 0, 1]) rfl)
  have K0 : Hid ((addrC false av)[0]? = some (.bool false)) := by show _ = _; rfl
  have K1 : Hid ((addrC false av)[1]? = some (.int .u8 (at_ av 0))) := addrC_byte (k := 0) (by rw [hg.1]; omega)
  have K2 : Hid ((addrC false av)[2]? = some (.int .u8 (at_ av 1))) := addrC_byte (k := 1) (by rw [hg.1]; omega)
  have BA : Blk ((w.alloc (.cells (addrC false av).toArray 29)).alloc (.cells #[.bool true, .int .u8 0, .int .u8 0, .int .u8 0, .int .u8 0, .int .u8 0, .int .u8 0, .int .u8 0, .int .u8 0, .int .u8 0, .int .u8 0, .int .u8 0, .int .u8 0, .int .u8 0, .int .u8 0, .int .u8 0, .int .u8 1] 29)) w.heap.size 29 (addrC false av) := (Blk.new w _ _).alloc _
  have BO : Blk ((w.alloc (.cells (addrC false av).toArray 29)).alloc (.cells #[.bool true, .int .u8 0, .int .u8 0, .int .u8 0, .int .u8 0, .int .u8 0, .int .u8 0, .int .u8 0, .int .u8 0, .int .u8 0, .int .u8 0, .int .u8 0, .int .u8 0, .int .u8 0, .int .u8 0, .int .u8 0, .int .u8 1] 29)) (w.heap.size + 1) 29 (addrC true [0, 0, 0, 0, 0, 0, 0, 0, 0, 0, 0, 0, 0, 0, 0, 1]) := Blk.newAt _ 29 (addrC true [0, 0, 0, 0, 0, 0, 0, 0, 0, 0, 0, 0, 0, 0, 0, 1]) (by simp)
  have CC : Ch [] w ((w.alloc (.cells (addrC false av).toArray 29)).alloc (.cells #[.bool true, .int .u8 0, .int .u8 0, .int .u8 0, .int .u8 0, .int .u8 0, .int .u8 0, .int .u8 0, .int .u8 0, .int .u8 0, .int .u8 0, .int .u8 0, .int .u8 0, .int .u8 0, .int .u8 0, .int .u8 0, .int .u8 1] 29)) := ((Ch.refl _ _).alloc _).alloc _
  have HV := hid (ipValid false av hg.1 hg.2)
  rw [hv] at HV
  have H1 : Hid (∀ w1 : World, Calls Tryd.prog 81 #[.agg (addrC false av).toArray, .int .i64 8, .slice (some ⟨w1.heap.size, 0, none⟩) 1 1] (w1.alloc (.cells #[.int .u8 127] 5)) fun e w' => e = .returned (.bool (decide (at_ av 0 = 127))) ∧ Ch [] w1 w') := fun w1 => by
    rw [← h127 hg hv]
    exact (has1 false av hg 127 8 (by decide) w1.heap.size _ (Blk.new w1 5 [.int .u8 127]).range (by simp)).mono fun _ _ ⟨h1, h2⟩ => ⟨h1, ((Ch.refl _ _).alloc _).trans h2⟩
  rw [h1] at H1
  have H2 : Hid (∀ w1 : World, Calls Tryd.prog 81 #[.agg (addrC false av).toArray, .int .i64 16, .slice (some ⟨w1.heap.size, 0, none⟩) 2 2] (w1.alloc (.cells #[.int .u8 169, .int .u8 254] 5)) fun e w' => e = .returned (.bool (decide (at_ av 0 = 169) && decide (at_ av 1 = 254))) ∧ Ch [] w1 w') := fun w1 => by
    rw [← h169 hg hv]
    exact (has2 false av hg 169 254 16 (by decide) (by decide) w1.heap.size _ (Blk.new w1 5 [.int .u8 169, .int .u8 254]).range (by simp)).mono fun _ _ ⟨h1, h2⟩ => ⟨h1, ((Ch.refl _ _).alloc _).trans h2⟩
  rw [h2] at H2
  clear h1 h2 hv
  generalize at_ av 0 = x at K1 x0 x1 ⊢
  generalize at_ av 1 = y at K2 y0 y1 ⊢
  generalize addrC false av = cs at HI K0 K1 K2 BA BO CC HV H1 H2 ⊢
  clear hg
  go_enter Tryd.func52, Tryd.ntmps52
  go_wp2_with (first
    | go_skip
    | (refine wpList_load_want rfl 29 _ rfl w.heap.size 0 rfl cs _ BA.range Tryd.underlying29 rfl HI.out ?_)
    | (refine wpList_load_want rfl 29 _ rfl (w.heap.size + 1) 0 rfl (addrC true [0, 0, 0, 0, 0, 0, 0, 0, 0, 0, 0, 0, 0, 0, 0, 1]) _ BO.range Tryd.underlying29 rfl HIO.out ?_)
    | (go_at_call 58; (with_reducible refine (HV.out _).mono ?_); rintro e wn ⟨rfl, Cn⟩; replace BA := BA.ch Cn (by simp); replace BO := BO.ch Cn (by simp); replace CC := CC.trans Cn; have c0 := (BA.cell 0).trans K0.out; have c1 := (BA.cell 1).trans K1.out; have c2 := (BA.cell 2).trans K2.out; clear Cn)
    | (go_at_call 81; (with_reducible refine (H1.out _).mono ?_); rintro e wn ⟨rfl, Cn⟩; replace BA := BA.ch Cn (by simp); replace BO := BO.ch Cn (by simp); replace CC := CC.trans Cn; have c0 := (BA.cell 0).trans K0.out; have c1 := (BA.cell 1).trans K1.out; have c2 := (BA.cell 2).trans K2.out; clear Cn)
    | (go_at_call 81; (with_reducible refine (H2.out _).mono ?_); rintro e wn ⟨rfl, Cn⟩; replace BA := BA.ch Cn (by simp); replace BO := BO.ch Cn (by simp); replace CC := CC.trans Cn; have c0 := (BA.cell 0).trans K0.out; have c1 := (BA.cell 1).trans K1.out; have c2 := (BA.cell 2).trans K2.out; clear Cn))
  go_ret
  exact ⟨rfl, CC⟩

set_option maxRecDepth 20000 in
set_option maxHeartbeats 4000000 in
theorem scP4 (av : List Int) (hg : GoodA av) (hv : validA true av = true) (hx : (at_ av 0 == 255) = true) (w : World) : Calls Tryd.prog 52 #[.agg (addrC true av).toArray] w fun e w' => e = .returned (.int .i64 (at_ av 1 % 16)) ∧ Ch [] w w' := by
  obtain ⟨x0, x1⟩ := hg.at (show 0 < 16 by omega)
  obtain ⟨y0, y1⟩ := hg.at (show 1 < 16 by omega)
  have HI := hid (addr_inf (six := true) hg.1)
  have HIO := hid (addr_inf (six := true) (bs := [0, 0, 0, 0, 0, 0, 0, 0, 0, 0, 0, 0, 0, 0, 0, 1]) rfl)
  have K0 : Hid ((addrC true av)[0]? = some (.bool true)) := by show _ = _; rfl
  have K1 : Hid ((addrC true av)[1]? = some (.int .u8 (at_ av 0))) := addrC_byte (k := 0) (by rw [hg.1]; omega)
  have K2 : Hid ((addrC true av)[2]? = some (.int .u8 (at_ av 1))) := addrC_byte (k := 1) (by rw [hg.1]; omega)
  have BA : Blk ((w.alloc (.cells (addrC true av).toArray 29)).alloc (.cells #[.bool true, .int .u8 0, .int .u8 0, .int .u8 0, .int .u8 0, .int .u8 0, .int .u8 0, .int .u8 0, .int .u8 0, .int .u8 0, .int .u8 0, .int .u8 0, .int .u8 0, .int .u8 0, .int .u8 0, .int .u8 0, .int .u8 1] 29)) w.heap.size 29 (addrC true av) := (Blk.new w _ _).alloc _
  have BO : Blk ((w.alloc (.cells (addrC true av).toArray 29)).alloc (.cells #[.bool true, .int .u8 0, .int .u8 0, .int .u8 0, .int .u8 0, .int .u8 0, .int .u8 0, .int .u8 0, .int .u8 0, .int .u8 0, .int .u8 0, .int .u8 0, .int .u8 0, .int .u8 0, .int .u8 0, .int .u8 0, .int .u8 1] 29)) (w.heap.size + 1) 29 (addrC true [0, 0, 0, 0, 0, 0, 0, 0, 0, 0, 0, 0, 0, 0, 0, 1]) := Blk.newAt _ 29 (addrC true [0, 0, 0, 0, 0, 0, 0, 0, 0, 0, 0, 0, 0, 0, 0, 1]) (by simp)
  have CC : Ch [] w ((w.alloc (.cells (addrC true av).toArray 29)).alloc (.cells #[.bool true, .int .u8 0, .int .u8 0, .int .u8 0, .int .u8 0, .int .u8 0, .int .u8 0, .int .u8 0, .int .u8 0, .int .u8 0, .int .u8 0, .int .u8 0, .int .u8 0, .int .u8 0, .int .u8 0, .int .u8 0, .int .u8 1] 29)) := ((Ch.refl _ _).alloc _).alloc _
  have HV := hid (ipValid true av hg.1 hg.2)
  rw [hv] at HV
  clear hv
  generalize at_ av 0 = x at K1 x0 x1 hx ⊢
  generalize at_ av 1 = y at K2 y0 y1 ⊢
  generalize addrC true av = cs at HI K0 K1 K2 BA BO CC HV ⊢
  clear hg
  go_enter Tryd.func52, Tryd.ntmps52
  go_wp2_with (first
    | go_skip
    | (refine wpList_load_want rfl 29 _ rfl w.heap.size 0 rfl cs _ BA.range Tryd.underlying29 rfl HI.out ?_)
    | (refine wpList_load_want rfl 29 _ rfl (w.heap.size + 1) 0 rfl (addrC true [0, 0, 0, 0, 0, 0, 0, 0, 0, 0, 0, 0, 0, 0, 0, 1]) _ BO.range Tryd.underlying29 rfl HIO.out ?_)
    | (go_at_call 58; (with_reducible refine (HV.out _).mono ?_); rintro e wn ⟨rfl, Cn⟩; replace BA := BA.ch Cn (by simp); replace BO := BO.ch Cn (by simp); replace CC := CC.trans Cn; have c0 := (BA.cell 0).trans K0.out; have c1 := (BA.cell 1).trans K1.out; have c2 := (BA.cell 2).trans K2.out; clear Cn))
  go_ret
  exact ⟨rfl, CC⟩

set_option maxRecDepth 20000 in
set_option maxHeartbeats 4000000 in
theorem scP5 (av : List Int) (hg : GoodA av) (hv : validA true av = true) (hx : (at_ av 0 == 255) = false) (he : decide (av = [0, 0, 0, 0, 0, 0, 0, 0, 0, 0, 0, 0, 0, 0, 0, 1]) = true) (w : World) : Calls Tryd.prog 52 #[.agg (addrC true av).toArray] w fun e w' => e = .returned (.int .i64 (2)) ∧ Ch [] w w' := by
  obtain ⟨x0, x1⟩ := hg.at (show 0 < 16 by omega)
  obtain ⟨y0, y1⟩ := hg.at (show 1 < 16 by omega)
  have HI := hid (addr_inf (six := true) hg.1)
  have HIO := hid (addr_inf (six := true) (bs := [0, 0, 0, 0, 0, 0, 0, 0, 0, 0, 0, 0, 0, 0, 0, 1]) rfl)
  have K0 : Hid ((addrC true av)[0]? = some (.bool true)) := by show _ = _; rfl
  have K1 : Hid ((addrC true av)[1]? = some (.int .u8 (at_ av 0))) := addrC_byte (k := 0) (by rw [hg.1]; omega)
  have K2 : Hid ((addrC true av)[2]? = some (.int .u8 (at_ av 1))) := addrC_byte (k := 1) (by rw [hg.1]; omega)
  have BA : Blk ((w.alloc (.cells (addrC true av).toArray 29)).alloc (.cells #[.bool true, .int .u8 0, .int .u8 0, .int .u8 0, .int .u8 0, .int .u8 0, .int .u8 0, .int .u8 0, .int .u8 0, .int .u8 0, .int .u8 0, .int .u8 0, .int .u8 0, .int .u8 0, .int .u8 0, .int .u8 0, .int .u8 1] 29)) w.heap.size 29 (addrC true av) := (Blk.new w _ _).alloc _
  have BO : Blk ((w.alloc (.cells (addrC true av).toArray 29)).alloc (.cells #[.bool true, .int .u8 0, .int .u8 0, .int .u8 0, .int .u8 0, .int .u8 0, .int .u8 0, .int .u8 0, .int .u8 0, .int .u8 0, .int .u8 0, .int .u8 0, .int .u8 0, .int .u8 0, .int .u8 0, .int .u8 0, .int .u8 1] 29)) (w.heap.size + 1) 29 (addrC true [0, 0, 0, 0, 0, 0, 0, 0, 0, 0, 0, 0, 0, 0, 0, 1]) := Blk.newAt _ 29 (addrC true [0, 0, 0, 0, 0, 0, 0, 0, 0, 0, 0, 0, 0, 0, 0, 1]) (by simp)
  have CC : Ch [] w ((w.alloc (.cells (addrC true av).toArray 29)).alloc (.cells #[.bool true, .int .u8 0, .int .u8 0, .int .u8 0, .int .u8 0, .int .u8 0, .int .u8 0, .int .u8 0, .int .u8 0, .int .u8 0, .int .u8 0, .int .u8 0, .int .u8 0, .int .u8 0, .int .u8 0, .int .u8 0, .int .u8 1] 29)) := ((Ch.refl _ _).alloc _).alloc _
  have HV := hid (ipValid true av hg.1 hg.2)
  rw [hv] at HV
  have hq : ∀ w, (Op.equalIn 10000 29 (.agg (addrC true av).toArray) (.agg (addrC true [0, 0, 0, 0, 0, 0, 0, 0, 0, 0, 0, 0, 0, 0, 0, 1]).toArray)).run Tryd.prog w = .ok (decide (av = [0, 0, 0, 0, 0, 0, 0, 0, 0, 0, 0, 0, 0, 0, 0, 1])) w := fun w => by
    rw [addr_eq true true av [0, 0, 0, 0, 0, 0, 0, 0, 0, 0, 0, 0, 0, 0, 0, 1] hg.1 rfl w]; rfl
  rw [he] at hq
  clear hv he
  generalize at_ av 0 = x at K1 x0 x1 hx ⊢
  generalize at_ av 1 = y at K2 y0 y1 ⊢
  generalize addrC true av = cs at HI K0 K1 K2 BA BO CC HV hq ⊢
  clear hg
  go_enter Tryd.func52, Tryd.ntmps52
  go_wp2_with (first
    | go_skip
    | (refine wpList_load_want rfl 29 _ rfl w.heap.size 0 rfl cs _ BA.range Tryd.underlying29 rfl HI.out ?_)
    | (refine wpList_load_want rfl 29 _ rfl (w.heap.size + 1) 0 rfl (addrC true [0, 0, 0, 0, 0, 0, 0, 0, 0, 0, 0, 0, 0, 0, 0, 1]) _ BO.range Tryd.underlying29 rfl HIO.out ?_)
    | (go_at_call 58; (with_reducible refine (HV.out _).mono ?_); rintro e wn ⟨rfl, Cn⟩; replace BA := BA.ch Cn (by simp); replace BO := BO.ch Cn (by simp); replace CC := CC.trans Cn; have c0 := (BA.cell 0).trans K0.out; have c1 := (BA.cell 1).trans K1.out; have c2 := (BA.cell 2).trans K2.out; clear Cn))
  go_ret
  exact ⟨rfl, CC⟩

set_option maxRecDepth 20000 in
set_option maxHeartbeats 4000000 in
theorem scP6 (av : List Int) (hg : GoodA av) (hv : validA true av = true) (hx : (at_ av 0 == 255) = false) (he : decide (av = [0, 0, 0, 0, 0, 0, 0, 0, 0, 0, 0, 0, 0, 0, 0, 1]) = false) (h3 : (decide (at_ av 0 = 254) && decide (cutB (at_ av 1) 2 = 128)) = true) (w : World) : Calls Tryd.prog 52 #[.agg (addrC true av).toArray] w fun e w' => e = .returned (.int .i64 (2)) ∧ Ch [] w w' := by
  obtain ⟨x0, x1⟩ := hg.at (show 0 < 16 by omega)
  obtain ⟨y0, y1⟩ := hg.at (show 1 < 16 by omega)
  have HI := hid (addr_inf (six := true) hg.1)
  have HIO := hid (addr_inf (six := true) (bs := [0, 0, 0, 0, 0, 0, 0, 0, 0, 0, 0, 0, 0, 0, 0, 1]) rfl)
  have K0 : Hid ((addrC true av)[0]? = some (.bool true)) := by show _ = _; rfl
  have K1 : Hid ((addrC true av)[1]? = some (.int .u8 (at_ av 0))) := addrC_byte (k := 0) (by rw [hg.1]; omega)
  have K2 : Hid ((addrC true av)[2]? = some (.int .u8 (at_ av 1))) := addrC_byte (k := 1) (by rw [hg.1]; omega)
  have BA : Blk ((w.alloc (.cells (addrC true av).toArray 29)).alloc (.cells #[.bool true, .int .u8 0, .int .u8 0, .int .u8 0, .int .u8 0, .int .u8 0, .int .u8 0, .int .u8 0, .int .u8 0, .int .u8 0, .int .u8 0, .int .u8 0, .int .u8 0, .int .u8 0, .int .u8 0, .int .u8 0, .int .u8 1] 29)) w.heap.size 29 (addrC true av) := (Blk.new w _ _).alloc _
  have BO : Blk ((w.alloc (.cells (addrC true av).toArray 29)).alloc (.cells #[.bool true, .int .u8 0, .int .u8 0, .int .u8 0, .int .u8 0, .int .u8 0, .int .u8 0, .int .u8 0, .int .u8 0, .int .u8 0, .int .u8 0, .int .u8 0, .int .u8 0, .int .u8 0, .int .u8 0, .int .u8 0, .int .u8 1] 29)) (w.heap.size + 1) 29 (addrC true [0, 0, 0, 0, 0, 0, 0, 0, 0, 0, 0, 0, 0, 0, 0, 1]) := Blk.newAt _ 29 (addrC true [0, 0, 0, 0, 0, 0, 0, 0, 0, 0, 0, 0, 0, 0, 0, 1]) (by simp)
  have CC : Ch [] w ((w.alloc (.cells (addrC true av).toArray 29)).alloc (.cells #[.bool true, .int .u8 0, .int .u8 0, .int .u8 0, .int .u8 0, .int .u8 0, .int .u8 0, .int .u8 0, .int .u8 0, .int .u8 0, .int .u8 0, .int .u8 0, .int .u8 0, .int .u8 0, .int .u8 0, .int .u8 0, .int .u8 1] 29)) := ((Ch.refl _ _).alloc _).alloc _
  have HV := hid (ipValid true av hg.1 hg.2)
  rw [hv] at HV
  have hq : ∀ w, (Op.equalIn 10000 29 (.agg (addrC true av).toArray) (.agg (addrC true [0, 0, 0, 0, 0, 0, 0, 0, 0, 0, 0, 0, 0, 0, 0, 1]).toArray)).run Tryd.prog w = .ok (decide (av = [0, 0, 0, 0, 0, 0, 0, 0, 0, 0, 0, 0, 0, 0, 0, 1])) w := fun w => by
    rw [addr_eq true true av [0, 0, 0, 0, 0, 0, 0, 0, 0, 0, 0, 0, 0, 0, 0, 1] hg.1 rfl w]; rfl
  rw [he] at hq
  have H3 : Hid (∀ w1 : World, Calls Tryd.prog 81 #[.agg (addrC true av).toArray, .int .i64 10, .slice (some ⟨w1.heap.size, 0, none⟩) 2 2] (w1.alloc (.cells #[.int .u8 254, .int .u8 128] 5)) fun e w' => e = .returned (.bool (decide (at_ av 0 = 254) && decide (cutB (at_ av 1) 2 = 128))) ∧ Ch [] w1 w') := fun w1 => by
    rw [← hFE hg 128 (by decide)]
    exact (has2 true av hg 254 128 10 (by decide) (by decide) w1.heap.size _ (Blk.new w1 5 [.int .u8 254, .int .u8 128]).range (by simp)).mono fun _ _ ⟨h1, h2⟩ => ⟨h1, ((Ch.refl _ _).alloc _).trans h2⟩
  rw [h3] at H3
  clear hv he h3
  generalize at_ av 0 = x at K1 x0 x1 hx ⊢
  generalize at_ av 1 = y at K2 y0 y1 ⊢
  generalize addrC true av = cs at HI K0 K1 K2 BA BO CC HV hq H3 ⊢
  clear hg
  go_enter Tryd.func52, Tryd.ntmps52
  go_wp2_with (first
    | go_skip
    | (refine wpList_load_want rfl 29 _ rfl w.heap.size 0 rfl cs _ BA.range Tryd.underlying29 rfl HI.out ?_)
    | (refine wpList_load_want rfl 29 _ rfl (w.heap.size + 1) 0 rfl (addrC true [0, 0, 0, 0, 0, 0, 0, 0, 0, 0, 0, 0, 0, 0, 0, 1]) _ BO.range Tryd.underlying29 rfl HIO.out ?_)
    | (go_at_call 58; (with_reducible refine (HV.out _).mono ?_); rintro e wn ⟨rfl, Cn⟩; replace BA := BA.ch Cn (by simp); replace BO := BO.ch Cn (by simp); replace CC := CC.trans Cn; have c0 := (BA.cell 0).trans K0.out; have c1 := (BA.cell 1).trans K1.out; have c2 := (BA.cell 2).trans K2.out; clear Cn)
    | (go_at_call 81; (with_reducible refine (H3.out _).mono ?_); rintro e wn ⟨rfl, Cn⟩; replace BA := BA.ch Cn (by simp); replace BO := BO.ch Cn (by simp); replace CC := CC.trans Cn; have c0 := (BA.cell 0).trans K0.out; have c1 := (BA.cell 1).trans K1.out; have c2 := (BA.cell 2).trans K2.out; clear Cn))
  go_ret
  exact ⟨rfl, CC⟩

set_option maxRecDepth 20000 in
set_option maxHeartbeats 4000000 in
theorem scP7 (av : List Int) (hg : GoodA av) (hv : validA true av = true) (hx : (at_ av 0 == 255) = false) (he : decide (av = [0, 0, 0, 0, 0, 0, 0, 0, 0, 0, 0, 0, 0, 0, 0, 1]) = false) (h3 : (decide (at_ av 0 = 254) && decide (cutB (at_ av 1) 2 = 128)) = false) (h4 : (decide (at_ av 0 = 254) && decide (cutB (at_ av 1) 2 = 192)) = true) (w : World) : Calls Tryd.prog 52 #[.agg (addrC true av).toArray] w fun e w' => e = .returned (.int .i64 (5)) ∧ Ch [] w w' := by
  obtain ⟨x0, x1⟩ := hg.at (show 0 < 16 by omega)
  obtain ⟨y0, y1⟩ := hg.at (show 1 < 16 by omega)
  have HI := hid (addr_inf (six := true) hg.1)
  have HIO := hid (addr_inf (six := true) (bs := [0, 0, 0, 0, 0, 0, 0, 0, 0, 0, 0, 0, 0, 0, 0, 1]) rfl)
  have K0 : Hid ((addrC true av)[0]? = some (.bool true)) := by show _ = _; rfl
  have K1 : Hid ((addrC true av)[1]? = some (.int .u8 (at_ av 0))) := addrC_byte (k := 0) (by rw [hg.1]; omega)
  have K2 : Hid ((addrC true av)[2]? = some (.int .u8 (at_ av 1))) := addrC_byte (k := 1) (by rw [hg.1]; omega)
  have BA : Blk ((w.alloc (.cells (addrC true av).toArray 29)).alloc (.cells #[.bool true, .int .u8 0, .int .u8 0, .int .u8 0, .int .u8 0, .int .u8 0, .int .u8 0, .int .u8 0, .int .u8 0, .int .u8 0, .int .u8 0, .int .u8 0, .int .u8 0, .int .u8 0, .int .u8 0, .int .u8 0, .int .u8 1] 29)) w.heap.size 29 (addrC true av) := (Blk.new w _ _).alloc _
  have BO : Blk ((w.alloc (.cells (addrC true av).toArray 29)).alloc (.cells #[.bool true, .int .u8 0, .int .u8 0, .int .u8 0, .int .u8 0, .int .u8 0, .int .u8 0, .int .u8 0, .int .u8 0, .int .u8 0, .int .u8 0, .int .u8 0, .int .u8 0, .int .u8 0, .int .u8 0, .int .u8 0, .int .u8 1] 29)) (w.heap.size + 1) 29 (addrC true [0, 0, 0, 0, 0, 0, 0, 0, 0, 0, 0, 0, 0, 0, 0, 1]) := Blk.newAt _ 29 (addrC true [0, 0, 0, 0, 0, 0, 0, 0, 0, 0, 0, 0, 0, 0, 0, 1]) (by simp)
  have CC : Ch [] w ((w.alloc (.cells (addrC true av).toArray 29)).alloc (.cells #[.bool true, .int .u8 0, .int .u8 0, .int .u8 0, .int .u8 0, .int .u8 0, .int .u8 0, .int .u8 0, .int .u8 0, .int .u8 0, .int .u8 0, .int .u8 0, .int .u8 0, .int .u8 0, .int .u8 0, .int .u8 0, .int .u8 1] 29)) := ((Ch.refl _ _).alloc _).alloc _
  have HV := hid (ipValid true av hg.1 hg.2)
  rw [hv] at HV
  have hq : ∀ w, (Op.equalIn 10000 29 (.agg (addrC true av).toArray) (.agg (addrC true [0, 0, 0, 0, 0, 0, 0, 0, 0, 0, 0, 0, 0, 0, 0, 1]).toArray)).run Tryd.prog w = .ok (decide (av = [0, 0, 0, 0, 0, 0, 0, 0, 0, 0, 0, 0, 0, 0, 0, 1])) w := fun w => by
    rw [addr_eq true true av [0, 0, 0, 0, 0, 0, 0, 0, 0, 0, 0, 0, 0, 0, 0, 1] hg.1 rfl w]; rfl
  rw [he] at hq
  have H3 : Hid (∀ w1 : World, Calls Tryd.prog 81 #[.agg (addrC true av).toArray, .int .i64 10, .slice (some ⟨w1.heap.size, 0, none⟩) 2 2] (w1.alloc (.cells #[.int .u8 254, .int .u8 128] 5)) fun e w' => e = .returned (.bool (decide (at_ av 0 = 254) && decide (cutB (at_ av 1) 2 = 128))) ∧ Ch [] w1 w') := fun w1 => by
    rw [← hFE hg 128 (by decide)]
    exact (has2 true av hg 254 128 10 (by decide) (by decide) w1.heap.size _ (Blk.new w1 5 [.int .u8 254, .int .u8 128]).range (by simp)).mono fun _ _ ⟨h1, h2⟩ => ⟨h1, ((Ch.refl _ _).alloc _).trans h2⟩
  rw [h3] at H3
  have H4 : Hid (∀ w1 : World, Calls Tryd.prog 81 #[.agg (addrC true av).toArray, .int .i64 10, .slice (some ⟨w1.heap.size, 0, none⟩) 2 2] (w1.alloc (.cells #[.int .u8 254, .int .u8 192] 5)) fun e w' => e = .returned (.bool (decide (at_ av 0 = 254) && decide (cutB (at_ av 1) 2 = 192))) ∧ Ch [] w1 w') := fun w1 => by
    rw [← hFE hg 192 (by decide)]
    exact (has2 true av hg 254 192 10 (by decide) (by decide) w1.heap.size _ (Blk.new w1 5 [.int .u8 254, .int .u8 192]).range (by simp)).mono fun _ _ ⟨h1, h2⟩ => ⟨h1, ((Ch.refl _ _).alloc _).trans h2⟩
  rw [h4] at H4
  clear hv he h3 h4
  generalize at_ av 0 = x at K1 x0 x1 hx ⊢
  generalize at_ av 1 = y at K2 y0 y1 ⊢
  generalize addrC true av = cs at HI K0 K1 K2 BA BO CC HV hq H3 H4 ⊢
  clear hg
  go_enter Tryd.func52, Tryd.ntmps52
  go_wp2_with (first
    | go_skip
    | (refine wpList_load_want rfl 29 _ rfl w.heap.size 0 rfl cs _ BA.range Tryd.underlying29 rfl HI.out ?_)
    | (refine wpList_load_want rfl 29 _ rfl (w.heap.size + 1) 0 rfl (addrC true [0, 0, 0, 0, 0, 0, 0, 0, 0, 0, 0, 0, 0, 0, 0, 1]) _ BO.range Tryd.underlying29 rfl HIO.out ?_)
    | (go_at_call 58; (with_reducible refine (HV.out _).mono ?_); rintro e wn ⟨rfl, Cn⟩; replace BA := BA.ch Cn (by simp); replace BO := BO.ch Cn (by simp); replace CC := CC.trans Cn; have c0 := (BA.cell 0).trans K0.out; have c1 := (BA.cell 1).trans K1.out; have c2 := (BA.cell 2).trans K2.out; clear Cn)
    | (go_at_call 81; (with_reducible refine (H3.out _).mono ?_); rintro e wn ⟨rfl, Cn⟩; replace BA := BA.ch Cn (by simp); replace BO := BO.ch Cn (by simp); replace CC := CC.trans Cn; have c0 := (BA.cell 0).trans K0.out; have c1 := (BA.cell 1).trans K1.out; have c2 := (BA.cell 2).trans K2.out; clear Cn)
    | (go_at_call 81; (with_reducible refine (H4.out _).mono ?_); rintro e wn ⟨rfl, Cn⟩; replace BA := BA.ch Cn (by simp); replace BO := BO.ch Cn (by simp); replace CC := CC.trans Cn; have c0 := (BA.cell 0).trans K0.out; have c1 := (BA.cell 1).trans K1.out; have c2 := (BA.cell 2).trans K2.out; clear Cn))
  go_ret
  exact ⟨rfl, CC⟩

set_option maxRecDepth 20000 in
set_option maxHeartbeats 4000000 in
theorem scP8 (av : List Int) (hg : GoodA av) (hv : validA true av = true) (hx : (at_ av 0 == 255) = false) (he : decide (av = [0, 0, 0, 0, 0, 0, 0, 0, 0, 0, 0, 0, 0, 0, 0, 1]) = false) (h3 : (decide (at_ av 0 = 254) && decide (cutB (at_ av 1) 2 = 128)) = false) (h4 : (decide (at_ av 0 = 254) && decide (cutB (at_ av 1) 2 = 192)) = false) (w : World) : Calls Tryd.prog 52 #[.agg (addrC true av).toArray] w fun e w' => e = .returned (.int .i64 (14)) ∧ Ch [] w w' := by
  obtain ⟨x0, x1⟩ := hg.at (show 0 < 16 by omega)
  obtain ⟨y0, y1⟩ := hg.at (show 1 < 16 by omega)
  have HI := hid (addr_inf (six := true) hg.1)
  have HIO := hid (addr_inf (six := true) (bs := [0, 0, 0, 0, 0, 0, 0, 0, 0, 0, 0, 0, 0, 0, 0, 1]) rfl)
  have K0 : Hid ((addrC true av)[0]? = some (.bool true)) := by show _ = _; rfl
  have K1 : Hid ((addrC true av)[1]? = some (.int .u8 (at_ av 0))) := addrC_byte (k := 0) (by rw [hg.1]; omega)
  have K2 : Hid ((addrC true av)[2]? = some (.int .u8 (at_ av 1))) := addrC_byte (k := 1) (by rw [hg.1]; omega)
  have BA : Blk ((w.alloc (.cells (addrC true av).toArray 29)).alloc (.cells #[.bool true, .int .u8 0, .int .u8 0, .int .u8 0, .int .u8 0, .int .u8 0, .int .u8 0, .int .u8 0, .int .u8 0, .int .u8 0, .int .u8 0, .int .u8 0, .int .u8 0, .int .u8 0, .int .u8 0, .int .u8 0, .int .u8 1] 29)) w.heap.size 29 (addrC true av) := (Blk.new w _ _).alloc _
  have BO : Blk ((w.alloc (.cells (addrC true av).toArray 29)).alloc (.cells #[.bool true, .int .u8 0, .int .u8 0, .int .u8 0, .int .u8 0, .int .u8 0, .int .u8 0, .int .u8 0, .int .u8 0, .int .u8 0, .int .u8 0, .int .u8 0, .int .u8 0, .int .u8 0, .int .u8 0, .int .u8 0, .int .u8 1] 29)) (w.heap.size + 1) 29 (addrC true [0, 0, 0, 0, 0, 0, 0, 0, 0, 0, 0, 0, 0, 0, 0, 1]) := Blk.newAt _ 29 (addrC true [0, 0, 0, 0, 0, 0, 0, 0, 0, 0, 0, 0, 0, 0, 0, 1]) (by simp)
  have CC : Ch [] w ((w.alloc (.cells (addrC true av).toArray 29)).alloc (.cells #[.bool true, .int .u8 0, .int .u8 0, .int .u8 0, .int .u8 0, .int .u8 0, .int .u8 0, .int .u8 0, .int .u8 0, .int .u8 0, .int .u8 0, .int .u8 0, .int .u8 0, .int .u8 0, .int .u8 0, .int .u8 0, .int .u8 1] 29)) := ((Ch.refl _ _).alloc _).alloc _
  have HV := hid (ipValid true av hg.1 hg.2)
  rw [hv] at HV
  have hq : ∀ w, (Op.equalIn 10000 29 (.agg (addrC true av).toArray) (.agg (addrC true [0, 0, 0, 0, 0, 0, 0, 0, 0, 0, 0, 0, 0, 0, 0, 1]).toArray)).run Tryd.prog w = .ok (decide (av = [0, 0, 0, 0, 0, 0, 0, 0, 0, 0, 0, 0, 0, 0, 0, 1])) w := fun w => by
    rw [addr_eq true true av [0, 0, 0, 0, 0, 0, 0, 0, 0, 0, 0, 0, 0, 0, 0, 1] hg.1 rfl w]; rfl
  rw [he] at hq
  have H3 : Hid (∀ w1 : World, Calls Tryd.prog 81 #[.agg (addrC true av).toArray, .int .i64 10, .slice (some ⟨w1.heap.size, 0, none⟩) 2 2] (w1.alloc (.cells #[.int .u8 254, .int .u8 128] 5)) fun e w' => e = .returned (.bool (decide (at_ av 0 = 254) && decide (cutB (at_ av 1) 2 = 128))) ∧ Ch [] w1 w') := fun w1 => by
    rw [← hFE hg 128 (by decide)]
    exact (has2 true av hg 254 128 10 (by decide) (by decide) w1.heap.size _ (Blk.new w1 5 [.int .u8 254, .int .u8 128]).range (by simp)).mono fun _ _ ⟨h1, h2⟩ => ⟨h1, ((Ch.refl _ _).alloc _).trans h2⟩
  rw [h3] at H3
  have H4 : Hid (∀ w1 : World, Calls Tryd.prog 81 #[.agg (addrC true av).toArray, .int .i64 10, .slice (some ⟨w1.heap.size, 0, none⟩) 2 2] (w1.alloc (.cells #[.int .u8 254, .int .u8 192] 5)) fun e w' => e = .returned (.bool (decide (at_ av 0 = 254) && decide (cutB (at_ av 1) 2 = 192))) ∧ Ch [] w1 w') := fun w1 => by
    rw [← hFE hg 192 (by decide)]
    exact (has2 true av hg 254 192 10 (by decide) (by decide) w1.heap.size _ (Blk.new w1 5 [.int .u8 254, .int .u8 192]).range (by simp)).mono fun _ _ ⟨h1, h2⟩ => ⟨h1, ((Ch.refl _ _).alloc _).trans h2⟩
  rw [h4] at H4
  clear hv he h3 h4
  generalize at_ av 0 = x at K1 x0 x1 hx ⊢
  generalize at_ av 1 = y at K2 y0 y1 ⊢
  generalize addrC true av = cs at HI K0 K1 K2 BA BO CC HV hq H3 H4 ⊢
  clear hg
  go_enter Tryd.func52, Tryd.ntmps52
  go_wp2_with (first
    | go_skip
    | (refine wpList_load_want rfl 29 _ rfl w.heap.size 0 rfl cs _ BA.range Tryd.underlying29 rfl HI.out ?_)
    | (refine wpList_load_want rfl 29 _ rfl (w.heap.size + 1) 0 rfl (addrC true [0, 0, 0, 0, 0, 0, 0, 0, 0, 0, 0, 0, 0, 0, 0, 1]) _ BO.range Tryd.underlying29 rfl HIO.out ?_)
    | (go_at_call 58; (with_reducible refine (HV.out _).mono ?_); rintro e wn ⟨rfl, Cn⟩; replace BA := BA.ch Cn (by simp); replace BO := BO.ch Cn (by simp); replace CC := CC.trans Cn; have c0 := (BA.cell 0).trans K0.out; have c1 := (BA.cell 1).trans K1.out; have c2 := (BA.cell 2).trans K2.out; clear Cn)
    | (go_at_call 81; (with_reducible refine (H3.out _).mono ?_); rintro e wn ⟨rfl, Cn⟩; replace BA := BA.ch Cn (by simp); replace BO := BO.ch Cn (by simp); replace CC := CC.trans Cn; have c0 := (BA.cell 0).trans K0.out; have c1 := (BA.cell 1).trans K1.out; have c2 := (BA.cell 2).trans K2.out; clear Cn)
    | (go_at_call 81; (with_reducible refine (H4.out _).mono ?_); rintro e wn ⟨rfl, Cn⟩; replace BA := BA.ch Cn (by simp); replace BO := BO.ch Cn (by simp); replace CC := CC.trans Cn; have c0 := (BA.cell 0).trans K0.out; have c1 := (BA.cell 1).trans K1.out; have c2 := (BA.cell 2).trans K2.out; clear Cn))
  go_ret
  exact ⟨rfl, CC⟩

theorem scopeW (six : Bool) (av : List Int) (hg : GoodA av) (w : World) : Calls Tryd.prog 52 #[.agg (addrC six av).toArray] w fun e w' => e = .returned (.int .i64 (scopeP six av)) ∧ Ch [] w w' := by
  cases hv : validA six av with
  | false =>
    rw [show scopeP six av = -1 by unfold scopeP; rw [hv]; rfl]
    exact scP0 av hg six hv w
  | true =>
    cases six with
    | false =>
      rw [scope_four hv]
      by_cases h1 : at_ av 0 = 127
      · rw [if_pos h1]; exact scP1 av hg hv (by simpa using h1) w
      · rw [if_neg h1]
        by_cases h2 : at_ av 0 = 169 ∧ at_ av 1 = 254
        · rw [if_pos h2]; exact scP2 av hg hv (by simpa using h1) (by simpa using h2) w
        · rw [if_neg h2]; exact scP3 av hg hv (by simpa using h1) (by simpa using h2) w
    | true =>
      rw [scope_six]
      by_cases hx : at_ av 0 = 255
      · rw [if_pos hx, and15_mod _ (hg.at (by omega))]; exact scP4 av hg hv (by simpa using hx) w
      · rw [if_neg hx]
        by_cases he : av = [0, 0, 0, 0, 0, 0, 0, 0, 0, 0, 0, 0, 0, 0, 0, 1]
        · rw [if_pos he]; exact scP5 av hg hv (by simpa using hx) (by simpa using he) w
        · rw [if_neg he]
          by_cases h3 : at_ av 0 = 254 ∧ cutB (at_ av 1) 2 = 128
          · rw [if_pos h3]; exact scP6 av hg hv (by simpa using hx) (by simpa using he) (by simpa using h3) w
          · rw [if_neg h3]
            by_cases h4 : at_ av 0 = 254 ∧ cutB (at_ av 1) 2 = 192
            · rw [if_pos h4]; exact scP7 av hg hv (by simpa using hx) (by simpa using he) (by simpa using h3) (by simpa using h4) w
            · rw [if_neg h4]; exact scP8 av hg hv (by simpa using hx) (by simpa using he) (by simpa using h3) (by simpa using h4) w
end Go.Proofs.YtjabeabbaambcaaDoor
