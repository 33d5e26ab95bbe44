/- PolicytableIPv4AsMapped. -/
import Derived.Test.YtjabeabbaambcaaDoorLawPol0
import Derived.Test.YtjabeabbaambcaaDoorShell
import Derived.Test.YtjabeabbaambcaaDoorRows
namespace Go.Proofs.YtjabeabbaambcaaDoor
open Go.ChangeShapes Go.WideShapes Go.ChangeAt Go.RowKit

theorem good_map {a b c d : Int} (ha : Byt a) (hb : Byt b) (hc : Byt c) (hd : Byt d) : GoodA (mapA a b c d) ∧ GoodA (v4A a b c d) := by
  unfold Byt at ha hb hc hd
  refine ⟨⟨rfl, ?_⟩, ⟨rfl, ?_⟩⟩ <;> (simp only [mapA, v4A, List.mem_cons, List.not_mem_nil, or_false, forall_eq_or_imp, forall_eq]; omega)
theorem look_six {a b c d : Int} (ha : Byt a) (hb : Byt b) (hc : Byt c) (hd : Byt d) : lookP true (mapA a b c d) = (pf6 [0, 0, 0, 0, 0, 65535] 96, 35, 4) ∧ lookP false (v4A a b c d) = (pf6 [0, 0, 0, 0, 0, 65535] 96, 35, 4) := by
  have h := look_mapped ha hb hc hd
  rw [← fold_same (good_map ha hb hc hd).1.1 (good_map ha hb hc hd).1.2] at h
  exact ⟨h, h⟩
set_option maxRecDepth 20000 in
set_option maxHeartbeats 8000000 in
theorem policytableIPv4AsMapped_came {H : Type} {enc : TypeId × Value → H} (W : World) (args : Array Value) (ds : List (DataW H)) (_ : laidMetH Tryd.prog Rows.policytableIPv4AsMappedRow.laid W) (h : Came enc Tryd.prog Tryd.f11 W args ds) :
    Calls Tryd.prog 11 args W fun e W' => e = .returned (.bool true) ∧ Below W.heap.size W W' := by
  obtain ⟨v0, v1, v2, v3, d0, d1, d2, d3, rfl, a0, a1, a2, a3⟩ := h.args4 rfl
  obtain ⟨a, rfl, ha⟩ := a0.int Tryd.underlying5
  obtain ⟨b, rfl, hb⟩ := a1.int Tryd.underlying5
  obtain ⟨c, rfl, hc⟩ := a2.int Tryd.underlying5
  obtain ⟨d, rfl, hd⟩ := a3.int Tryd.underlying5
  have ha := bounds_u8 ha
  have hb := bounds_u8 hb
  have hc := bounds_u8 hc
  have hd := bounds_u8 hd
  clear h a0 a1 a2 a3
  obtain ⟨ly, lx⟩ := look_six ha hb hc hd
  obtain ⟨gy0, gx0⟩ := good_map ha hb hc hd
  have H1 := hid (polPrec false _ gx0)
  have H2 := hid (polPrec true _ gy0)
  have H3 := hid (polLab false _ gx0)
  have H4 := hid (polLab true _ gy0)
  have H5 := hid (scopeW false _ gx0)
  have H6 := hid (scopeR false _ gx0)
  rw [lx] at H1 H3
  rw [ly] at H2 H4
  have HIX := hid (addr_inf (six := false) gx0.1)
  have HIY := hid (addr_inf (six := true) gy0.1)
  generalize scopeP false (v4A a b c d) = S at H5 H6
  clear ly lx gy0 gx0 ha hb hc hd
  have CC := Ch.refl [] W
  go_enter Tryd.func11, Tryd.ntmps11
  go_wp2_with (first
    | (refine wpList_storeB rfl 29 _ _ rfl w1.heap.size 29 (addrC false zeros) (addrC false (v4A a b c d)) rfl rfl (Blk.new _ _ _) HIX.out rfl (addr_one' _ _) ?_; intro w2 BX C2 Z2; clear Z2; replace CC := (CC.alloc _).step C2 (fun i hi => .inr (by simp at hi; have := CC.size; omega)); have ltx := BX.lt)
    | (refine wpList_storeB rfl 29 _ _ rfl w2.heap.size 29 (addrC false zeros) (addrC true (mapA a b c d)) rfl rfl (Blk.new _ _ _) HIY.out rfl (addr_one' _ _) ?_; intro w3 BY C3 Z3; clear Z3; replace BX := (BX.alloc _).ch C3 (by simp; omega); replace CC := (CC.alloc _).step C3 (fun i hi => .inr (by simp at hi; have := CC.size; omega)))
    | (go_at_call 35; (with_reducible refine (v4R _ _ _ _ _).mono ?_); rintro e w1 ⟨rfl, Cn⟩; replace CC := CC.trans Cn))
  try simp only [Act.put]
  have HRX : Hid (∀ w', Ch [] w3 w' → w'.rangeAt w1.heap.size 0 (addrC false (v4A a b c d))) := fun w' h => (BX.ch h (by simp)).range
  have HRY : Hid (∀ w', Ch [] w3 w' → w'.rangeAt w2.heap.size 0 (addrC true (mapA a b c d))) := fun w' h => (BY.ch h (by simp)).range
  obtain ⟨gx, hgx⟩ : ∃ gx, w1.heap.size = gx := ⟨_, rfl⟩
  obtain ⟨gy, hgy⟩ : ∃ gy, w2.heap.size = gy := ⟨_, rfl⟩
  rw [hgx] at HRX ⊢
  rw [hgy] at HRY ⊢
  clear hgx hgy BX BY ltx C2 C3
  generalize addrC false (v4A a b c d) = cx at HRX HIX H1 H3 H5 H6
  generalize addrC true (mapA a b c d) = cy at HRY HIY H2 H4
  refine wp_region_quietA (w3) (by kernel_rfl) (by kernel_rfl) (Ch.refl _ _) ?_
  repeat (first
    | (go_big_quiet_want; refine quiet_rowA 29 _ rfl gx 0 rfl cx _ HRX.out Tryd.underlying29 rfl HIX.out ?_; simp only [Act.put, List.setIfInBounds_toArray, List.set_cons_succ, List.set_cons_zero]; go_big_quiet_on)
    | (go_big_quiet_want; refine quiet_rowA 29 _ rfl gy 0 rfl cy _ HRY.out Tryd.underlying29 rfl HIY.out ?_; simp only [Act.put, List.setIfInBounds_toArray, List.set_cons_succ, List.set_cons_zero]; go_big_quiet_on)
    | go_big_quiet_step (first
      | (go_at_call 46; with_reducible exact after_of (awake24 _))
      | (go_at_call 50; with_reducible exact after_of (H1.out _))
      | (go_at_call 50; with_reducible exact after_of (H2.out _))
      | (go_at_call 51; with_reducible exact after_of (H3.out _))
      | (go_at_call 51; with_reducible exact after_of (H4.out _))
      | (go_at_call 52; with_reducible exact after_of (H5.out _))
      | (go_at_call 53; with_reducible exact after_of (H6.out _))))
  refine wpQuiet_nil ?_
  intro wq hwq
  go_wp2_with fail
  go_ret
  exact ⟨rfl, (CC.trans hwq).nil_below⟩
end Go.Proofs.YtjabeabbaambcaaDoor
