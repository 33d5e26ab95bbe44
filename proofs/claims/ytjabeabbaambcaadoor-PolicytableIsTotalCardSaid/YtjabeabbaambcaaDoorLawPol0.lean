/- ginnellaw24's awake, agrees. -/
import Derived.Test.YtjabeabbaambcaaDoorPolM
import Derived.Test.YtjabeabbaambcaaDoorScopeR
namespace Go.Proofs.YtjabeabbaambcaaDoor
open Go.RowKit

set_option maxRecDepth 20000 in
set_option maxHeartbeats 4000000 in
theorem awake24 (w : World) : Calls Tryd.prog 46 #[] w fun e w' => e = .returned (.bool true) ∧ Ch [] w w' := by
  have H1 : Hid (∀ w : World, Calls Tryd.prog 50 #[.agg #[.bool true, .int .u8 0, .int .u8 0, .int .u8 0, .int .u8 0, .int .u8 0, .int .u8 0, .int .u8 0, .int .u8 0, .int .u8 0, .int .u8 0, .int .u8 0, .int .u8 0, .int .u8 0, .int .u8 0, .int .u8 0, .int .u8 1]] w fun e w' => e = .returned (.int .i64 50) ∧ Ch [] w w') := fun w => by
    have := polPrec true [0, 0, 0, 0, 0, 0, 0, 0, 0, 0, 0, 0, 0, 0, 0, 1] ⟨rfl, by decide⟩ w
    rw [show (lookP true [0, 0, 0, 0, 0, 0, 0, 0, 0, 0, 0, 0, 0, 0, 0, 1]).2.1 = 50 by decide +kernel] at this
    exact this
  have H2 : Hid (∀ w : World, Calls Tryd.prog 50 #[.agg #[.bool false, .int .u8 1, .int .u8 2, .int .u8 3, .int .u8 4, .int .u8 0, .int .u8 0, .int .u8 0, .int .u8 0, .int .u8 0, .int .u8 0, .int .u8 0, .int .u8 0, .int .u8 0, .int .u8 0, .int .u8 0, .int .u8 0]] w fun e w' => e = .returned (.int .i64 35) ∧ Ch [] w w') := fun w => by
    have := polPrec false [1, 2, 3, 4, 0, 0, 0, 0, 0, 0, 0, 0, 0, 0, 0, 0] ⟨rfl, by decide⟩ w
    rw [show (lookP false [1, 2, 3, 4, 0, 0, 0, 0, 0, 0, 0, 0, 0, 0, 0, 0]).2.1 = 35 by decide +kernel] at this
    exact this
  have H3 : Hid (∀ w : World, Calls Tryd.prog 51 #[.agg #[.bool true, .int .u8 32, .int .u8 2, .int .u8 0, .int .u8 0, .int .u8 0, .int .u8 0, .int .u8 0, .int .u8 0, .int .u8 0, .int .u8 0, .int .u8 0, .int .u8 0, .int .u8 0, .int .u8 0, .int .u8 0, .int .u8 1]] w fun e w' => e = .returned (.int .i64 2) ∧ Ch [] w w') := fun w => by
    have := polLab true [32, 2, 0, 0, 0, 0, 0, 0, 0, 0, 0, 0, 0, 0, 0, 1] ⟨rfl, by decide⟩ w
    rw [show (lookP true [32, 2, 0, 0, 0, 0, 0, 0, 0, 0, 0, 0, 0, 0, 0, 1]).2.2 = 2 by decide +kernel] at this
    exact this
  have H4 : Hid (∀ w : World, Calls Tryd.prog 52 #[.agg #[.bool true, .int .u8 0, .int .u8 0, .int .u8 0, .int .u8 0, .int .u8 0, .int .u8 0, .int .u8 0, .int .u8 0, .int .u8 0, .int .u8 0, .int .u8 0, .int .u8 0, .int .u8 0, .int .u8 0, .int .u8 0, .int .u8 1]] w fun e w' => e = .returned (.int .i64 2) ∧ Ch [] w w') := fun w => by
    have := scopeW true [0, 0, 0, 0, 0, 0, 0, 0, 0, 0, 0, 0, 0, 0, 0, 1] ⟨rfl, by decide⟩ w
    rw [show scopeP true [0, 0, 0, 0, 0, 0, 0, 0, 0, 0, 0, 0, 0, 0, 0, 1] = 2 by decide +kernel] at this
    exact this
  have H5 : Hid (∀ w : World, Calls Tryd.prog 52 #[.agg #[.bool true, .int .u8 255, .int .u8 14, .int .u8 0, .int .u8 0, .int .u8 0, .int .u8 0, .int .u8 0, .int .u8 0, .int .u8 0, .int .u8 0, .int .u8 0, .int .u8 0, .int .u8 0, .int .u8 0, .int .u8 0, .int .u8 0]] w fun e w' => e = .returned (.int .i64 14) ∧ Ch [] w w') := fun w => by
    have := scopeW true [255, 14, 0, 0, 0, 0, 0, 0, 0, 0, 0, 0, 0, 0, 0, 0] ⟨rfl, by decide⟩ w
    rw [show scopeP true [255, 14, 0, 0, 0, 0, 0, 0, 0, 0, 0, 0, 0, 0, 0, 0] = 14 by decide +kernel] at this
    exact this
  have HIO := hid (addr_inf (six := true) (bs := [0, 0, 0, 0, 0, 0, 0, 0, 0, 0, 0, 0, 0, 0, 0, 1]) rfl)
  go_enter Tryd.func46, Tryd.ntmps46
  go_wp2_with (first
    | go_skip
    | (refine wpList_storeB rfl 29 _ _ rfl w.heap.size 29 (addrC false zeros) (addrC true [0, 0, 0, 0, 0, 0, 0, 0, 0, 0, 0, 0, 0, 0, 0, 1]) rfl rfl (Blk.new _ _ _) HIO.out rfl (addr_one' _ _) ?_; intro w2 BO C2 Z2; clear Z2; have CC := ((Ch.refl [] w).alloc _).step C2 (fun i hi => .inr (by simp at hi; omega)); clear C2)
    | (refine wpList_load_want rfl 29 _ rfl w.heap.size 0 rfl [.bool true, .int .u8 0, .int .u8 0, .int .u8 0, .int .u8 0, .int .u8 0, .int .u8 0, .int .u8 0, .int .u8 0, .int .u8 0, .int .u8 0, .int .u8 0, .int .u8 0, .int .u8 0, .int .u8 0, .int .u8 0, .int .u8 1] _ BO.range Tryd.underlying29 rfl HIO.out ?_)
    | (go_at_call 50; (with_reducible refine (H1.out _).mono ?_); rintro e wn ⟨rfl, Cn⟩; replace BO := BO.ch Cn (by simp); replace CC := CC.trans Cn; clear Cn)
    | (go_at_call 50; (with_reducible refine (H2.out _).mono ?_); rintro e wn ⟨rfl, Cn⟩; replace BO := BO.ch Cn (by simp); replace CC := CC.trans Cn; clear Cn)
    | (go_at_call 51; (with_reducible refine (H3.out _).mono ?_); rintro e wn ⟨rfl, Cn⟩; replace BO := BO.ch Cn (by simp); replace CC := CC.trans Cn; clear Cn)
    | (go_at_call 52; (with_reducible refine (H4.out _).mono ?_); rintro e wn ⟨rfl, Cn⟩; replace BO := BO.ch Cn (by simp); replace CC := CC.trans Cn; clear Cn)
    | (go_at_call 52; (with_reducible refine (H5.out _).mono ?_); rintro e wn ⟨rfl, Cn⟩; replace BO := BO.ch Cn (by simp); replace CC := CC.trans Cn; clear Cn)
    | (go_at_call 35; (with_reducible refine (v4R _ _ _ _ _).mono ?_); rintro e wn ⟨rfl, Cn⟩; replace BO := BO.ch Cn (by simp); replace CC := CC.trans Cn; clear Cn)
    | (go_at_call 55; (with_reducible refine (rowList _).mono ?_); rintro e wn ⟨T, rfl, own, Cn⟩; replace CC := CC.trans Cn; clear Cn own))
  go_ret
  exact ⟨rfl, CC⟩

set_option maxRecDepth 20000 in
set_option maxHeartbeats 4000000 in
theorem agrees24 (six : Bool) (av : List Int) (hg : GoodA av) (w : World) : Calls Tryd.prog 47 #[.agg (addrC six av).toArray] w fun e w' => e = .returned (.bool true) ∧ Ch [] w w' := by
  have BA : Blk (w.alloc (.cells (addrC six av).toArray 29)) w.heap.size 29 (addrC six av) := Blk.new w _ _
  have CC : Ch [] w (w.alloc (.cells (addrC six av).toArray 29)) := (Ch.refl _ _).alloc _
  have HI := hid (addr_inf (six := six) hg.1)
  have H1 := hid (polPrec six av hg)
  have H2 := hid (polLab six av hg)
  have H3 := hid (scopeW six av hg)
  have G1 := hid (refPrec six av hg)
  have G2 := hid (refLab six av hg)
  have G3 := hid (scopeR six av hg)
  have HRA : Hid (∀ w', Ch [] (w.alloc (.cells (addrC six av).toArray 29)) w' → w'.rangeAt w.heap.size 0 (addrC six av)) := fun w' h => (BA.ch h (by simp)).range
  generalize (lookP six av).2.1 = P at H1 G1
  generalize (lookP six av).2.2 = L at H2 G2
  generalize scopeP six av = S at H3 G3
  generalize addrC six av = cs at BA CC HI H1 H2 H3 G1 G2 G3 HRA ⊢
  clear hg BA
  go_enter Tryd.func47, Tryd.ntmps47
  go_wp2_with fail
  refine wp_region_quietA ((w.alloc (.cells cs.toArray 29))) (by kernel_rfl) (by kernel_rfl) (Ch.refl _ _) ?_
  repeat (first
    | (go_big_quiet_want; refine quiet_rowA 29 _ rfl w.heap.size 0 rfl cs _ HRA.out Tryd.underlying29 rfl HI.out ?_; simp only [Act.put, List.setIfInBounds_toArray, List.set_cons_succ, List.set_cons_zero]; go_big_quiet_on)
    | go_big_quiet_step (first
      | (go_at_call 50; with_reducible exact after_of (H1.out _))
      | (go_at_call 51; with_reducible exact after_of (H2.out _))
      | (go_at_call 52; with_reducible exact after_of (H3.out _))
      | (go_at_call 78; with_reducible exact after_of (G1.out _))
      | (go_at_call 79; with_reducible exact after_of (G2.out _))
      | (go_at_call 53; with_reducible exact after_of (G3.out _))))
  refine wpQuiet_nil ?_
  intro wq hwq
  go_wp2_with fail
  go_ret
  exact ⟨rfl, CC.trans hwq⟩
end Go.Proofs.YtjabeabbaambcaaDoor
