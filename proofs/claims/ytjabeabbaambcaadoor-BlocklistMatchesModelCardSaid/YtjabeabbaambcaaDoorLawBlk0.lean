/- ginnellaw11's awake. -/
import Derived.Test.YtjabeabbaambcaaDoorBlkW
import Derived.Test.YtjabeabbaambcaaDoorShell
import Derived.Test.YtjabeabbaambcaaDoorRows
namespace Go.Proofs.YtjabeabbaambcaaDoor
open Go.ChangeShapes Go.WideShapes Go.ChangeAt Go.RowKit

theorem good_of {l : List Int} (hl : l.length = 16) (h : ∀ x ∈ l, 0 ≤ x ∧ x ≤ 255) : GoodA l := ⟨hl, h⟩
set_option maxRecDepth 20000 in
set_option maxHeartbeats 4000000 in
theorem awake11 (w : World) : Calls Tryd.prog 26 #[] w fun e w' => e = .returned (.bool true) ∧ Ch [] w w' := by
  have H1 : Hid (∀ w : World, Calls Tryd.prog 29 #[.agg #[.bool false, .int .u8 127, .int .u8 0, .int .u8 0, .int .u8 1, .int .u8 0, .int .u8 0, .int .u8 0, .int .u8 0, .int .u8 0, .int .u8 0, .int .u8 0, .int .u8 0, .int .u8 0, .int .u8 0, .int .u8 0, .int .u8 0]] w fun e w' => e = .returned (.bool true) ∧ Ch [] w w') := fun w => by
    have := blkCont false [127, 0, 0, 1, 0, 0, 0, 0, 0, 0, 0, 0, 0, 0, 0, 0] ⟨rfl, by decide⟩ w
    rw [show (decide (0 ≤ idxP false [127, 0, 0, 1, 0, 0, 0, 0, 0, 0, 0, 0, 0, 0, 0, 0] blkT 0) || !validA false [127, 0, 0, 1, 0, 0, 0, 0, 0, 0, 0, 0, 0, 0, 0, 0]) = true by decide +kernel] at this
    exact this
  have H2 : Hid (∀ w : World, Calls Tryd.prog 29 #[.agg #[.bool false, .int .u8 8, .int .u8 8, .int .u8 8, .int .u8 8, .int .u8 0, .int .u8 0, .int .u8 0, .int .u8 0, .int .u8 0, .int .u8 0, .int .u8 0, .int .u8 0, .int .u8 0, .int .u8 0, .int .u8 0, .int .u8 0]] w fun e w' => e = .returned (.bool false) ∧ Ch [] w w') := fun w => by
    have := blkCont false [8, 8, 8, 8, 0, 0, 0, 0, 0, 0, 0, 0, 0, 0, 0, 0] ⟨rfl, by decide⟩ w
    rw [show (decide (0 ≤ idxP false [8, 8, 8, 8, 0, 0, 0, 0, 0, 0, 0, 0, 0, 0, 0, 0] blkT 0) || !validA false [8, 8, 8, 8, 0, 0, 0, 0, 0, 0, 0, 0, 0, 0, 0, 0]) = false by decide +kernel] at this
    exact this
  have H3 : Hid (∀ w : World, Calls Tryd.prog 27 #[.agg #[.bool true, .int .u8 0, .int .u8 0, .int .u8 0, .int .u8 0, .int .u8 0, .int .u8 0, .int .u8 0, .int .u8 0, .int .u8 0, .int .u8 0, .int .u8 0, .int .u8 0, .int .u8 0, .int .u8 0, .int .u8 0, .int .u8 1]] w fun e w' => e = .returned (.int .i64 9) ∧ Ch [] w w') := fun w => by
    have := blkIdx true [0, 0, 0, 0, 0, 0, 0, 0, 0, 0, 0, 0, 0, 0, 0, 1] ⟨rfl, by decide⟩ w
    rw [show idxP true [0, 0, 0, 0, 0, 0, 0, 0, 0, 0, 0, 0, 0, 0, 0, 1] blkT 0 = 9 by decide +kernel] at this
    exact this
  have CC := Ch.refl [] w
  go_enter Tryd.func26, Tryd.ntmps26
  go_wp2_with (first
    | (go_at_call 35; (with_reducible refine (v4R _ _ _ _ _).mono ?_); rintro e wn ⟨rfl, Cn⟩; replace CC := CC.trans Cn; clear Cn)
    | (go_at_call 29; (with_reducible refine (H1.out _).mono ?_); rintro e wn ⟨rfl, Cn⟩; replace CC := CC.trans Cn; clear Cn)
    | (go_at_call 29; (with_reducible refine (H2.out _).mono ?_); rintro e wn ⟨rfl, Cn⟩; replace CC := CC.trans Cn; clear Cn)
    | (go_at_call 27; (with_reducible refine (H3.out _).mono ?_); rintro e wn ⟨rfl, Cn⟩; replace CC := CC.trans Cn; clear Cn)
    | (go_at_call 32; (with_reducible refine (pfxList _).mono ?_); rintro e wn ⟨A, rfl, own, Cn⟩; replace CC := CC.trans Cn; clear Cn own))
  go_ret
  exact ⟨rfl, CC⟩
end Go.Proofs.YtjabeabbaambcaaDoor
