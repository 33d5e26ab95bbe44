/- blocklist.Prefixes, policytable.Rows. -/
import Derived.Test.YtjabeabbaambcaaDoorPfxI
import Derived.Test.YtjabeabbaambcaaDoorPre6
import Derived.Test.YtjabeabbaambcaaDoorPolP
namespace Go.Proofs.YtjabeabbaambcaaDoor
open Go.RowKit

theorem u16s_len (gs : List Int) (w : World) (t : TypeId) : RdI .u16 (w.alloc (.cells (gs.map (Value.int .u16)).toArray t)) (w.heap.size + 1) (some ⟨w.heap.size, 0, none⟩) gs.length gs := Rd.ints (Rd.new w 1 _ _ (by simp) t)
theorem row_infoZ : (Tryd.prog.info? 75).map (fun i => (i.zero, i.size, i.bytes)) = some (some (Value.agg #[.bool false, .int .u8 0, .int .u8 0, .int .u8 0, .int .u8 0, .int .u8 0, .int .u8 0, .int .u8 0, .int .u8 0, .int .u8 0, .int .u8 0, .int .u8 0, .int .u8 0, .int .u8 0, .int .u8 0, .int .u8 0, .int .u8 0, .int .i64 0, .int .i64 0, .int .i64 0]), 20, 48) := by kernel_rfl
theorem pre6L (gs : List Int) (bits : Int) (w : World) (h0 : 0 < gs.length) (hn : gs.length ≤ 8) (hb : ∀ x ∈ gs, 0 ≤ x ∧ x ≤ 65535) :
    Calls Tryd.prog 72 #[.int .i64 bits, .slice (some ⟨w.heap.size, 0, none⟩) gs.length gs.length] (w.alloc (.cells (gs.map (Value.int .u16)).toArray 100)) fun e w' => e = .returned (.agg (pfxC (pf6 gs bits)).toArray) ∧ Ch [] w w' :=
  (pre6 _ gs.length gs bits (w.heap.size + 1) _ (u16s_len gs w _) (by simp) hn (fun h => absurd h (by omega)) hb).mono fun _ _ ⟨h1, h2⟩ => ⟨h1, ((Ch.refl _ _).alloc _).trans h2⟩
set_option maxRecDepth 20000 in
set_option maxHeartbeats 4000000 in
theorem pfxList (w : World) : Calls Tryd.prog 32 #[] w fun e w' => ∃ A, e = .returned (.slice A 15 15) ∧ Own w' w.heap.size 49 18 A 15 15 (blkT.flatMap pfxC) ∧ Ch [] w w' := by
  have H0 : Hid (∀ w : World, Calls Tryd.prog 72 #[.int .i64 128, .slice none 0 0] w fun e w' => e = .returned (.agg (pfxC (pf6 [] 128)).toArray) ∧ Ch [] w w') := fun w => pre6 none 0 [] 128 w.heap.size w (Rd.ints (Rd.nil w w.heap.size 1 none)) (Nat.le_refl _) (by decide) (fun _ => rfl) (by decide)
  have H1 : Hid (∀ w : World, Calls Tryd.prog 72 #[.int .i64 128, .slice (some ⟨w.heap.size, 0, none⟩) 8 8] (w.alloc (.cells #[.int .u16 0, .int .u16 0, .int .u16 0, .int .u16 0, .int .u16 0, .int .u16 0, .int .u16 0, .int .u16 1] 100)) fun e w' => e = .returned (.agg (pfxC (pf6 [0, 0, 0, 0, 0, 0, 0, 1] 128)).toArray) ∧ Ch [] w w') := fun w => pre6L [0, 0, 0, 0, 0, 0, 0, 1] 128 w (by decide) (by decide) (by decide)
  have H2 : Hid (∀ w : World, Calls Tryd.prog 72 #[.int .i64 96, .slice (some ⟨w.heap.size, 0, none⟩) 6 6] (w.alloc (.cells #[.int .u16 0, .int .u16 0, .int .u16 0, .int .u16 0, .int .u16 0, .int .u16 65535] 100)) fun e w' => e = .returned (.agg (pfxC (pf6 [0, 0, 0, 0, 0, 65535] 96)).toArray) ∧ Ch [] w w') := fun w => pre6L [0, 0, 0, 0, 0, 65535] 96 w (by decide) (by decide) (by decide)
  have H3 : Hid (∀ w : World, Calls Tryd.prog 72 #[.int .i64 96, .slice (some ⟨w.heap.size, 0, none⟩) 2 2] (w.alloc (.cells #[.int .u16 100, .int .u16 65435] 100)) fun e w' => e = .returned (.agg (pfxC (pf6 [100, 65435] 96)).toArray) ∧ Ch [] w w') := fun w => pre6L [100, 65435] 96 w (by decide) (by decide) (by decide)
  have H4 : Hid (∀ w : World, Calls Tryd.prog 72 #[.int .i64 7, .slice (some ⟨w.heap.size, 0, none⟩) 1 1] (w.alloc (.cells #[.int .u16 64512] 100)) fun e w' => e = .returned (.agg (pfxC (pf6 [64512] 7)).toArray) ∧ Ch [] w w') := fun w => pre6L [64512] 7 w (by decide) (by decide) (by decide)
  have H5 : Hid (∀ w : World, Calls Tryd.prog 72 #[.int .i64 10, .slice (some ⟨w.heap.size, 0, none⟩) 1 1] (w.alloc (.cells #[.int .u16 65152] 100)) fun e w' => e = .returned (.agg (pfxC (pf6 [65152] 10)).toArray) ∧ Ch [] w w') := fun w => pre6L [65152] 10 w (by decide) (by decide) (by decide)
  have H6 : Hid (∀ w : World, Calls Tryd.prog 72 #[.int .i64 8, .slice (some ⟨w.heap.size, 0, none⟩) 1 1] (w.alloc (.cells #[.int .u16 65280] 100)) fun e w' => e = .returned (.agg (pfxC (pf6 [65280] 8)).toArray) ∧ Ch [] w w') := fun w => pre6L [65280] 8 w (by decide) (by decide) (by decide)
  have CC := Ch.refl [] w
  go_enter Tryd.func32, Tryd.ntmps32
  go_wp2_with (first
    | (go_at_call 71; (with_reducible refine (v4P _ _ _ _ _).mono ?_); rintro e wn ⟨rfl, Cn⟩; replace CC := CC.trans Cn; clear Cn)
    | (go_at_call 72; (with_reducible refine (H0.out _).mono ?_); rintro e wn ⟨rfl, Cn⟩; replace CC := CC.trans Cn; clear Cn)
    | (go_at_call 72; (with_reducible refine (H1.out _).mono ?_); rintro e wn ⟨rfl, Cn⟩; replace CC := CC.trans Cn; clear Cn)
    | (go_at_call 72; (with_reducible refine (H2.out _).mono ?_); rintro e wn ⟨rfl, Cn⟩; replace CC := CC.trans Cn; clear Cn)
    | (go_at_call 72; (with_reducible refine (H3.out _).mono ?_); rintro e wn ⟨rfl, Cn⟩; replace CC := CC.trans Cn; clear Cn)
    | (go_at_call 72; (with_reducible refine (H4.out _).mono ?_); rintro e wn ⟨rfl, Cn⟩; replace CC := CC.trans Cn; clear Cn)
    | (go_at_call 72; (with_reducible refine (H5.out _).mono ?_); rintro e wn ⟨rfl, Cn⟩; replace CC := CC.trans Cn; clear Cn)
    | (go_at_call 72; (with_reducible refine (H6.out _).mono ?_); rintro e wn ⟨rfl, Cn⟩; replace CC := CC.trans Cn; clear Cn)
    | (refine wpList_buildRows rfl 46 49 15 _ rfl (blkT.flatMap pfxC) _ 18 _ Tryd.underlying46 pfx_infoZ (by decide) (by decide) (by kernel_rfl) ?_))
  go_ret
  exact ⟨_, rfl, Own.new _ _ _ _ _ _ CC.size (by unfold maxLen; omega) (by kernel_rfl), CC.alloc _⟩
theorem polRowL (gs : List Int) (bits pr lb : Int) (w : World) (h0 : 0 < gs.length) (hn : gs.length ≤ 8) (hb : ∀ x ∈ gs, 0 ≤ x ∧ x ≤ 65535) :
    Calls Tryd.prog 82 #[.int .i64 bits, .int .i64 pr, .int .i64 lb, .slice (some ⟨w.heap.size, 0, none⟩) gs.length gs.length] (w.alloc (.cells (gs.map (Value.int .u16)).toArray 100)) fun e w' => e = .returned (.agg (rowC (pf6 gs bits, pr, lb)).toArray) ∧ Ch [] w w' :=
  (polRow _ gs.length gs bits pr lb (w.heap.size + 1) _ (u16s_len gs w _) (by simp) hn (fun h => absurd h (by omega)) hb).mono fun _ _ ⟨h1, h2⟩ => ⟨h1, ((Ch.refl _ _).alloc _).trans h2⟩
set_option maxRecDepth 20000 in
set_option maxHeartbeats 4000000 in
theorem rowList (w : World) : Calls Tryd.prog 55 #[] w fun e w' => ∃ A, e = .returned (.slice A 9 9) ∧ Own w' w.heap.size 75 20 A 9 9 (polT.flatMap rowC) ∧ Ch [] w w' := by
  have H0 : Hid (∀ w : World, Calls Tryd.prog 82 #[.int .i64 128, .int .i64 50, .int .i64 0, .slice (some ⟨w.heap.size, 0, none⟩) 8 8] (w.alloc (.cells #[.int .u16 0, .int .u16 0, .int .u16 0, .int .u16 0, .int .u16 0, .int .u16 0, .int .u16 0, .int .u16 1] 100)) fun e w' => e = .returned (.agg (rowC (pf6 [0, 0, 0, 0, 0, 0, 0, 1] 128, 50, 0)).toArray) ∧ Ch [] w w') := fun w => polRowL [0, 0, 0, 0, 0, 0, 0, 1] 128 50 0 w (by decide) (by decide) (by decide)
  have H1 : Hid (∀ w : World, Calls Tryd.prog 82 #[.int .i64 0, .int .i64 40, .int .i64 1, .slice none 0 0] w fun e w' => e = .returned (.agg (rowC (pf6 [] 0, 40, 1)).toArray) ∧ Ch [] w w') := fun w => polRow none 0 [] 0 40 1 w.heap.size w (Rd.ints (Rd.nil w w.heap.size 1 none)) (Nat.le_refl _) (by decide) (fun _ => rfl) (by decide)
  have H2 : Hid (∀ w : World, Calls Tryd.prog 82 #[.int .i64 96, .int .i64 35, .int .i64 4, .slice (some ⟨w.heap.size, 0, none⟩) 6 6] (w.alloc (.cells #[.int .u16 0, .int .u16 0, .int .u16 0, .int .u16 0, .int .u16 0, .int .u16 65535] 100)) fun e w' => e = .returned (.agg (rowC (pf6 [0, 0, 0, 0, 0, 65535] 96, 35, 4)).toArray) ∧ Ch [] w w') := fun w => polRowL [0, 0, 0, 0, 0, 65535] 96 35 4 w (by decide) (by decide) (by decide)
  have H3 : Hid (∀ w : World, Calls Tryd.prog 82 #[.int .i64 16, .int .i64 30, .int .i64 2, .slice (some ⟨w.heap.size, 0, none⟩) 1 1] (w.alloc (.cells #[.int .u16 8194] 100)) fun e w' => e = .returned (.agg (rowC (pf6 [8194] 16, 30, 2)).toArray) ∧ Ch [] w w') := fun w => polRowL [8194] 16 30 2 w (by decide) (by decide) (by decide)
  have H4 : Hid (∀ w : World, Calls Tryd.prog 82 #[.int .i64 32, .int .i64 5, .int .i64 5, .slice (some ⟨w.heap.size, 0, none⟩) 1 1] (w.alloc (.cells #[.int .u16 8193] 100)) fun e w' => e = .returned (.agg (rowC (pf6 [8193] 32, 5, 5)).toArray) ∧ Ch [] w w') := fun w => polRowL [8193] 32 5 5 w (by decide) (by decide) (by decide)
  have H5 : Hid (∀ w : World, Calls Tryd.prog 82 #[.int .i64 7, .int .i64 3, .int .i64 13, .slice (some ⟨w.heap.size, 0, none⟩) 1 1] (w.alloc (.cells #[.int .u16 64512] 100)) fun e w' => e = .returned (.agg (rowC (pf6 [64512] 7, 3, 13)).toArray) ∧ Ch [] w w') := fun w => polRowL [64512] 7 3 13 w (by decide) (by decide) (by decide)
  have H6 : Hid (∀ w : World, Calls Tryd.prog 82 #[.int .i64 96, .int .i64 1, .int .i64 3, .slice none 0 0] w fun e w' => e = .returned (.agg (rowC (pf6 [] 96, 1, 3)).toArray) ∧ Ch [] w w') := fun w => polRow none 0 [] 96 1 3 w.heap.size w (Rd.ints (Rd.nil w w.heap.size 1 none)) (Nat.le_refl _) (by decide) (fun _ => rfl) (by decide)
  have H7 : Hid (∀ w : World, Calls Tryd.prog 82 #[.int .i64 10, .int .i64 1, .int .i64 11, .slice (some ⟨w.heap.size, 0, none⟩) 1 1] (w.alloc (.cells #[.int .u16 65216] 100)) fun e w' => e = .returned (.agg (rowC (pf6 [65216] 10, 1, 11)).toArray) ∧ Ch [] w w') := fun w => polRowL [65216] 10 1 11 w (by decide) (by decide) (by decide)
  have H8 : Hid (∀ w : World, Calls Tryd.prog 82 #[.int .i64 16, .int .i64 1, .int .i64 12, .slice (some ⟨w.heap.size, 0, none⟩) 1 1] (w.alloc (.cells #[.int .u16 16382] 100)) fun e w' => e = .returned (.agg (rowC (pf6 [16382] 16, 1, 12)).toArray) ∧ Ch [] w w') := fun w => polRowL [16382] 16 1 12 w (by decide) (by decide) (by decide)
  have CC := Ch.refl [] w
  go_enter Tryd.func55, Tryd.ntmps55
  go_wp2_with (first
    | (go_at_call 82; (with_reducible refine (H0.out _).mono ?_); rintro e wn ⟨rfl, Cn⟩; replace CC := CC.trans Cn; clear Cn)
    | (go_at_call 82; (with_reducible refine (H1.out _).mono ?_); rintro e wn ⟨rfl, Cn⟩; replace CC := CC.trans Cn; clear Cn)
    | (go_at_call 82; (with_reducible refine (H2.out _).mono ?_); rintro e wn ⟨rfl, Cn⟩; replace CC := CC.trans Cn; clear Cn)
    | (go_at_call 82; (with_reducible refine (H3.out _).mono ?_); rintro e wn ⟨rfl, Cn⟩; replace CC := CC.trans Cn; clear Cn)
    | (go_at_call 82; (with_reducible refine (H4.out _).mono ?_); rintro e wn ⟨rfl, Cn⟩; replace CC := CC.trans Cn; clear Cn)
    | (go_at_call 82; (with_reducible refine (H5.out _).mono ?_); rintro e wn ⟨rfl, Cn⟩; replace CC := CC.trans Cn; clear Cn)
    | (go_at_call 82; (with_reducible refine (H6.out _).mono ?_); rintro e wn ⟨rfl, Cn⟩; replace CC := CC.trans Cn; clear Cn)
    | (go_at_call 82; (with_reducible refine (H7.out _).mono ?_); rintro e wn ⟨rfl, Cn⟩; replace CC := CC.trans Cn; clear Cn)
    | (go_at_call 82; (with_reducible refine (H8.out _).mono ?_); rintro e wn ⟨rfl, Cn⟩; replace CC := CC.trans Cn; clear Cn)
    | (refine wpList_buildRows rfl 72 75 9 _ rfl (polT.flatMap rowC) _ 20 _ Tryd.underlying72 row_infoZ (by decide) (by decide) (by kernel_rfl) ?_))
  go_ret
  exact ⟨_, rfl, Own.new _ _ _ _ _ _ CC.size (by unfold maxLen; omega) (by kernel_rfl), CC.alloc _⟩
end Go.Proofs.YtjabeabbaambcaaDoor
