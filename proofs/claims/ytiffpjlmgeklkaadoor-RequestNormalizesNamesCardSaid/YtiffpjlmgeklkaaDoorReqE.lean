/- request.Encode and ginnelref15.EncodeRequest. -/
import Derived.Test.YtiffpjlmgeklkaaDoorReqS
import Derived.Test.YtiffpjlmgeklkaaDoorTgtG
namespace Go.Proofs.YtiffpjlmgeklkaaDoor
open Go.RowKit

def encReq (c : Int) (t : Tgt) : Option (List Int) := if okT t = true then some (5 :: c :: 0 :: encT' t) else none
set_option maxRecDepth 100000 in
set_option maxHeartbeats 4000000 in
theorem reqEnc (c : Int) (t : Tgt) (hg : GoodT t) (hns : t.1.size ≤ 1000000000000000) (w : World) : Calls Tryd.prog 26 #[.int .u8 c, .agg (tgtC t).toArray] w fun e w' => e = .returned (encV (encReq c t)) ∧ Ch [] w w' := by
  have hB : Blk (w.alloc (.cells (tgtC t).toArray 26)) w.heap.size 26 (tgtC t) := Blk.new w _ _
  have hC : Ch [] w (w.alloc (.cells (tgtC t).toArray 26)) := (Ch.refl _ _).alloc _
  have HI := hid (tgt_inf hg.1)
  have h1 := encP t hg hns
  obtain ⟨R, hR⟩ : ∃ R, strOfNums [5, c, 0] = R := ⟨_, rfl⟩
  have hRs : R.size = 3 := by rw [← hR, strOf_size]; rfl
  cases ok : okT t with
  | false =>
    rw [encT_none ok] at h1
    have h2 : ∀ w, Calls Tryd.prog 11 #[.agg (tgtC t).toArray] w fun e w' => e = .returned (.tuple #[.string ⟨#[]⟩, .bool false]) ∧ Ch [] w w' := h1
    have H1 := hid h2
    have hres : Hid (encReq c t = none) := by show _ = _; unfold encReq; rw [ok]; rfl
    clear h1 h2 ok
    generalize tgtC t = cs at hB hC HI H1 ⊢
    go_enter Tryd.func26, Tryd.ntmps26
    go_wp2_with (first
      | (refine wpList_loadB rfl 26 _ rfl w.heap.size 26 cs _ rfl hB Tryd.underlying26 rfl HI.out ?_)
      | (go_at_call 11; (with_reducible refine (H1.out _).mono ?_); rintro e w2 ⟨rfl, C2⟩))
    go_ret2
    exact ⟨by rw [hres.out]; rfl, hC.trans C2⟩
  | true =>
    obtain ⟨E, hE⟩ : ∃ E, strOfNums (encT' t) = E := ⟨_, rfl⟩
    have hEs : E.size ≤ 259 := by rw [← hE, strOf_size]; exact encT_len hg ok
    have hres : Hid (encV (encReq c t) = .tuple #[.string (R ++ E), .bool true]) := by
      show _ = _
      unfold encReq encV; rw [ok, if_pos rfl, ← hR, ← hE, strOf_append]; rfl
    rw [encT_some ok rfl, hE] at h1
    have H1 := hid h1
    have m1 : R.size + E.size ≤ maxLen := by unfold maxLen; omega
    clear h1 ok
    generalize tgtC t = cs at hB hC HI H1 ⊢
    go_enter Tryd.func26, Tryd.ntmps26
    go_wp2_with (first
      | (refine wpList_loadB rfl 26 _ rfl w.heap.size 26 cs _ rfl hB Tryd.underlying26 rfl HI.out ?_)
      | (go_at_call 11; (with_reducible refine (H1.out _).mono ?_); rintro e w2 ⟨rfl, C2⟩)
      | (refine wpList_strOf rfl 34 9 5 _ rfl Tryd.underlying34 Tryd.underlying5 Tryd.underlying9 _ 3 3 _ [5, c, 0] rfl (three_rdAt _ _ _ _ _ _ rfl) ?_; rw [hR]))
    go_ret2
    exact ⟨by rw [hres.out]; rfl, hC.trans (C2.trans ((Ch.refl _ _).alloc _))⟩
set_option maxRecDepth 100000 in
set_option maxHeartbeats 4000000 in
theorem refEncReq (c : Int) (t : Tgt) (hg : GoodT t) (hns : t.1.size ≤ 1000000000000000) (w : World) : Calls Tryd.prog 25 #[.int .u8 c, .agg (tgtC t).toArray] w fun e w' => e = .returned (encV (encReq c t)) ∧ Ch [] w w' := by
  have hB : Blk (w.alloc (.cells (tgtC t).toArray 26)) w.heap.size 26 (tgtC t) := Blk.new w _ _
  have hC : Ch [] w (w.alloc (.cells (tgtC t).toArray 26)) := (Ch.refl _ _).alloc _
  have HI := hid (tgt_inf hg.1)
  have h1 := encQ t hg hns
  obtain ⟨R, hR⟩ : ∃ R, strOfNums [5, c, 0] = R := ⟨_, rfl⟩
  have hRs : R.size = 3 := by rw [← hR, strOf_size]; rfl
  cases ok : okT t with
  | false =>
    rw [encT_none ok] at h1
    have h2 : ∀ w, Calls Tryd.prog 12 #[.agg (tgtC t).toArray] w fun e w' => e = .returned (.tuple #[.string ⟨#[]⟩, .bool false]) ∧ Ch [] w w' := h1
    have H1 := hid h2
    have hres : Hid (encReq c t = none) := by show _ = _; unfold encReq; rw [ok]; rfl
    clear h1 h2 ok
    generalize tgtC t = cs at hB hC HI H1 ⊢
    go_enter Tryd.func25, Tryd.ntmps25
    go_wp2_with (first
      | (refine wpList_loadB rfl 26 _ rfl w.heap.size 26 cs _ rfl hB Tryd.underlying26 rfl HI.out ?_)
      | (go_at_call 12; (with_reducible refine (H1.out _).mono ?_); rintro e w2 ⟨rfl, C2⟩))
    go_ret2
    exact ⟨by rw [hres.out]; rfl, hC.trans C2⟩
  | true =>
    obtain ⟨E, hE⟩ : ∃ E, strOfNums (encT' t) = E := ⟨_, rfl⟩
    have hEs : E.size ≤ 259 := by rw [← hE, strOf_size]; exact encT_len hg ok
    have hres : Hid (encV (encReq c t) = .tuple #[.string (R ++ E), .bool true]) := by
      show _ = _
      unfold encReq encV; rw [ok, if_pos rfl, ← hR, ← hE, strOf_append]; rfl
    rw [encT_some ok rfl, hE] at h1
    have H1 := hid h1
    have m1 : R.size + E.size ≤ maxLen := by unfold maxLen; omega
    clear h1 ok
    generalize tgtC t = cs at hB hC HI H1 ⊢
    go_enter Tryd.func25, Tryd.ntmps25
    go_wp2_with (first
      | (refine wpList_loadB rfl 26 _ rfl w.heap.size 26 cs _ rfl hB Tryd.underlying26 rfl HI.out ?_)
      | (go_at_call 12; (with_reducible refine (H1.out _).mono ?_); rintro e w2 ⟨rfl, C2⟩)
      | (refine wpList_strOf rfl 34 9 5 _ rfl Tryd.underlying34 Tryd.underlying5 Tryd.underlying9 _ 3 3 _ [5, c, 0] rfl (three_rdAt _ _ _ _ _ _ rfl) ?_; rw [hR]))
    go_ret2
    exact ⟨by rw [hres.out]; rfl, hC.trans (C2.trans ((Ch.refl _ _).alloc _))⟩
end Go.Proofs.YtiffpjlmgeklkaaDoor
