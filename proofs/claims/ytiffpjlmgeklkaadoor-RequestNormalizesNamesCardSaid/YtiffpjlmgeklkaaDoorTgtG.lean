/- EncodeTarget, both, in one contract each; reply.Encode and ginnelref15.EncodeReply at every target and code. -/
import Derived.Test.YtiffpjlmgeklkaaDoorTgtF
namespace Go.Proofs.YtiffpjlmgeklkaaDoor
open Go.RowKit

theorem encT_some {t : Tgt} (h : okT t = true) {l : List Int} (hl : encT' t = l) : encV (encTgt t) = .tuple #[.string (strOfNums l), .bool true] := by
  unfold encTgt; rw [if_pos h, hl]; rfl
theorem encT_none {t : Tgt} (h : okT t = false) : encTgt t = none := by
  unfold encTgt; rw [if_neg (by rw [h]; decide)]
theorem empty_of {s : ByteArray} (h : s.size = 0) : s = ⟨#[]⟩ := str_ext (List.eq_nil_of_length_eq_zero (by rw [Array.length_toList]; exact h))
theorem encP (t : Tgt) (hg : GoodT t) (hns : t.1.size ≤ 1000000000000000) (w : World) : Calls Tryd.prog 11 #[.agg (tgtC t).toArray] w fun e w' => e = .returned (encV (encTgt t)) ∧ Ch [] w w' := by
  obtain ⟨name, six, bs, port⟩ := t
  obtain ⟨hl, hb⟩ := hg
  cases ok : okT (name, six, bs, port) with
  | false => rw [encT_none ok]; exact encTF name six bs port hl hb hns ok w
  | true =>
    have hok := ok
    simp only [okT, Bool.and_eq_true, decide_eq_true_eq] at hok
    obtain ⟨⟨⟨h1, h2⟩, h3⟩, h4⟩ := hok
    by_cases hn : name.size = 0
    · obtain rfl := empty_of hn
      cases six
      · have he : encT' (⟨#[]⟩, false, bs, port) = 1 :: (bs.take 4 ++ [port / 256, port % 256]) := rfl
        rw [encT_some ok he]
        exact encT4 bs port hl hb (by simpa [validA] using h2) ⟨h3, by omega⟩ w
      · have he : encT' (⟨#[]⟩, true, bs, port) = 4 :: (bs ++ [port / 256, port % 256]) := rfl
        rw [encT_some ok he]
        exact encT6 bs port hl hb ⟨h3, by omega⟩ w
    · have he : encT' (name, six, bs, port) = 3 :: (name.size : Int) :: (numsOf name ++ [port / 256, port % 256]) := by
        unfold encT' headT; rw [if_pos hn]; rfl
      rw [encT_some ok he]
      exact encTN name six bs port hl hb (by omega) h1 h2 ⟨h3, by omega⟩ w
theorem encQ (t : Tgt) (hg : GoodT t) (hns : t.1.size ≤ 1000000000000000) (w : World) : Calls Tryd.prog 12 #[.agg (tgtC t).toArray] w fun e w' => e = .returned (encV (encTgt t)) ∧ Ch [] w w' := by
  obtain ⟨name, six, bs, port⟩ := t
  obtain ⟨hl, hb⟩ := hg
  cases ok : okT (name, six, bs, port) with
  | false => rw [encT_none ok]; exact refEncF name six bs port hl hns ok w
  | true =>
    have hok := ok
    simp only [okT, Bool.and_eq_true, decide_eq_true_eq] at hok
    obtain ⟨⟨⟨h1, h2⟩, h3⟩, h4⟩ := hok
    by_cases hn : name.size = 0
    · obtain rfl := empty_of hn
      cases six
      · have he : encT' (⟨#[]⟩, false, bs, port) = 1 :: (bs.take 4 ++ [port / 256, port % 256]) := rfl
        rw [encT_some ok he]
        exact refEncT4 bs port hl (by simpa [validA] using h2) ⟨h3, by omega⟩ w
      · have he : encT' (⟨#[]⟩, true, bs, port) = 4 :: (bs ++ [port / 256, port % 256]) := rfl
        rw [encT_some ok he]
        exact refEncT6 bs port hl ⟨h3, by omega⟩ w
    · have he : encT' (name, six, bs, port) = 3 :: (name.size : Int) :: (numsOf name ++ [port / 256, port % 256]) := by
        unfold encT' headT; rw [if_pos hn]; rfl
      rw [encT_some ok he]
      exact refEncTN name six bs port hl (by omega) h1 h2 ⟨h3, by omega⟩ w
theorem good0 : GoodT tgt0 := ⟨rfl, fun x hx => by
  have : ∀ y ∈ zeros, 0 ≤ y ∧ y ≤ 255 := by decide
  exact this x hx⟩
theorem encT_len {t : Tgt} (hg : GoodT t) (h : okT t = true) : (encT' t).length ≤ 259 := by
  obtain ⟨name, six, bs, port⟩ := t
  have hl : bs.length = 16 := hg.1
  simp only [okT, Bool.and_eq_true, decide_eq_true_eq] at h
  unfold encT' headT
  rw [List.length_append]
  have h1 := h.1.1.1
  split
  · simp only [List.length_cons, numsOf_length, List.length_nil]; omega
  · split
    · simp only [List.length_cons, List.length_nil]; omega
    · simp only [List.length_cons, List.length_nil, List.length_take]; omega
/-- A whole reply on the wire. -/
def encRep (code : Int) (t : Tgt) : List Int := 5 :: (code % 256) :: 0 :: (if okT t then encT' t else encT' tgt0)
theorem three_rdAt (w : World) (a b c : Int) (e : TypeId) (g : Nat) (hg : w.heap.size = g) : RdI .u8 (w.alloc (.cells #[.int .u8 a, .int .u8 b, .int .u8 c] e)) (g + 1) (some ⟨g, 0, none⟩) 3 [a, b, c] := by
  subst hg
  exact blk_ints (Blk.new w e [.int .u8 a, .int .u8 b, .int .u8 c]) 0 3 [a, b, c] rfl (fun i hi => by rcases (show i = 0 ∨ i = 1 ∨ i = 2 by simp at hi; omega) with rfl | rfl | rfl <;> rfl)
set_option maxRecDepth 100000 in
set_option maxHeartbeats 4000000 in
theorem replyEnc (code : Int) (t : Tgt) (hg : GoodT t) (hns : t.1.size ≤ 1000000000000000) (w : World) : Calls Tryd.prog 17 #[.int .i64 code, .agg (tgtC t).toArray] w fun e w' => e = .returned (.string (strOfNums (encRep code t))) ∧ Ch [] w w' := by
  have hB : Blk (w.alloc (.cells (tgtC t).toArray 26)) w.heap.size 26 (tgtC t) := Blk.new w _ _
  have hC : Ch [] w (w.alloc (.cells (tgtC t).toArray 26)) := (Ch.refl _ _).alloc _
  have hinf := tgt_inf hg.1
  have HI := hid hinf
  have h1 := encP t hg hns
  have hz : ∀ w, Calls Tryd.prog 11 #[.agg #[.string ⟨#[]⟩, .bool false, .int .u8 0, .int .u8 0, .int .u8 0, .int .u8 0, .int .u8 0, .int .u8 0, .int .u8 0, .int .u8 0, .int .u8 0, .int .u8 0, .int .u8 0, .int .u8 0, .int .u8 0, .int .u8 0, .int .u8 0, .int .u8 0, .int .i64 0]] w fun e w' => e = .returned (.tuple #[.string (strOfNums [1, 0, 0, 0, 0, 0, 0]), .bool true]) ∧ Ch [] w w' := fun w => encP tgt0 good0 (by decide) w
  have HZ := hid hz
  obtain ⟨Z, hZ⟩ : ∃ Z, strOfNums [1, 0, 0, 0, 0, 0, 0] = Z := ⟨_, rfl⟩
  have hZs : Z.size = 7 := by rw [← hZ]; rfl
  rw [hZ] at HZ
  obtain ⟨c, hc⟩ : ∃ c, code % 256 = c := ⟨_, rfl⟩
  obtain ⟨R, hR⟩ : ∃ R, strOfNums [5, c, 0] = R := ⟨_, rfl⟩
  have hRs : R.size = 3 := by rw [← hR, strOf_size]; rfl
  cases ok : okT t with
  | false =>
    have hres : strOfNums (encRep code t) = R ++ Z := by
      unfold encRep; rw [ok, hc, ← hR, ← hZ, strOf_append]; rfl
    rw [encT_none ok] at h1
    have h2 : ∀ w, Calls Tryd.prog 11 #[.agg (tgtC t).toArray] w fun e w' => e = .returned (.tuple #[.string ⟨#[]⟩, .bool false]) ∧ Ch [] w w' := h1
    have H1 := hid h2
    have m1 : R.size + Z.size ≤ maxLen := by unfold maxLen; omega
    rw [hres]
    clear hres h1 h2 hz hinf ok
    generalize tgtC t = cs at hB hC HI H1 ⊢
    go_enter Tryd.func17, Tryd.ntmps17
    go_wp2_with (first
      | (refine wpList_loadB rfl 26 _ rfl w.heap.size 26 cs _ rfl hB Tryd.underlying26 rfl HI.out ?_)
      | (go_at_call 11; (with_reducible refine (H1.out _).mono ?_); rintro e w2 ⟨rfl, C2⟩)
      | (go_at_call 11; (with_reducible refine (HZ.out _).mono ?_); rintro e w3 ⟨rfl, C3⟩)
      | (refine wpList_strOf rfl 34 9 5 _ rfl Tryd.underlying34 Tryd.underlying5 Tryd.underlying9 _ 3 3 _ [5, c, 0] rfl (three_rdAt _ _ _ _ _ _ rfl) ?_; rw [hR]))
    go_ret
    exact ⟨rfl, hC.trans (C2.trans (C3.trans ((Ch.refl _ _).alloc _)))⟩
  | true =>
    obtain ⟨E, hE⟩ : ∃ E, strOfNums (encT' t) = E := ⟨_, rfl⟩
    have hEs : E.size ≤ 259 := by rw [← hE, strOf_size]; exact encT_len hg ok
    have hres : strOfNums (encRep code t) = R ++ E := by
      unfold encRep; rw [ok, hc, ← hR, ← hE, strOf_append]; rfl
    rw [encT_some ok rfl, hE] at h1
    have H1 := hid h1
    have m1 : R.size + E.size ≤ maxLen := by unfold maxLen; omega
    rw [hres]
    clear hres h1 hz hinf ok
    generalize tgtC t = cs at hB hC HI H1 ⊢
    go_enter Tryd.func17, Tryd.ntmps17
    go_wp2_with (first
      | (refine wpList_loadB rfl 26 _ rfl w.heap.size 26 cs _ rfl hB Tryd.underlying26 rfl HI.out ?_)
      | (go_at_call 11; (with_reducible refine (H1.out _).mono ?_); rintro e w2 ⟨rfl, C2⟩)
      | (refine wpList_strOf rfl 34 9 5 _ rfl Tryd.underlying34 Tryd.underlying5 Tryd.underlying9 _ 3 3 _ [5, c, 0] rfl (three_rdAt _ _ _ _ _ _ rfl) ?_; rw [hR]))
    go_ret
    exact ⟨rfl, hC.trans (C2.trans ((Ch.refl _ _).alloc _))⟩

set_option maxRecDepth 100000 in
set_option maxHeartbeats 4000000 in
theorem refEncRep (code : Int) (t : Tgt) (hg : GoodT t) (hns : t.1.size ≤ 1000000000000000) (w : World) : Calls Tryd.prog 18 #[.int .i64 code, .agg (tgtC t).toArray] w fun e w' => e = .returned (.string (strOfNums (encRep code t))) ∧ Ch [] w w' := by
  have hB : Blk (w.alloc (.cells (tgtC t).toArray 26)) w.heap.size 26 (tgtC t) := Blk.new w _ _
  have hC : Ch [] w (w.alloc (.cells (tgtC t).toArray 26)) := (Ch.refl _ _).alloc _
  have hinf := tgt_inf hg.1
  have HI := hid hinf
  have h1 := encQ t hg hns
  have hz : ∀ w, Calls Tryd.prog 12 #[.agg #[.string ⟨#[]⟩, .bool false, .int .u8 0, .int .u8 0, .int .u8 0, .int .u8 0, .int .u8 0, .int .u8 0, .int .u8 0, .int .u8 0, .int .u8 0, .int .u8 0, .int .u8 0, .int .u8 0, .int .u8 0, .int .u8 0, .int .u8 0, .int .u8 0, .int .i64 0]] w fun e w' => e = .returned (.tuple #[.string (strOfNums [1, 0, 0, 0, 0, 0, 0]), .bool true]) ∧ Ch [] w w' := fun w => encQ tgt0 good0 (by decide) w
  have HZ := hid hz
  obtain ⟨Z, hZ⟩ : ∃ Z, strOfNums [1, 0, 0, 0, 0, 0, 0] = Z := ⟨_, rfl⟩
  have hZs : Z.size = 7 := by rw [← hZ]; rfl
  rw [hZ] at HZ
  obtain ⟨c, hc⟩ : ∃ c, code % 256 = c := ⟨_, rfl⟩
  obtain ⟨R, hR⟩ : ∃ R, strOfNums [5, c, 0] = R := ⟨_, rfl⟩
  have hRs : R.size = 3 := by rw [← hR, strOf_size]; rfl
  cases ok : okT t with
  | false =>
    have hres : strOfNums (encRep code t) = R ++ Z := by
      unfold encRep; rw [ok, hc, ← hR, ← hZ, strOf_append]; rfl
    rw [encT_none ok] at h1
    have h2 : ∀ w, Calls Tryd.prog 12 #[.agg (tgtC t).toArray] w fun e w' => e = .returned (.tuple #[.string ⟨#[]⟩, .bool false]) ∧ Ch [] w w' := h1
    have H1 := hid h2
    have m1 : R.size + Z.size ≤ maxLen := by unfold maxLen; omega
    rw [hres]
    clear hres h1 h2 hz hinf ok
    generalize tgtC t = cs at hB hC HI H1 ⊢
    go_enter Tryd.func18, Tryd.ntmps18
    go_wp2_with (first
      | (refine wpList_loadB rfl 26 _ rfl w.heap.size 26 cs _ rfl hB Tryd.underlying26 rfl HI.out ?_)
      | (go_at_call 12; (with_reducible refine (H1.out _).mono ?_); rintro e w2 ⟨rfl, C2⟩)
      | (go_at_call 12; (with_reducible refine (HZ.out _).mono ?_); rintro e w3 ⟨rfl, C3⟩)
      | (refine wpList_strOf rfl 34 9 5 _ rfl Tryd.underlying34 Tryd.underlying5 Tryd.underlying9 _ 3 3 _ [5, c, 0] rfl (three_rdAt _ _ _ _ _ _ rfl) ?_; rw [hR]))
    go_ret
    exact ⟨rfl, hC.trans (C2.trans (C3.trans ((Ch.refl _ _).alloc _)))⟩
  | true =>
    obtain ⟨E, hE⟩ : ∃ E, strOfNums (encT' t) = E := ⟨_, rfl⟩
    have hEs : E.size ≤ 259 := by rw [← hE, strOf_size]; exact encT_len hg ok
    have hres : strOfNums (encRep code t) = R ++ E := by
      unfold encRep; rw [ok, hc, ← hR, ← hE, strOf_append]; rfl
    rw [encT_some ok rfl, hE] at h1
    have H1 := hid h1
    have m1 : R.size + E.size ≤ maxLen := by unfold maxLen; omega
    rw [hres]
    clear hres h1 hz hinf ok
    generalize tgtC t = cs at hB hC HI H1 ⊢
    go_enter Tryd.func18, Tryd.ntmps18
    go_wp2_with (first
      | (refine wpList_loadB rfl 26 _ rfl w.heap.size 26 cs _ rfl hB Tryd.underlying26 rfl HI.out ?_)
      | (go_at_call 12; (with_reducible refine (H1.out _).mono ?_); rintro e w2 ⟨rfl, C2⟩)
      | (refine wpList_strOf rfl 34 9 5 _ rfl Tryd.underlying34 Tryd.underlying5 Tryd.underlying9 _ 3 3 _ [5, c, 0] rfl (three_rdAt _ _ _ _ _ _ rfl) ?_; rw [hR]))
    go_ret
    exact ⟨rfl, hC.trans (C2.trans ((Ch.refl _ _).alloc _))⟩

end Go.Proofs.YtiffpjlmgeklkaaDoor
