/- Requests: the plain layer. -/
import Derived.Test.YtiffpjlmgeklkaaDoorHost3
namespace Go.Proofs.YtiffpjlmgeklkaaDoor
open Go.RowKit

def nameOf (s : ByteArray) : ByteArray := if namOk (numsOf (canS s)) = true then canS s else ⟨#[]⟩
def parseQ (l : List Int) : Tgt × Int × Int × Int :=
  if (0 < l.length ∧ at_ l 0 ≠ 5) ∨ (3 ≤ l.length ∧ at_ l 2 ≠ 0) then (tgt0, 0, 0, 2)
  else if l.length < 4 then (tgt0, 0, 0, 0)
  else if at_ l 3 ≠ 1 ∧ at_ l 3 ≠ 3 ∧ at_ l 3 ≠ 4 then (tgt0, 8, 4, 1)
  else if (parseT (l.drop 3)).2.2 ≠ 1 then (tgt0, 0, 0, (parseT (l.drop 3)).2.2)
  else if at_ l 1 ≠ 1 then (tgt0, 7, 3 + (parseT (l.drop 3)).2.1, 1)
  else if (parseT (l.drop 3)).1.1.size ≠ 0 ∧ namOk (numsOf (canS (parseT (l.drop 3)).1.1)) = false then (tgt0, 1, 3 + (parseT (l.drop 3)).2.1, 1)
  else if (parseT (l.drop 3)).1.2.2.2 = 0 then (tgt0, 1, 3 + (parseT (l.drop 3)).2.1, 1)
  else ((if (parseT (l.drop 3)).1.1.size ≠ 0 then (canS (parseT (l.drop 3)).1.1, (parseT (l.drop 3)).1.2) else (parseT (l.drop 3)).1), 0, 3 + (parseT (l.drop 3)).2.1, 1)
def rqV (r : Tgt × Int × Int × Int) : Value := .tuple #[.agg (tgtC r.1).toArray, .int .i64 r.2.1, .int .i64 r.2.2.1, .int .i64 r.2.2.2]

/-- For every input the state is 'incomplete' up to some length and fixed from there on. -/
theorem req_take (l : List Int) (hl : ∀ x ∈ l, 0 ≤ x) : ∃ (N : Nat) (n st : Int), (st = 1 ∧ n = N ∨ st = 2 ∧ n = 0) ∧ ∀ i, i ≤ l.length → ((parseQ (l.take i)).2.2.1, (parseQ (l.take i)).2.2.2) = if i < N then (0, 0) else (n, st) := by
  have hat (i j : Nat) (h : j < i) (h2 : i ≤ l.length) : at_ (l.take i) j = at_ l j := by simp [at_, List.getD, h]
  by_cases h5 : at_ l 0 ≠ 5
  · refine ⟨1, 0, 2, .inr ⟨rfl, rfl⟩, fun i hi => ?_⟩
    rcases Nat.eq_zero_or_pos i with h | h
    · subst h; simp [parseQ]
    · have hlt : (l.take i).length = i := by rw [List.length_take]; omega
      unfold parseQ
      rw [if_pos (.inl ⟨by omega, by rw [hat i 0 h hi]; exact h5⟩), if_neg (by omega)]
  · by_cases h0 : at_ l 2 ≠ 0
    · refine ⟨3, 0, 2, .inr ⟨rfl, rfl⟩, fun i hi => ?_⟩
      have hlt : (l.take i).length = i := by rw [List.length_take]; omega
      unfold parseQ
      by_cases h : i < 3
      · rw [if_neg (by
          rintro (⟨g1, g2⟩ | ⟨g1, _⟩)
          · rw [hat i 0 (by omega) hi] at g2; exact h5 g2
          · omega), if_pos (by omega), if_pos h]
      · rw [if_pos (.inr ⟨by omega, by rw [hat i 2 (by omega) hi]; exact h0⟩), if_neg h]
    · have hhead (i : Nat) (hi : i ≤ l.length) : ¬ ((0 < (l.take i).length ∧ at_ (l.take i) 0 ≠ 5) ∨ (3 ≤ (l.take i).length ∧ at_ (l.take i) 2 ≠ 0)) := by
        have hlt : (l.take i).length = i := by rw [List.length_take]; omega
        rintro (⟨g1, g2⟩ | ⟨g1, g2⟩)
        · rw [hat i 0 (by omega) hi] at g2; exact h5 g2
        · rw [hat i 2 (by omega) hi] at g2; exact h0 g2
      by_cases hk : at_ l 3 ≠ 1 ∧ at_ l 3 ≠ 3 ∧ at_ l 3 ≠ 4
      · refine ⟨4, 4, 1, .inl ⟨rfl, rfl⟩, fun i hi => ?_⟩
        have hlt : (l.take i).length = i := by rw [List.length_take]; omega
        unfold parseQ
        rw [if_neg (hhead i hi)]
        by_cases h : i < 4
        · rw [if_pos (by omega), if_pos h]
        · rw [if_neg (by omega), if_pos (by rw [hat i 3 (by omega) hi]; exact hk), if_neg h]
      · obtain ⟨N, n, st, hv, hall⟩ := parse_take (l.drop 3) (fun x hx => hl x (List.mem_of_mem_drop hx))
        have hN0 : 0 < N := by
          rcases Nat.eq_zero_or_pos N with h | h
          · have h2 := hall 0 (Nat.zero_le _)
            rw [h, if_neg (by omega)] at h2
            have h3 : (0 : Int) = st := congrArg Prod.snd h2
            rcases hv with ⟨g, _⟩ | ⟨g, _⟩ <;> omega
          · exact h
        refine ⟨N + 3, if st = 1 then n + 3 else 0, st, ?_, fun i hi => ?_⟩
        · rcases hv with ⟨rfl, rfl⟩ | ⟨rfl, rfl⟩
          · exact .inl ⟨rfl, by rw [if_pos rfl]; omega⟩
          · exact .inr ⟨rfl, by rw [if_neg (by decide)]⟩
        · have hlt : (l.take i).length = i := by rw [List.length_take]; omega
          unfold parseQ
          rw [if_neg (hhead i hi)]
          by_cases h : i < 4
          · rw [if_pos (by omega), if_pos (by omega)]
          · have he : (l.take i).drop 3 = (l.drop 3).take (i - 3) := by rw [List.drop_take]
            have hp := hall (i - 3) (by rw [List.length_drop]; omega)
            rw [if_neg (by omega), if_neg (by rw [hat i 3 (by omega) hi]; exact hk), he, hat i 1 (by omega) hi]
            by_cases hN : i < N + 3
            · rw [if_pos (by omega)] at hp
              rw [hp, if_pos hN, if_pos (by decide)]
            · rw [if_neg (by omega)] at hp
              rw [if_neg hN]
              have q1 : (parseT ((l.drop 3).take (i - 3))).2.1 = n := congrArg Prod.fst hp
              have q2 : (parseT ((l.drop 3).take (i - 3))).2.2 = st := congrArg Prod.snd hp
              rw [q1, q2]
              rcases hv with ⟨rfl, rfl⟩ | ⟨rfl, rfl⟩
              · rw [if_neg (by simp), if_pos rfl, Int.add_comm (N : Int) 3]
                split
                · rfl
                · split
                  · rfl
                  · split <;> rfl
              · rw [if_pos (by decide), if_neg (by decide)]

section
variable (s : ByteArray)
theorem rq_mal0 (h : 0 < s.size) (h5 : byt s 0 ≠ 5) : parseQ (numsOf s) = (tgt0, 0, 0, 2) := by
  unfold parseQ; rw [if_pos (.inl ⟨by rw [numsOf_length]; exact h, by rw [← byt_at h]; exact h5⟩)]
theorem rq_mal2 (h : 3 ≤ s.size) (h0 : byt s 2 ≠ 0) : parseQ (numsOf s) = (tgt0, 0, 0, 2) := by
  unfold parseQ; rw [if_pos (.inr ⟨by rw [numsOf_length]; exact h, by rw [← byt_at (by omega)]; exact h0⟩)]
theorem rq_inc (h : s.size < 4) (h5 : 0 < s.size → byt s 0 = 5) (h0 : 3 ≤ s.size → byt s 2 = 0) : parseQ (numsOf s) = (tgt0, 0, 0, 0) := by
  unfold parseQ; rw [if_neg (rp_good s h5 h0), if_pos (by rw [numsOf_length]; exact h)]
variable (h : 4 ≤ s.size) (h5 : byt s 0 = 5) (h0 : byt s 2 = 0)
include h h5 h0
theorem rq_kind (h1 : byt s 3 ≠ 1) (h3 : byt s 3 ≠ 3) (h4 : byt s 3 ≠ 4) : parseQ (numsOf s) = (tgt0, 8, 4, 1) := by
  unfold parseQ
  rw [if_neg (rp_good s (fun _ => h5) (fun _ => h0)), if_neg (by rw [numsOf_length]; omega), ← byt_at (show 3 < s.size by omega), if_pos ⟨h1, h3, h4⟩]
variable (hk : byt s 3 = 1 ∨ byt s 3 = 3 ∨ byt s 3 = 4) (T : Tgt × Int × Int) (hT : parseT ((numsOf s).drop 3) = T)
include hk hT
theorem rq_no (hs : T.2.2 ≠ 1) : parseQ (numsOf s) = (tgt0, 0, 0, T.2.2) := by
  unfold parseQ
  rw [if_neg (rp_good s (fun _ => h5) (fun _ => h0)), if_neg (by rw [numsOf_length]; omega), ← byt_at (show 3 < s.size by omega), if_neg (by omega), hT, if_pos hs]
theorem rq_cmd (hs : T.2.2 = 1) (h1 : byt s 1 ≠ 1) : parseQ (numsOf s) = (tgt0, 7, 3 + T.2.1, 1) := by
  unfold parseQ
  rw [if_neg (rp_good s (fun _ => h5) (fun _ => h0)), if_neg (by rw [numsOf_length]; omega), ← byt_at (show 3 < s.size by omega), ← byt_at (show 1 < s.size by omega), if_neg (by omega), hT, if_neg (by omega), if_pos h1]
theorem rq_name (hs : T.2.2 = 1) (h1 : byt s 1 = 1) (hn : 0 < T.1.1.size) (hb : namOk (numsOf (canS T.1.1)) = false) : parseQ (numsOf s) = (tgt0, 1, 3 + T.2.1, 1) := by
  unfold parseQ
  rw [if_neg (rp_good s (fun _ => h5) (fun _ => h0)), if_neg (by rw [numsOf_length]; omega), ← byt_at (show 3 < s.size by omega), ← byt_at (show 1 < s.size by omega), if_neg (by omega), hT, if_neg (by omega), if_neg (by omega), if_pos ⟨by omega, hb⟩]
theorem rq_port (hs : T.2.2 = 1) (h1 : byt s 1 = 1) (hb : T.1.1.size = 0 ∨ namOk (numsOf (canS T.1.1)) = true) (hp : T.1.2.2.2 = 0) : parseQ (numsOf s) = (tgt0, 1, 3 + T.2.1, 1) := by
  unfold parseQ
  rw [if_neg (rp_good s (fun _ => h5) (fun _ => h0)), if_neg (by rw [numsOf_length]; omega), ← byt_at (show 3 < s.size by omega), ← byt_at (show 1 < s.size by omega), if_neg (by omega), hT, if_neg (by omega), if_neg (by omega),
    if_neg (by rintro ⟨g1, g2⟩; rcases hb with hb | hb; exact g1 hb; rw [hb] at g2; cases g2), if_pos hp]
theorem rq_ok (hs : T.2.2 = 1) (h1 : byt s 1 = 1) (hb : T.1.1.size = 0 ∨ namOk (numsOf (canS T.1.1)) = true) (hp : T.1.2.2.2 ≠ 0) : parseQ (numsOf s) = ((if T.1.1.size ≠ 0 then (canS T.1.1, T.1.2) else T.1), 0, 3 + T.2.1, 1) := by
  unfold parseQ
  rw [if_neg (rp_good s (fun _ => h5) (fun _ => h0)), if_neg (by rw [numsOf_length]; omega), ← byt_at (show 3 < s.size by omega), ← byt_at (show 1 < s.size by omega), if_neg (by omega), hT, if_neg (by omega), if_neg (by omega),
    if_neg (by rintro ⟨g1, g2⟩; rcases hb with hb | hb; exact g1 hb; rw [hb] at g2; cases g2), if_neg hp]
end
end Go.Proofs.YtiffpjlmgeklkaaDoor
