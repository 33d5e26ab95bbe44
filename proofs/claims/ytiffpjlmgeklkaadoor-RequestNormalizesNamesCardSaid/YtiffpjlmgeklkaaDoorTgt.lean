/- Targets on the wire, in plain words: what an encoding is, what a parse gives, what a parse of a prefix gives. -/
import Derived.Test.YtiffpjlmgeklkaaDoorReply4
namespace Go.Proofs.YtiffpjlmgeklkaaDoor
open Go.RowKit

abbrev Tgt := ByteArray × Bool × List Int × Int
def zeros : List Int := [0, 0, 0, 0, 0, 0, 0, 0, 0, 0, 0, 0, 0, 0, 0, 0]
def tgt0 : Tgt := (⟨#[]⟩, false, zeros, 0)
def tgtC (t : Tgt) : List Value := targC t.1 t.2.1 t.2.2.1 t.2.2.2
def port2 (l : List Int) (i : Nat) : Int := at_ l i * 256 + at_ l (i + 1)
def parse3 : List Int → Tgt × Int × Int
  | [] => (tgt0, 0, 0)
  | n :: q => if n = 0 then (tgt0, 0, 2) else if q.length < n.toNat + 2 then (tgt0, 0, 0) else ((strOfNums (q.take n.toNat), false, zeros, port2 q n.toNat), n + 4, 1)
/-- Incomplete 0, complete 1, malformed 2. -/
def parseT : List Int → Tgt × Int × Int
  | [] => (tgt0, 0, 0)
  | k :: r =>
    if k = 1 then (if r.length < 6 then (tgt0, 0, 0) else ((⟨#[]⟩, false, r.take 4 ++ [0, 0, 0, 0, 0, 0, 0, 0, 0, 0, 0, 0], port2 r 4), 7, 1))
    else if k = 4 then (if r.length < 18 then (tgt0, 0, 0) else ((⟨#[]⟩, true, r.take 16, port2 r 16), 19, 1))
    else if k = 3 then parse3 r
    else (tgt0, 0, 2)
/-- A whole reply: code, target, bytes used, state. -/
def parseR (l : List Int) : Int × Tgt × Int × Int :=
  if (0 < l.length ∧ at_ l 0 ≠ 5) ∨ (3 ≤ l.length ∧ at_ l 2 ≠ 0) then (0, tgt0, 0, 2)
  else if l.length < 3 then (0, tgt0, 0, 0)
  else if (parseT (l.drop 3)).2.2 ≠ 1 then (0, tgt0, 0, (parseT (l.drop 3)).2.2)
  else (at_ l 1, (parseT (l.drop 3)).1, (parseT (l.drop 3)).2.1 + 3, 1)
def okT (t : Tgt) : Bool := decide (t.1.size ≤ 255) && validA t.2.1 t.2.2.1 && decide (0 ≤ t.2.2.2) && decide (t.2.2.2 ≤ 65535)
def headT (t : Tgt) : List Int := if t.1.size ≠ 0 then 3 :: (t.1.size : Int) :: numsOf t.1 else if t.2.1 then 4 :: t.2.2.1 else 1 :: t.2.2.1.take 4
def encT' (t : Tgt) : List Int := headT t ++ [t.2.2.2 / 256, t.2.2.2 % 256]
def encTgt (t : Tgt) : Option (List Int) := if okT t then some (encT' t) else none
def encV (o : Option (List Int)) : Value := .tuple #[.string (strOfNums (o.getD [])), .bool o.isSome]
/-- What comes back: a name alone, or an address alone. -/
def backT (t : Tgt) : Tgt := if t.1.size ≠ 0 then (t.1, false, zeros, t.2.2.2) else t
def GoodT (t : Tgt) : Prop := t.2.2.1.length = 16 ∧ ∀ x ∈ t.2.2.1, 0 ≤ x ∧ x ≤ 255

theorem port2_app (l : List Int) (p : Int) (r : List Int) (n : Nat) (h : l.length = n) (_h0 : 0 ≤ p) (_h1 : p ≤ 65535) : port2 (l ++ [p / 256, p % 256] ++ r) n = p := by
  subst h
  unfold port2
  have e1 : at_ (l ++ [p / 256, p % 256] ++ r) l.length = p / 256 := by simp [at_, List.getD]
  have e2 : at_ (l ++ [p / 256, p % 256] ++ r) (l.length + 1) = p % 256 := by
    rw [List.append_assoc]
    simp [at_, List.getD]
  rw [e1, e2]; omega
theorem valid4 {bs : List Int} (hl : bs.length = 16) (h : validA false bs = true) : bs.take 4 ++ [0, 0, 0, 0, 0, 0, 0, 0, 0, 0, 0, 0] = bs := by
  have h2 : (bs.drop 4).all (· == 0) = true := by simpa [validA] using h
  have h3 : bs.drop 4 = [0, 0, 0, 0, 0, 0, 0, 0, 0, 0, 0, 0] := by
    have h4 : bs.drop 4 = List.replicate 12 0 := List.eq_replicate_iff.2 ⟨by rw [List.length_drop]; omega, fun x hx => by simpa using List.all_eq_true.1 h2 x hx⟩
    rw [h4]; rfl
  rw [← h3, List.take_append_drop]
theorem parse_enc (t : Tgt) (hg : GoodT t) (hok : okT t = true) (r : List Int) : parseT (encT' t ++ r) = (backT t, ((encT' t).length : Int), 1) := by
  obtain ⟨name, six, bs, p⟩ := t
  obtain ⟨hl, _⟩ := hg
  simp only [okT, Bool.and_eq_true, decide_eq_true_eq] at hok hl
  obtain ⟨⟨⟨h1, h2⟩, h3⟩, h4⟩ := hok
  unfold encT' headT backT
  by_cases hn : name.size = 0
  · simp only [hn, ne_eq, not_true_eq_false, if_false]
    have he : name = ⟨#[]⟩ := str_ext (List.eq_nil_of_length_eq_zero (by rw [Array.length_toList]; exact hn))
    cases six
    · simp only [Bool.false_eq_true, if_false, List.cons_append, parseT, if_pos]
      have hlt : (bs.take 4).length = 4 := by rw [List.length_take]; omega
      rw [if_neg (by simp only [List.length_append, hlt]; simp), port2_app _ _ _ 4 hlt h3 h4, List.append_assoc, List.take_left' hlt, valid4 hl h2, he]
      simp [hlt]
    · simp only [if_true, List.cons_append, parseT, show ¬ (4 : Int) = 1 by decide, if_false]
      rw [if_neg (by simp only [List.length_append, hl]; simp), port2_app _ _ _ 16 hl h3 h4, List.append_assoc, List.take_left' hl, he]
      simp [hl]
  · simp only [ne_eq, hn, not_false_eq_true, if_true, List.cons_append, parseT, parse3, show ¬ (3 : Int) = 1 by decide, show ¬ (3 : Int) = 4 by decide, if_false, if_true]
    have hnl : (numsOf name).length = name.size := numsOf_length name
    rw [if_neg (by omega), Int.toNat_natCast, if_neg (by simp only [List.length_append, hnl]; simp), port2_app _ _ _ _ hnl h3 h4, List.append_assoc, List.take_left' hnl, strOf_nums]
    simp [hnl]
    omega

/-- A parse of a prefix: nothing before some length, one answer from there on. -/
theorem parse_take (l : List Int) (hl : ∀ x ∈ l, 0 ≤ x) : ∃ (N : Nat) (n st : Int), (st = 1 ∧ n = N ∨ st = 2 ∧ n = 0) ∧ ∀ i, i ≤ l.length → (parseT (l.take i)).2 = if i < N then (0, 0) else (n, st) := by
  match l, hl with
  | [], _ => exact ⟨1, 0, 2, .inr ⟨rfl, rfl⟩, fun i hi => by simp at hi; subst hi; rfl⟩
  | k :: r, hl =>
    by_cases h1 : k = 1
    · refine ⟨7, 7, 1, .inl ⟨rfl, rfl⟩, fun i hi => ?_⟩
      cases i with
      | zero => rfl
      | succ i =>
        simp only [List.length_cons] at hi
        simp only [List.take_succ_cons, parseT, if_pos h1, List.length_take]
        by_cases h : i < 6
        · rw [if_pos (by omega), if_pos (by omega)]
        · rw [if_neg (by omega), if_neg (by omega)]
    · by_cases h4 : k = 4
      · refine ⟨19, 19, 1, .inl ⟨rfl, rfl⟩, fun i hi => ?_⟩
        cases i with
        | zero => rfl
        | succ i =>
          simp only [List.length_cons] at hi
          simp only [List.take_succ_cons, parseT, if_neg h1, if_pos h4, List.length_take]
          by_cases h : i < 18
          · rw [if_pos (by omega), if_pos (by omega)]
          · rw [if_neg (by omega), if_neg (by omega)]
      · by_cases h3 : k = 3
        · match r, hl with
          | [], _ =>
            refine ⟨2, 0, 2, .inr ⟨rfl, rfl⟩, fun i hi => ?_⟩
            cases i with
            | zero => rfl
            | succ i =>
              simp only [List.length_cons, List.length_nil] at hi
              obtain rfl : i = 0 := by omega
              simp [parseT, parse3, h3]
          | n :: q, hl =>
            have hn0 : 0 ≤ n := hl n (by simp)
            by_cases hz : n = 0
            · refine ⟨2, 0, 2, .inr ⟨rfl, rfl⟩, fun i hi => ?_⟩
              cases i with
              | zero => rfl
              | succ i =>
                cases i with
                | zero => simp [parseT, parse3, h3]
                | succ i => simp [parseT, parse3, h3, hz]
            · refine ⟨n.toNat + 4, n + 4, 1, .inl ⟨rfl, by omega⟩, fun i hi => ?_⟩
              cases i with
              | zero => simp [parseT]
              | succ i =>
                cases i with
                | zero => simp [parseT, parse3, h3]
                | succ i =>
                  simp only [List.length_cons] at hi
                  simp only [List.take_succ_cons, parseT, parse3, if_neg h1, if_neg h4, if_pos h3, if_neg hz, List.length_take]
                  by_cases h : i < n.toNat + 2
                  · rw [if_pos (by omega), if_pos (by omega)]
                  · rw [if_neg (by omega), if_neg (by omega)]
        · refine ⟨1, 0, 2, .inr ⟨rfl, rfl⟩, fun i hi => ?_⟩
          cases i with
          | zero => rfl
          | succ i => simp [parseT, h1, h4, h3]
theorem reply_take (l : List Int) (hl : ∀ x ∈ l, 0 ≤ x) : ∃ (N : Nat) (n st : Int), (st = 1 ∧ n = N ∨ st = 2 ∧ n = 0) ∧ ∀ i, i ≤ l.length → ((parseR (l.take i)).2.2.1, (parseR (l.take i)).2.2.2) = if i < N then (0, 0) else (n, st) := by
  have hat (i j : Nat) (h : j < i) (h2 : i ≤ l.length) : at_ (l.take i) j = at_ l j := by simp [at_, List.getD, h]
  by_cases h5 : at_ l 0 ≠ 5
  · refine ⟨1, 0, 2, .inr ⟨rfl, rfl⟩, fun i hi => ?_⟩
    rcases Nat.eq_zero_or_pos i with h | h
    · subst h; simp [parseR]
    · have hlt : (l.take i).length = i := by rw [List.length_take]; omega
      unfold parseR
      rw [if_pos (.inl ⟨by omega, by rw [hat i 0 h hi]; exact h5⟩), if_neg (by omega)]
  · by_cases h0 : at_ l 2 ≠ 0
    · refine ⟨3, 0, 2, .inr ⟨rfl, rfl⟩, fun i hi => ?_⟩
      have hlt : (l.take i).length = i := by rw [List.length_take]; omega
      unfold parseR
      by_cases h : i < 3
      · rw [if_neg (by
          rintro (⟨g1, g2⟩ | ⟨g1, _⟩)
          · rw [hat i 0 (by omega) hi] at g2; exact h5 g2
          · omega), if_pos (by omega), if_pos h]
      · rw [if_pos (.inr ⟨by omega, by rw [hat i 2 (by omega) hi]; exact h0⟩), if_neg h]
    · obtain ⟨N, n, st, hv, hall⟩ := parse_take (l.drop 3) (fun x hx => hl x (List.mem_of_mem_drop hx))
      refine ⟨N + 3, if st = 1 then n + 3 else 0, st, ?_, fun i hi => ?_⟩
      · rcases hv with ⟨rfl, rfl⟩ | ⟨rfl, rfl⟩
        · exact .inl ⟨rfl, by rw [if_pos rfl]; omega⟩
        · exact .inr ⟨rfl, by rw [if_neg (by decide)]⟩
      · have hlt : (l.take i).length = i := by rw [List.length_take]; omega
        unfold parseR
        rw [if_neg (by
          rintro (⟨g1, g2⟩ | ⟨g1, g2⟩)
          · rw [hat i 0 (by omega) hi] at g2; exact h5 g2
          · rw [hat i 2 (by omega) hi] at g2; exact h0 g2)]
        by_cases h : i < 3
        · rw [if_pos (by omega), if_pos (by omega)]
        · have he : (l.take i).drop 3 = (l.drop 3).take (i - 3) := by rw [List.drop_take]
          have hp := hall (i - 3) (by rw [List.length_drop]; omega)
          rw [if_neg (by omega), he]
          by_cases hN : i < N + 3
          · rw [if_pos (by omega)] at hp
            rw [hp, if_pos hN, if_pos (by decide)]
          · rw [if_neg (by omega)] at hp
            rw [hp, if_neg hN]
            rcases hv with ⟨rfl, rfl⟩ | ⟨rfl, rfl⟩
            · rw [if_neg (by simp), if_pos rfl]
            · rw [if_pos (by decide), if_neg (by decide)]

/-! ### A parse, by the bytes of a string -/
theorem nums_cons (s : ByteArray) (h : 0 < s.size) : numsOf s = byt s 0 :: (numsOf s).drop 1 := by
  have hl : 0 < (numsOf s).length := by rw [numsOf_length]; exact h
  rw [byt_at h, ← List.drop_zero (l := numsOf s), List.drop_eq_getElem_cons hl]
  simp [at_, List.getD]
theorem drop_cons2 (s : ByteArray) (h : 1 < s.size) : (numsOf s).drop 1 = byt s 1 :: (numsOf s).drop 2 := by
  have hl : 1 < (numsOf s).length := by rw [numsOf_length]; exact h
  rw [byt_at h, List.drop_eq_getElem_cons hl]
  simp [at_, List.getD, List.getElem?_eq_getElem hl]
theorem nums_ext (s : ByteArray) (i j : Nat) : numsOf (s.extract i j) = ((numsOf s).drop i).take (j - i) := by
  unfold numsOf
  rw [ByteArray.data_extract, Array.toList_extract, List.extract_eq_take_drop, List.map_take, List.map_drop]
theorem at_drop (s : ByteArray) (i j : Nat) (h : i + j < s.size) : at_ ((numsOf s).drop i) j = byt s (i + j) := by
  rw [byt_at h]; simp [at_, List.getD]
theorem parse_e (s : ByteArray) (h : s.size = 0) : parseT (numsOf s) = (tgt0, 0, 0) := by
  rw [show numsOf s = [] from List.eq_nil_of_length_eq_zero (by rw [numsOf_length]; exact h)]; rfl
theorem drop_len (s : ByteArray) (i : Nat) : ((numsOf s).drop i).length = s.size - i := by rw [List.length_drop, numsOf_length]
theorem parse_1s (s : ByteArray) (h : 0 < s.size) (h1 : byt s 0 = 1) (h2 : s.size < 7) : parseT (numsOf s) = (tgt0, 0, 0) := by
  rw [nums_cons s h, h1, parseT, if_pos rfl, if_pos (by rw [drop_len]; omega)]
theorem parse_1 (s : ByteArray) (h1 : byt s 0 = 1) (h2 : 7 ≤ s.size) : parseT (numsOf s) = ((⟨#[]⟩, false, numsOf (s.extract 1 5) ++ [0, 0, 0, 0, 0, 0, 0, 0, 0, 0, 0, 0], byt s 5 * 256 + byt s 6), 7, 1) := by
  rw [nums_cons s (by omega), h1, parseT, if_pos rfl, if_neg (by rw [drop_len]; omega), nums_ext, port2, at_drop s 1 4 (by omega), at_drop s 1 (4 + 1) (by omega)]
theorem parse_4s (s : ByteArray) (h : 0 < s.size) (h1 : byt s 0 = 4) (h2 : s.size < 19) : parseT (numsOf s) = (tgt0, 0, 0) := by
  rw [nums_cons s h, h1, parseT, if_neg (by decide), if_pos rfl, if_pos (by rw [drop_len]; omega)]
theorem parse_4 (s : ByteArray) (h1 : byt s 0 = 4) (h2 : 19 ≤ s.size) : parseT (numsOf s) = ((⟨#[]⟩, true, numsOf (s.extract 1 17), byt s 17 * 256 + byt s 18), 19, 1) := by
  rw [nums_cons s (by omega), h1, parseT, if_neg (by decide), if_pos rfl, if_neg (by rw [drop_len]; omega), nums_ext, port2, at_drop s 1 16 (by omega), at_drop s 1 (16 + 1) (by omega)]
theorem parse_3a (s : ByteArray) (h : s.size = 1) (h1 : byt s 0 = 3) : parseT (numsOf s) = (tgt0, 0, 0) := by
  rw [nums_cons s (by omega), h1, List.eq_nil_of_length_eq_zero (l := (numsOf s).drop 1) (by rw [drop_len]; omega)]; rfl
theorem parse_3m (s : ByteArray) (h : 2 ≤ s.size) (h1 : byt s 0 = 3) (h2 : byt s 1 = 0) : parseT (numsOf s) = (tgt0, 0, 2) := by
  rw [nums_cons s (by omega), h1, drop_cons2 s (by omega), parseT, if_neg (by decide), if_neg (by decide), if_pos rfl, parse3, if_pos h2]
theorem parse_3s (s : ByteArray) (n : Nat) (h : 2 ≤ s.size) (h1 : byt s 0 = 3) (h2 : byt s 1 = n) (h3 : n ≠ 0) (h4 : s.size < n + 4) : parseT (numsOf s) = (tgt0, 0, 0) := by
  rw [nums_cons s (by omega), h1, drop_cons2 s (by omega), parseT, if_neg (by decide), if_neg (by decide), if_pos rfl, parse3, h2, if_neg (by omega), Int.toNat_natCast, if_pos (by rw [drop_len]; omega)]
theorem parse_3 (s : ByteArray) (n : Nat) (h1 : byt s 0 = 3) (h2 : byt s 1 = n) (h3 : n ≠ 0) (h4 : n + 4 ≤ s.size) : parseT (numsOf s) = ((s.extract 2 (2 + n), false, zeros, byt s (2 + n) * 256 + byt s (2 + n + 1)), (n : Int) + 4, 1) := by
  rw [nums_cons s (by omega), h1, drop_cons2 s (by omega), parseT, if_neg (by decide), if_neg (by decide), if_pos rfl, parse3, h2, if_neg (by omega), Int.toNat_natCast, if_neg (by rw [drop_len]; omega), port2, at_drop s 2 n (by omega), at_drop s 2 (n + 1) (by omega)]
  have e : strOfNums (((numsOf s).drop 2).take n) = s.extract 2 (2 + n) := by
    rw [← strOf_nums (s.extract 2 (2 + n)), nums_ext]; congr 2; omega
  rw [e]; rfl
theorem parse_x (s : ByteArray) (h : 0 < s.size) (h1 : byt s 0 ≠ 1) (h4 : byt s 0 ≠ 4) (h3 : byt s 0 ≠ 3) : parseT (numsOf s) = (tgt0, 0, 2) := by
  rw [nums_cons s h, parseT, if_neg h1, if_neg h4, if_neg h3]
def tgV (r : Tgt × Int × Int) : Value := .tuple #[.agg (tgtC r.1).toArray, .int .i64 r.2.1, .int .i64 r.2.2]

theorem wrapI (n : Int) (h0 : 0 ≤ n) (h1 : n < 9223372036854775808) : IntKind.i64.wrap n = n := by
  simp [IntKind.wrap, IntKind.bits, IntKind.signed]
  split <;> omega
theorem ofIntU (x : Nat) (h : x < 18446744073709551616) : (BitVec.ofInt 64 (x : Int)).toNat = x := by
  rw [BitVec.ofInt_natCast, BitVec.toNat_ofNat]; exact Nat.mod_eq_of_lt (by omega)
theorem or256 (x y : Int) (h0 : 0 ≤ x) (h1 : x < 65536) (h2 : 0 ≤ y) (h3 : y ≤ 255) : bits .or .i64 (x * 256) y = x * 256 + y := by
  obtain ⟨a, rfl⟩ := Int.eq_ofNat_of_zero_le h0
  obtain ⟨b, rfl⟩ := Int.eq_ofNat_of_zero_le h2
  have e : ((a : Int) * 256) = ((2 ^ 8 * a : Nat) : Int) := by omega
  rw [e]
  show IntKind.i64.wrap ((BitVec.ofInt 64 ((2 ^ 8 * a : Nat) : Int) ||| BitVec.ofInt 64 (b : Int)).toNat : Int) = _
  rw [BitVec.toNat_or, ofIntU _ (by omega), ofIntU b (by omega), ← Nat.two_pow_add_eq_or_of_lt (by omega)]
  rw [wrapI _ (by omega) (by omega)]; omega
end Go.Proofs.YtiffpjlmgeklkaaDoor
