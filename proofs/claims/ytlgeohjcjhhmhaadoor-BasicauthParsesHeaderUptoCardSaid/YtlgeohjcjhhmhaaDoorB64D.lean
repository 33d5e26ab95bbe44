/- Base64: what a decoding is. -/
import Derived.Test.YtlgeohjcjhhmhaaDoorB64
namespace Go.Proofs.YtlgeohjcjhhmhaaDoor
open Go.RowKit

/-- The number of a letter; -1 for other bytes. -/
def b64V (c : Int) : Int := if 65 ≤ c ∧ c ≤ 90 then c - 65 else if 97 ≤ c ∧ c ≤ 122 then c - 71 else if 48 ≤ c ∧ c ≤ 57 then c + 4 else if c = 43 then 62 else if c = 47 then 63 else -1
theorem b64V_L (n : Int) (h0 : 0 ≤ n) (h1 : n < 64) : b64V (b64L n) = n := by unfold b64V b64L; repeat (first | omega | split)
theorem b64V_rng (c : Int) : -1 ≤ b64V c ∧ b64V c < 64 := by unfold b64V; repeat (first | omega | split)
theorem b64L_V (c : Int) (h : 0 ≤ b64V c) : b64L (b64V c) = c := by
  unfold b64V at h ⊢
  unfold b64L
  repeat (first | omega | split at h)
  all_goals repeat (first | omega | split)
theorem b64L_ne (n : Int) (h0 : 0 ≤ n) (h1 : n < 64) : b64L n ≠ 61 := by unfold b64L; repeat (first | omega | split)
theorem b64V_none (c : Int) (h : ∀ n : Nat, n < 64 → b64L n ≠ c) : b64V c = -1 := by
  rcases Int.lt_or_le (b64V c) 0 with h1 | h1
  · have := b64V_rng c; omega
  · have h2 := b64V_rng c
    exact absurd (by rw [show ((b64V c).toNat : Int) = b64V c by omega]; exact b64L_V c h1) (h (b64V c).toNat (by omega))

/-- The program's decoding: a number v of k bits, the bytes that came out. -/
def pdec : List Int → Int → Nat → List Int → Option (List Int)
  | [], _, _, out => some out
  | c :: r, v, k, out => if b64V c < 0 then none else if k < 2 then pdec r (v * 64 + b64V c) (k + 6) out else pdec r ((v * 64 + b64V c) % 2 ^ (k - 2)) (k - 2) (out ++ [(v * 64 + b64V c) / 2 ^ (k - 2)])
/-- The letters without the padding. -/
def encT : List Int → List Int
  | a :: b :: c :: r => b64L (a / 4) :: b64L (a % 4 * 16 + b / 16) :: b64L (b % 16 * 4 + c / 64) :: b64L (c % 64) :: encT r
  | [a, b] => [b64L (a / 4), b64L (a % 4 * 16 + b / 16), b64L (b % 16 * 4)]
  | [a] => [b64L (a / 4), b64L (a % 4 * 16)]
  | [] => []
def Bytes (d : List Int) : Prop := ∀ x ∈ d, 0 ≤ x ∧ x ≤ 255
theorem Bytes.tail {a : Int} {d : List Int} (h : Bytes (a :: d)) : Bytes d := fun x hx => h x (List.mem_cons_of_mem _ hx)
theorem Bytes.head {a : Int} {d : List Int} (h : Bytes (a :: d)) : 0 ≤ a ∧ a ≤ 255 := h a (List.mem_cons_self ..)
theorem Bytes.append {d e : List Int} (h : Bytes d) (h2 : Bytes e) : Bytes (d ++ e) := fun x hx => (List.mem_append.1 hx).elim (h x) (h2 x)
theorem Bytes.nil : Bytes [] := fun x hx => by cases hx
theorem Bytes.one {a : Int} (h0 : 0 ≤ a) (h1 : a ≤ 255) : Bytes [a] := fun x hx => by rw [List.mem_singleton] at hx; subst hx; exact ⟨h0, h1⟩
theorem bytes_numsOf (s : ByteArray) : Bytes (numsOf s) := by
  intro x hx
  obtain ⟨b, _, rfl⟩ := List.mem_map.1 hx
  have := b.toNat_lt
  omega
theorem nums_str (d : List Int) (h : Bytes d) : numsOf (strOfNums d) = d := by
  unfold numsOf
  rw [strOfNums_data, List.map_map]
  conv => rhs; rw [← List.map_id d]
  apply List.map_congr_left
  intro x hx
  obtain ⟨h0, h1⟩ := h x hx
  obtain ⟨n, rfl⟩ := Int.eq_ofNat_of_zero_le h0
  simp
  omega

theorem pdec_step (c v : Int) (k : Nat) (r out : List Int) (h : 0 ≤ b64V c) : pdec (c :: r) v k out = if k < 2 then pdec r (v * 64 + b64V c) (k + 6) out else pdec r ((v * 64 + b64V c) % 2 ^ (k - 2)) (k - 2) (out ++ [(v * 64 + b64V c) / 2 ^ (k - 2)]) := by
  rw [pdec, if_neg (by omega)]
theorem pdec_L (n v : Int) (k : Nat) (r out : List Int) (h0 : 0 ≤ n) (h1 : n < 64) : pdec (b64L n :: r) v k out = if k < 2 then pdec r (v * 64 + n) (k + 6) out else pdec r ((v * 64 + n) % 2 ^ (k - 2)) (k - 2) (out ++ [(v * 64 + n) / 2 ^ (k - 2)]) := by
  rw [pdec_step _ _ _ _ _ (by rw [b64V_L n h0 h1]; exact h0), b64V_L n h0 h1]
theorem pdec_encT : ∀ (d out : List Int), Bytes d → pdec (encT d) 0 0 out = some (out ++ d)
  | a :: b :: c :: r, out, h => by
    have ha := h.head; have hb := h.tail.head; have hc := h.tail.tail.head
    have ih := pdec_encT r (out ++ [a] ++ [b] ++ [c]) h.tail.tail.tail
    rw [encT, pdec_L _ _ _ _ _ (by omega) (by omega), if_pos (by omega), pdec_L _ _ _ _ _ (by omega) (by omega), if_neg (by omega), pdec_L _ _ _ _ _ (by omega) (by omega), if_neg (by omega), pdec_L _ _ _ _ _ (by omega) (by omega), if_neg (by omega)]
    simp only [Nat.zero_add, Nat.reduceSub, Int.reducePow, Int.zero_mul, Int.zero_add]
    rw [show (a / 4 * 64 + (a % 4 * 16 + b / 16)) / 16 = a by omega, show ((a / 4 * 64 + (a % 4 * 16 + b / 16)) % 16 * 64 + (b % 16 * 4 + c / 64)) / 4 = b by omega, show (((a / 4 * 64 + (a % 4 * 16 + b / 16)) % 16 * 64 + (b % 16 * 4 + c / 64)) % 4 * 64 + c % 64) / 1 = c by omega, show (((a / 4 * 64 + (a % 4 * 16 + b / 16)) % 16 * 64 + (b % 16 * 4 + c / 64)) % 4 * 64 + c % 64) % 1 = 0 by omega, ih]
    simp
  | [a, b], out, h => by
    have ha := h.head; have hb := h.tail.head
    rw [encT, pdec_L _ _ _ _ _ (by omega) (by omega), if_pos (by omega), pdec_L _ _ _ _ _ (by omega) (by omega), if_neg (by omega), pdec_L _ _ _ _ _ (by omega) (by omega), if_neg (by omega), pdec]
    simp only [Nat.zero_add, Nat.reduceSub, Int.reducePow, Int.zero_mul, Int.zero_add]
    rw [show (a / 4 * 64 + (a % 4 * 16 + b / 16)) / 16 = a by omega, show ((a / 4 * 64 + (a % 4 * 16 + b / 16)) % 16 * 64 + b % 16 * 4) / 4 = b by omega]
    simp
  | [a], out, h => by
    have ha := h.head
    rw [encT, pdec_L _ _ _ _ _ (by omega) (by omega), if_pos (by omega), pdec_L _ _ _ _ _ (by omega) (by omega), if_neg (by omega), pdec]
    simp only [Nat.zero_add, Nat.reduceSub, Int.reducePow, Int.zero_mul, Int.zero_add]
    rw [show (a / 4 * 64 + a % 4 * 16) / 16 = a by omega]
  | [], out, _ => by rw [encT, pdec, List.append_nil]
theorem encT_ne : ∀ d : List Int, Bytes d → ∀ x ∈ encT d, x ≠ 61
  | a :: b :: c :: r, h => by
    have ha := h.head; have hb := h.tail.head; have hc := h.tail.tail.head
    intro x hx
    simp only [encT, List.mem_cons] at hx
    rcases hx with rfl | rfl | rfl | rfl | hx
    · exact b64L_ne _ (by omega) (by omega)
    · exact b64L_ne _ (by omega) (by omega)
    · exact b64L_ne _ (by omega) (by omega)
    · exact b64L_ne _ (by omega) (by omega)
    · exact encT_ne r h.tail.tail.tail x hx
  | [a, b], h => by
    have ha := h.head; have hb := h.tail.head
    intro x hx
    simp only [encT, List.mem_cons, List.not_mem_nil, or_false] at hx
    rcases hx with rfl | rfl | rfl
    · exact b64L_ne _ (by omega) (by omega)
    · exact b64L_ne _ (by omega) (by omega)
    · exact b64L_ne _ (by omega) (by omega)
  | [a], h => by
    have ha := h.head
    intro x hx
    simp only [encT, List.mem_cons, List.not_mem_nil, or_false] at hx
    rcases hx with rfl | rfl
    · exact b64L_ne _ (by omega) (by omega)
    · exact b64L_ne _ (by omega) (by omega)
  | [], _ => by intro x hx; cases hx
theorem enc_encT : ∀ d : List Int, ∃ k, enc d = encT d ++ List.replicate k 61
  | a :: b :: c :: r => by
    obtain ⟨k, hk⟩ := enc_encT r
    exact ⟨k, by rw [enc, encT, hk]; rfl⟩
  | [a, b] => ⟨1, rfl⟩
  | [a] => ⟨2, rfl⟩
  | [] => ⟨0, rfl⟩

/-- The reference's decoding, group by group. -/
def vof (c : Int) : Int := if 0 ≤ b64V c then b64V c else 0
def nof (c : Int) : Nat := if 0 ≤ b64V c then 1 else 0
def grp (a b c d : Int) : List Int := (vof a * 4 + vof b / 16) :: ((if 2 < nof a + nof b + nof c + nof d then [(vof b * 16 + vof c / 4) % 256] else []) ++ (if 3 < nof a + nof b + nof c + nof d then [(vof c * 64 + vof d) % 256] else []))
def rdec : List Int → List Int
  | a :: b :: c :: d :: r => grp a b c d ++ rdec r
  | _ => []
theorem vof_L (n : Int) (h0 : 0 ≤ n) (h1 : n < 64) : vof (b64L n) = n ∧ nof (b64L n) = 1 := by
  unfold vof nof; rw [b64V_L n h0 h1, if_pos h0, if_pos h0]; exact ⟨rfl, rfl⟩
theorem vof_rng (c : Int) : 0 ≤ vof c ∧ vof c < 64 := by have := b64V_rng c; unfold vof; split <;> omega
theorem nof_rng (c : Int) : nof c ≤ 1 := by unfold nof; split <;> omega
theorem vof_pad : vof 61 = 0 ∧ nof 61 = 0 := by decide
theorem bytes_grp (a b c d : Int) : Bytes (grp a b c d) := by
  have h1 := vof_rng a; have h2 := vof_rng b
  intro x hx
  simp only [grp, List.mem_cons, List.mem_append] at hx
  rcases hx with rfl | hx | hx
  · omega
  · split at hx
    · rw [List.mem_singleton] at hx; omega
    · cases hx
  · split at hx
    · rw [List.mem_singleton] at hx; omega
    · cases hx
theorem bytes_rdec : ∀ l : List Int, Bytes (rdec l)
  | a :: b :: c :: d :: r => (bytes_grp a b c d).append (bytes_rdec r)
  | [] => Bytes.nil
  | [_] => Bytes.nil
  | [_, _] => Bytes.nil
  | [_, _, _] => Bytes.nil
theorem rdec_enc : ∀ d : List Int, Bytes d → rdec (enc d) = d
  | a :: b :: c :: r, h => by
    have ha := h.head; have hb := h.tail.head; have hc := h.tail.tail.head
    have ih := rdec_enc r h.tail.tail.tail
    obtain ⟨v1, n1⟩ := vof_L (a / 4) (by omega) (by omega)
    obtain ⟨v2, n2⟩ := vof_L (a % 4 * 16 + b / 16) (by omega) (by omega)
    obtain ⟨v3, n3⟩ := vof_L (b % 16 * 4 + c / 64) (by omega) (by omega)
    obtain ⟨v4, n4⟩ := vof_L (c % 64) (by omega) (by omega)
    simp only [enc, rdec, grp, v1, v2, v3, v4, n1, n2, n3, n4, ih, Nat.reduceAdd, Nat.reduceLT, if_pos trivial, List.cons_append, List.nil_append]
    rw [show a / 4 * 4 + (a % 4 * 16 + b / 16) / 16 = a by omega, show ((a % 4 * 16 + b / 16) * 16 + (b % 16 * 4 + c / 64) / 4) % 256 = b by omega, show ((b % 16 * 4 + c / 64) * 64 + c % 64) % 256 = c by omega]
  | [a, b], h => by
    have ha := h.head; have hb := h.tail.head
    obtain ⟨v1, n1⟩ := vof_L (a / 4) (by omega) (by omega)
    obtain ⟨v2, n2⟩ := vof_L (a % 4 * 16 + b / 16) (by omega) (by omega)
    obtain ⟨v3, n3⟩ := vof_L (b % 16 * 4) (by omega) (by omega)
    simp only [enc, rdec, grp, v1, v2, v3, n1, n2, n3, vof_pad.1, vof_pad.2, Nat.reduceAdd, Nat.reduceLT, if_true, if_false, List.append_nil]
    rw [show a / 4 * 4 + (a % 4 * 16 + b / 16) / 16 = a by omega, show ((a % 4 * 16 + b / 16) * 16 + b % 16 * 4 / 4) % 256 = b by omega]
  | [a], h => by
    have ha := h.head
    obtain ⟨v1, n1⟩ := vof_L (a / 4) (by omega) (by omega)
    obtain ⟨v2, n2⟩ := vof_L (a % 4 * 16) (by omega) (by omega)
    simp only [enc, rdec, grp, v1, v2, n1, n2, vof_pad.1, vof_pad.2, Nat.reduceAdd, Nat.reduceLT, if_false, List.append_nil]
    rw [show a / 4 * 4 + a % 4 * 16 / 16 = a by omega]
  | [], _ => rfl

/-- What the padding's removal leaves of an encoding. -/
theorem trim_enc (s : ByteArray) (d : List Int) (hd : Bytes d) (h : numsOf s = enc d) (m : Nat) (hm : m ≤ s.size) (h1 : ∀ i, m ≤ i → i < s.size → byt s i = 61) (h2 : 0 < m → byt s (m - 1) ≠ 61) : (numsOf s).take m = encT d := by
  obtain ⟨k, hk⟩ := enc_encT d
  have hl : s.size = (encT d).length + k := by rw [← numsOf_length, h, hk, List.length_append, List.length_replicate]
  have hat (i : Nat) (hi : i < s.size) : byt s i = (encT d ++ List.replicate k 61)[i]'(by rw [List.length_append, List.length_replicate]; omega) := by
    rw [byt_at hi, h, hk]; simp [at_, List.getD, List.getElem?_eq_getElem (show i < (encT d ++ List.replicate k 61).length by rw [List.length_append, List.length_replicate]; omega)]
  have e : m = (encT d).length := by
    rcases Nat.lt_trichotomy m (encT d).length with hlt | heq | hgt
    · have g1 := h1 ((encT d).length - 1) (by omega) (by omega)
      rw [hat _ (by omega), List.getElem_append_left (by omega)] at g1
      exact absurd g1 (encT_ne d hd _ (List.getElem_mem _))
    · exact heq
    · have g1 := h2 (by omega)
      rw [hat _ (by omega), List.getElem_append_right (by omega), List.getElem_replicate] at g1
      exact absurd rfl g1
  rw [h, hk, e, List.take_left]
end Go.Proofs.YtlgeohjcjhhmhaaDoor
