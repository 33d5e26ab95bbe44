/- Bits of an address's bytes: what is kept of a byte, what two bytes have in common; the plain layer. -/
import Derived.Test.YtjabeabbaambcaaDoorBase
namespace Go.Proofs.YtjabeabbaambcaaDoor
open Go.RowKit

/-- The first k bits of a byte, as a number; the byte with the others struck. -/
def hiB (b : Int) (k : Nat) : Int := b / 2 ^ (8 - k)
def cutB (b : Int) (k : Nat) : Int := hiB b k * 2 ^ (8 - k)
/-- How many bits of byte i belong to the first n bits. -/
def keepB (n : Int) (i : Nat) : Nat := (max 0 (min (n - 8 * i) 8)).toNat
def truncL (bs : List Int) (n : Int) : List Int := bs.mapIdx fun i b => cutB b (keepB n i)
def bitA (bs : List Int) (i : Nat) : Int := at_ bs (i / 8) / 2 ^ (7 - i % 8) % 2

theorem keep_le (n : Int) (i : Nat) : keepB n i ≤ 8 := by unfold keepB; omega
theorem keep_lt (n : Int) (i j : Nat) (hj : j < 8) : j < keepB n i ↔ (8 * i + j : Int) < n := by unfold keepB; omega
theorem hi_bits (a b : Int) (ha : 0 ≤ a ∧ a ≤ 255) (hb : 0 ≤ b ∧ b ≤ 255) (k : Nat) (hk : k ≤ 8) : hiB a k = hiB b k ↔ ∀ j, j < k → a / 2 ^ (7 - j) % 2 = b / 2 ^ (7 - j) % 2 := by
  induction k with
  | zero => simp [hiB]; omega
  | succ k ih =>
    have ih := ih (by omega)
    have hs : hiB a (k + 1) = hiB b (k + 1) ↔ hiB a k = hiB b k ∧ a / 2 ^ (7 - k) % 2 = b / 2 ^ (7 - k) % 2 := by
      unfold hiB
      rcases (show k = 0 ∨ k = 1 ∨ k = 2 ∨ k = 3 ∨ k = 4 ∨ k = 5 ∨ k = 6 ∨ k = 7 by omega) with rfl | rfl | rfl | rfl | rfl | rfl | rfl | rfl
      all_goals
        simp only [Nat.reduceSub, Nat.reduceAdd, Int.reducePow]
        omega
    rw [hs, ih]
    constructor
    · rintro ⟨h1, h2⟩ j hj
      rcases Nat.lt_or_ge j k with h | h
      · exact h1 j h
      · obtain rfl : j = k := by omega
        exact h2
    · intro h
      exact ⟨fun j hj => h j (by omega), h k (by omega)⟩
theorem cut_eq (a b : Int) (k : Nat) : cutB a k = cutB b k ↔ hiB a k = hiB b k := by
  unfold cutB
  constructor
  · intro h
    have hp : (2 : Int) ^ (8 - k) ≠ 0 := by
      have : (0 : Int) < 2 ^ (8 - k) := Int.pow_pos (by omega)
      omega
    exact Int.eq_of_mul_eq_mul_right hp h
  · intro h; rw [h]
theorem hi_cut (a : Int) (k : Nat) : hiB (cutB a k) k = hiB a k := by
  unfold cutB
  have hp : (2 : Int) ^ (8 - k) ≠ 0 := by
    have : (0 : Int) < 2 ^ (8 - k) := Int.pow_pos (by omega)
    omega
  show hiB a k * 2 ^ (8 - k) / 2 ^ (8 - k) = hiB a k
  exact Int.mul_ediv_cancel _ hp
/-- A byte is cut already if its further bits are zero. -/
theorem cut_self (b : Int) (hb : 0 ≤ b ∧ b ≤ 255) (k : Nat) (hk : k ≤ 8) : cutB b k = b ↔ ∀ j, k ≤ j → j < 8 → b / 2 ^ (7 - j) % 2 = 0 := by
  have hall : ∀ b : Fin 256, ∀ k : Fin 9, cutB b.val k.val = b.val ↔ ∀ j : Fin 8, k.val ≤ j.val → (b.val : Int) / 2 ^ (7 - j.val) % 2 = 0 := by decide +kernel
  obtain ⟨n, rfl⟩ := Int.eq_ofNat_of_zero_le hb.1
  have := hall ⟨n, by omega⟩ ⟨k, by omega⟩
  rw [this]
  constructor
  · intro h j h1 h2
    exact h ⟨j, h2⟩ h1
  · intro h j h1
    exact h j.val h1 j.isLt
theorem trunc_len (bs : List Int) (n : Int) : (truncL bs n).length = bs.length := by unfold truncL; simp
theorem trunc_at (bs : List Int) (n : Int) (i : Nat) (h : i < bs.length) : at_ (truncL bs n) i = cutB (at_ bs i) (keepB n i) := by
  unfold truncL
  simp [at_, List.getD, h]
theorem at_ext {a b : List Int} (hl : a.length = b.length) (h : ∀ i, i < a.length → at_ a i = at_ b i) : a = b := by
  apply List.ext_getElem hl
  intro i h1 h2
  have := h i h1
  simpa [at_, List.getD, h1, h2] using this
theorem bit_byte (bs : List Int) (i j : Nat) (hj : j < 8) : bitA bs (8 * i + j) = at_ bs i / 2 ^ (7 - j) % 2 := by
  unfold bitA
  rw [show (8 * i + j) / 8 = i by omega, show (8 * i + j) % 8 = j by omega]
/-- A cut address equals a cut prefix if the bits agree. -/
theorem agree_iff (p a : List Int) (n : Nat) (hp : p.length = 16) (ha : a.length = 16) (hpb : ∀ x ∈ p, 0 ≤ x ∧ x ≤ 255) (hab : ∀ x ∈ a, 0 ≤ x ∧ x ≤ 255) (hn : n ≤ 128) (hv : truncL p n = p) :
    truncL a n = p ↔ ∀ i, i < n → bitA p i = bitA a i := by
  have at_mem {l : List Int} {i : Nat} (h : i < l.length) : at_ l i ∈ l := by simp [at_, List.getD, h]
  have hbyte (i : Nat) (hi : i < 16) : cutB (at_ a i) (keepB n i) = at_ p i ↔ ∀ j, j < keepB n i → at_ a i / 2 ^ (7 - j) % 2 = at_ p i / 2 ^ (7 - j) % 2 := by
    have hpi : cutB (at_ p i) (keepB n i) = at_ p i := by
      have := congrArg (fun l => at_ l i) hv
      rw [trunc_at _ _ _ (by omega)] at this
      exact this
    rw [← hi_bits _ _ (hab _ (at_mem (by omega))) (hpb _ (at_mem (by omega))) _ (keep_le _ _), ← cut_eq, hpi]
  constructor
  · intro h i hi
    have hq : i / 8 < 16 := by omega
    have h1 : cutB (at_ a (i / 8)) (keepB n (i / 8)) = at_ p (i / 8) := by rw [← trunc_at _ _ _ (by omega), h]
    have h2 := (hbyte _ hq).1 h1 (i % 8) ((keep_lt _ _ _ (by omega)).2 (by omega))
    unfold bitA
    exact h2.symm
  · intro h
    refine at_ext (by rw [trunc_len, ha, hp]) fun i hi => ?_
    rw [trunc_len, ha] at hi
    rw [trunc_at _ _ _ (by omega), hbyte i hi]
    intro j hj
    have hj8 : j < 8 := by have := keep_le n i; omega
    have h3 := h (8 * i + j) (by have := (keep_lt _ _ _ hj8).1 hj; omega)
    rw [bit_byte _ _ _ hj8, bit_byte _ _ _ hj8] at h3
    exact h3.symm
/-- An address is cut already if its further bits are zero. -/
theorem cut_iff (p : List Int) (n L : Nat) (hp : p.length = 16) (hpb : ∀ x ∈ p, 0 ≤ x ∧ x ≤ 255) (_hn : n ≤ L) (hL : L = 128 ∨ L = 32 ∧ ∀ i, 4 ≤ i → i < 16 → at_ p i = 0) :
    truncL p n = p ↔ ∀ i, n ≤ i → i < L → bitA p i = 0 := by
  have at_mem {l : List Int} {i : Nat} (h : i < l.length) : at_ l i ∈ l := by simp [at_, List.getD, h]
  constructor
  · intro h i h1 h2
    have hq : i / 8 < 16 := by omega
    have h3 : cutB (at_ p (i / 8)) (keepB n (i / 8)) = at_ p (i / 8) := by rw [← trunc_at _ _ _ (by omega), h]
    have h4 := (cut_self _ (hpb _ (at_mem (by omega))) _ (keep_le _ _)).1 h3 (i % 8) (by have := keep_lt n (i / 8) (i % 8) (by omega); omega) (by omega)
    exact h4
  · intro h
    refine at_ext (by rw [trunc_len]) fun i hi => ?_
    rw [trunc_len, hp] at hi
    rw [trunc_at _ _ _ (by omega), cut_self _ (hpb _ (at_mem (by omega))) _ (keep_le _ _)]
    intro j h1 h2
    by_cases hz : 8 * i + j < L
    · have h3 := h (8 * i + j) (by have := keep_lt n i j h2; omega) hz
      rw [bit_byte _ _ _ h2] at h3
      exact h3
    · rcases hL with hL | ⟨hL, h0⟩
      · omega
      · rw [h0 i (by omega) hi]
        simp
/-- 'and' with a mask of leading ones. -/
def maskB (k : Nat) : Int := 256 - 2 ^ (8 - k)
theorem and_mask (b : Int) (hb : 0 ≤ b ∧ b ≤ 255) (k : Nat) (hk : k ≤ 8) : bits .and .u8 b (maskB k) = cutB b k := by
  have hall : ∀ b : Fin 256, ∀ k : Fin 9, bits .and .u8 (b.val : Int) (maskB k.val) = cutB b.val k.val := by decide +kernel
  obtain ⟨n, rfl⟩ := Int.eq_ofNat_of_zero_le hb.1
  exact hall ⟨n, by omega⟩ ⟨k, by omega⟩
end Go.Proofs.YtjabeabbaambcaaDoor
