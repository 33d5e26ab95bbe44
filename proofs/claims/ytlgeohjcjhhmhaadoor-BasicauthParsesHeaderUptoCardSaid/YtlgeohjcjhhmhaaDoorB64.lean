/- Base64: letters, bits, what an encoding is. -/
import Derived.Test.YtlgeohjcjhhmhaaDoorReply4
import Derived.Test.YtlgeohjcjhhmhaaDoorTrim
import Derived.Test.YtlgeohjcjhhmhaaDoorMinMax
namespace Go.Proofs.YtlgeohjcjhhmhaaDoor
open Go.RowKit

def b64L (n : Int) : Int := if n < 26 then 65 + n else if n < 52 then 71 + n else if n < 62 then n - 4 else if n = 62 then 43 else 47
theorem b64L_rng (n : Int) (h0 : 0 ≤ n) (h1 : n < 64) : 43 ≤ b64L n ∧ b64L n ≤ 122 := by unfold b64L; repeat (first | omega | split)
theorem refLetter (n : Int) (h0 : 0 ≤ n) (h1 : n < 64) (w : World) : Calls Tryd.prog 39 #[.int .i64 n] w fun e w' => e = .returned (.int .u8 (b64L n)) ∧ w = w' := by
  have hc (r : Int) (h : r = b64L n) {w' : World} (hw : w = w') : Ending.returned (Value.int .u8 r) = .returned (.int .u8 (b64L n)) ∧ w = w' := ⟨by rw [h], hw⟩
  have HC := hid (@hc)
  clear hc
  rcases (show n < 26 ∨ ¬ n < 26 ∧ n < 52 ∨ ¬ n < 26 ∧ ¬ n < 52 ∧ n < 62 ∨ ¬ n < 26 ∧ ¬ n < 52 ∧ ¬ n < 62 ∧ n = 62 ∨ ¬ n < 26 ∧ ¬ n < 52 ∧ ¬ n < 62 ∧ n = 63 by omega) with a | ⟨a, b⟩ | ⟨a, b, c⟩ | ⟨a, b, c, rfl⟩ | ⟨a, b, c, rfl⟩
  all_goals
    go_enter Tryd.func39, Tryd.ntmps39
    go_wp2
    go_ret
    refine HC.out _ ?_ rfl
    unfold b64L
    repeat (first | omega | rfl | split)

/-- The alphabet's letters, by their number. -/
theorem alph_at : ∀ i : Fin 64, (((⟨#[65, 66, 67, 68, 69, 70, 71, 72, 73, 74, 75, 76, 77, 78, 79, 80, 81, 82, 83, 84, 85, 86, 87, 88, 89, 90, 97, 98, 99, 100, 101, 102, 103, 104, 105, 106, 107, 108, 109, 110, 111, 112, 113, 114, 115, 116, 117, 118, 119, 120, 121, 122, 48, 49, 50, 51, 52, 53, 54, 55, 56, 57, 43, 47]⟩ : ByteArray)[(i : Nat)]'i.isLt).toNat : Int) = b64L (i : Nat) := by decide +kernel

theorem wrap_i64_small (n : Int) (h0 : 0 ≤ n) (h1 : n < 9223372036854775808) : IntKind.i64.wrap n = n := by
  simp [IntKind.wrap, IntKind.bits, IntKind.signed]
  split <;> omega
theorem ofInt_u64 (x : Nat) (h : x < 18446744073709551616) : (BitVec.ofInt 64 (x : Int)).toNat = x := by
  rw [BitVec.ofInt_natCast, BitVec.toNat_ofNat]; exact Nat.mod_eq_of_lt (by omega)
/-- A number above k bits, and one of less than k bits: their bits together are their sum. -/
theorem i64_or (x y k : Nat) (hy : y < 2 ^ k) (h1 : 2 ^ k * x + y < 9223372036854775808) : bits .or .i64 ((2 ^ k * x : Nat) : Int) (y : Int) = ((2 ^ k * x + y : Nat) : Int) := by
  show IntKind.i64.wrap ((BitVec.ofInt 64 ((2 ^ k * x : Nat) : Int) ||| BitVec.ofInt 64 (y : Int)).toNat : Int) = _
  rw [BitVec.toNat_or, ofInt_u64 _ (by omega), ofInt_u64 y (by omega), ← Nat.two_pow_add_eq_or_of_lt hy]
  exact wrap_i64_small _ (by omega) (by omega)
theorem i64_mask (x k m : Nat) (hm : 2 ^ k - 1 = m) (h1 : x < 9223372036854775808) (h2 : m < 9223372036854775808) : bits .and .i64 (x : Int) (m : Int) = ((x % 2 ^ k : Nat) : Int) := by
  have h3 : x % 2 ^ k ≤ x := Nat.mod_le ..
  show IntKind.i64.wrap ((BitVec.ofInt 64 (x : Int) &&& BitVec.ofInt 64 (m : Int)).toNat : Int) = _
  rw [BitVec.toNat_and, ofInt_u64 x (by omega), ofInt_u64 m (by omega), ← hm, Nat.and_two_pow_sub_one_eq_mod]
  exact wrap_i64_small _ (by omega) (by omega)

/-- What Base64 makes of bytes. -/
def enc : List Int → List Int
  | a :: b :: c :: r => b64L (a / 4) :: b64L (a % 4 * 16 + b / 16) :: b64L (b % 16 * 4 + c / 64) :: b64L (c % 64) :: enc r
  | [a, b] => [b64L (a / 4), b64L (a % 4 * 16 + b / 16), b64L (b % 16 * 4), 61]
  | [a] => [b64L (a / 4), b64L (a % 4 * 16), 61, 61]
  | [] => []
theorem enc_len : ∀ l : List Int, (enc l).length = (l.length + 2) / 3 * 4
  | a :: b :: c :: r => by simp only [enc, List.length_cons, enc_len r]; omega
  | [a, b] => by simp [enc]
  | [a] => by simp [enc]
  | [] => by simp [enc]
/-- The first group. -/
theorem enc_group : ∀ xs : List Int, 0 < xs.length → enc xs = [b64L (at_ xs 0 / 4), b64L (at_ xs 0 % 4 * 16 + (if 2 ≤ xs.length then at_ xs 1 else 0) / 16), (if 2 ≤ xs.length then b64L ((if 2 ≤ xs.length then at_ xs 1 else 0) % 16 * 4 + (if 3 ≤ xs.length then at_ xs 2 else 0) / 64) else 61), (if 3 ≤ xs.length then b64L ((if 3 ≤ xs.length then at_ xs 2 else 0) % 64) else 61)] ++ enc (xs.drop 3)
  | [], h => by simp at h
  | [a], _ => by simp [enc, at_]
  | [a, b], _ => by simp [enc, at_]
  | a :: b :: c :: r, _ => by
    have h2 : 2 ≤ (a :: b :: c :: r).length := by simp
    have h3 : 3 ≤ (a :: b :: c :: r).length := by simp
    simp only [if_pos h2, if_pos h3, enc]
    rfl
end Go.Proofs.YtlgeohjcjhhmhaaDoor
