/- What the functions of package tick, and of its reference, compute: a contract each. -/
import Derived.Test.YtbmbnibamhgfmaaDoorProg
import Derived.Test.YtbmbnibamhgfmaaDoorMA
namespace Go.Proofs.YtbmbnibamhgfmaaDoor
open Go.RowKit

/-- The sum of two ticks, at most the largest tick. -/
def addT (a b : Int) : Int := if a + b ≤ 18446744073709551615 then a + b else 18446744073709551615
def subT (a b : Int) : Int := if b > a then 0 else a - b
def minI (a b : Int) : Int := if b < a then b else a
def minL (l : List Int) : Int := l.foldl minI 18446744073709551615
def winT (now width : Int) : Int := if width = 0 then 0 else now / width

theorem minL_snoc (l : List Int) (x : Int) : minL (l ++ [x]) = minI (minL l) x := by simp [minL, List.foldl_append]
theorem addT_rng (a b : Int) (ha : 0 ≤ a) (hb : 0 ≤ b) : 0 ≤ addT a b ∧ addT a b ≤ 18446744073709551615 := by unfold addT; split <;> omega
theorem winT_rng (a b : Int) (ha : 0 ≤ a) (ha' : a ≤ 18446744073709551615) (hb : 0 ≤ b) : 0 ≤ winT a b ∧ winT a b ≤ 18446744073709551615 := by
  unfold winT
  split
  · omega
  · have h1 := Int.ediv_nonneg ha hb
    have h2 := Int.ediv_le_self b ha
    omega
theorem foldMin_rng (l : List Int) (m : Int) (hm : 0 ≤ m ∧ m ≤ 18446744073709551615) (h : ∀ x ∈ l, 0 ≤ x ∧ x ≤ 18446744073709551615) :
    0 ≤ l.foldl minI m ∧ l.foldl minI m ≤ 18446744073709551615 := by
  induction l generalizing m with
  | nil => exact hm
  | cons x l ih =>
    refine ih _ ?_ (fun y hy => h y (List.mem_cons_of_mem _ hy))
    have := h x (List.mem_cons_self ..)
    unfold minI; split <;> omega
theorem minL_rng (l : List Int) (h : ∀ x ∈ l, 0 ≤ x ∧ x ≤ 18446744073709551615) : 0 ≤ minL l ∧ minL l ≤ 18446744073709551615 :=
  foldMin_rng l _ (by omega) h

end Go.Proofs.YtbmbnibamhgfmaaDoor
