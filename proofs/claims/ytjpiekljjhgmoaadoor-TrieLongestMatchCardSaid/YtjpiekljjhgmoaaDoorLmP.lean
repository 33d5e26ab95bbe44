/- TrieLongestMatch: plain. -/
import Derived.Test.YtjpiekljjhgmoaaDoorTrF
import Derived.Test.YtjpiekljjhgmoaaDoorMC
namespace Go.Proofs.YtjpiekljjhgmoaaDoor
open Go.RowKit

def hitL (sn C : Nat → Bool) (N : Nat) : List Nat := (List.range N).filter fun k => sn k && C k
def upd (sn : Nat → Bool) (n : Nat) : Nat → Bool := fun k => if k = n then true else sn k
def bestL (l : List Nat) : Int := match l.getLast? with | none => -1 | some k => k
theorem hitL_succ (sn C : Nat → Bool) (N : Nat) : hitL sn C (N + 1) = hitL sn C N ++ if sn N && C N then [N] else [] := by
  unfold hitL
  rw [List.range_succ, List.filter_append]
  congr 1
  cases h : (sn N && C N) <;> simp [h]
theorem hitL_off {sn C : Nat → Bool} {n : Nat} (h : C n = false ∨ sn n = true) (N : Nat) : hitL (upd sn n) C N = hitL sn C N := by
  unfold hitL
  refine List.filter_congr fun k _ => ?_
  unfold upd
  by_cases e : k = n
  · subst e
    rcases h with h | h <;> simp [h]
  · rw [if_neg e]
theorem hitL_len {sn C : Nat → Bool} {n : Nat} (hc : C n = true) (hs : sn n = false) : ∀ N, (hitL (upd sn n) C N).length = (hitL sn C N).length + if n < N then 1 else 0
  | 0 => rfl
  | N + 1 => by
    rw [hitL_succ, hitL_succ, List.length_append, List.length_append, hitL_len hc hs N]
    by_cases e : N = n
    · subst e
      simp [upd, hc, hs]
    · have : upd sn n N = sn N := by simp [upd, e]
      rw [this]
      have h1 : (if n < N + 1 then 1 else 0) = (if n < N then 1 else 0) := by
        by_cases h : n < N
        · rw [if_pos h, if_pos (by omega)]
        · rw [if_neg h, if_neg (by omega)]
      rw [h1]
      omega
theorem bestL_append (l : List Nat) (k : Nat) : bestL (l ++ [k]) = k := by simp [bestL]
theorem bestL_lt (sn C : Nat → Bool) : ∀ N, bestL (hitL sn C N) < N
  | 0 => by simp [hitL, bestL]
  | N + 1 => by
    rw [hitL_succ]
    split
    · rw [bestL_append]; omega
    · rw [List.append_nil]
      have := bestL_lt sn C N
      omega
theorem bestL_upd {sn C : Nat → Bool} {n : Nat} (hc : C n = true) : ∀ N, n < N → bestL (hitL (upd sn n) C N) = max (bestL (hitL sn C N)) n
  | 0, h => absurd h (by omega)
  | N + 1, h => by
    rw [hitL_succ, hitL_succ]
    have hl := bestL_lt sn C N
    by_cases e : N = n
    · subst e
      rw [show (upd sn N N && C N) = true by simp [upd, hc], if_pos rfl, bestL_append]
      split
      · rw [bestL_append]; omega
      · rw [List.append_nil]; omega
    · rw [show upd sn n N = sn N by simp [upd, e]]
      split
      · rw [bestL_append, bestL_append]; omega
      · rw [List.append_nil, List.append_nil]
        exact bestL_upd hc N (by omega)
theorem bestL_ge (l : List Nat) : (bestL l ≥ 0) ↔ l ≠ [] := by
  rcases List.eq_nil_or_concat l with h | ⟨l', k, h⟩
  · subst h; simp [bestL]
  · subst h; simp [bestL]
/-- The map along y's path: what was inserted, and contains y. -/
def MapOk (m : KM) (six : Bool) (ys : List Int) (sn C : Nat → Bool) : Prop := ∀ k, k ≤ bitN six → m (keyA six ys k) = if sn k && C k then some (.int .i64 k) else none
theorem MapOk.new (six : Bool) (ys : List Int) (C : Nat → Bool) : MapOk (fun _ => none) six ys (fun _ => false) C := fun k _ => by simp
theorem MapOk.step {m : KM} {six : Bool} {xs ys : List Int} {sn C : Nat → Bool} (h : MapOk m six ys sn C) (hx : GoodA xs) (hy : GoodA ys) (hC : ∀ k, k ≤ bitN six → C k = decide (truncL ys k = truncL xs k)) {n : Nat} (hn : n ≤ bitN six) : MapOk (mset m (keyA six xs n) (.int .i64 n)) six ys (upd sn n) C := fun k hk => by
  have hb : bitN six ≤ 128 := by cases six <;> decide
  unfold mset
  by_cases e : keyA six ys k = keyA six xs n
  · rw [if_pos e]
    have hl := congrArg List.length e
    rw [keyA_len, keyA_len] at hl
    obtain rfl : k = n := by omega
    have := (keyA_iff hy hx (by omega)).1 e
    rw [hC k hk, decide_eq_true this.2]
    simp [upd]
  · rw [if_neg e, h k hk]
    by_cases ek : k = n
    · subst ek
      have hne : ¬ truncL ys k = truncL xs k := fun ht => e ((keyA_iff hy hx (by omega)).2 ⟨rfl, ht⟩)
      rw [hC k hk, decide_eq_false hne]
      simp
    · simp [upd, ek]
theorem MapOk.mk {m : KM} {six : Bool} {ys : List Int} {sn C : Nat → Bool} (h : MapOk m six ys sn C) (hv : validA six ys = true) : mK m six ys = (hitL sn C (bitN six + 1)).map fun k : Nat => (k, Value.int .i64 (k : Int)) := by
  unfold mK hitL
  rw [if_pos hv]
  have : ∀ l : List Nat, (∀ k ∈ l, k ≤ bitN six) → (l.filterMap fun k => (m (keyA six ys k)).map fun x => (k, x)) = (l.filter fun k => sn k && C k).map fun k : Nat => (k, Value.int .i64 (k : Int)) := by
    intro l
    induction l with
    | nil => intro _; rfl
    | cons a l ih =>
      intro hl
      have h1 := h a (hl a (List.mem_cons_self ..))
      have h2 := ih fun k hk => hl k (List.mem_cons_of_mem _ hk)
      rw [List.filterMap_cons, h1, List.filter_cons]
      cases sn a && C a <;> simp [h2]
  exact this _ fun k hk => by have := List.mem_range.1 hk; omega
end Go.Proofs.YtjpiekljjhgmoaaDoor
