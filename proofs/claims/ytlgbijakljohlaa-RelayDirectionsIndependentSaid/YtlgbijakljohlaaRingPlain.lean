/- Rings, in plain numbers: an array of c places, a head, the numbers held. -/
import Derived.Test.YtlgbijakljohlaaBase
namespace Go.Proofs.Ytlgbijakljohlaa

structure RingOk (c head : Nat) (arr xs : List Int) : Prop where
  size : arr.length = c
  pos : 1 ≤ c
  max : c ≤ 4096
  hd : head < c
  len : xs.length ≤ c
  held : ∀ i, i < xs.length → at_ arr ((head + i) % c) = at_ xs i

structure RingLen (c : Nat) (xs : List Int) : Prop where
  len : xs.length ≤ c
  pos : 1 ≤ c
  max : c ≤ 4096

theorem at_set_self {l : List Int} {i : Nat} {v : Int} (h : i < l.length) : at_ (l.set i v) i = v := by simp [at_, List.getD, h]
theorem at_set_ne {l : List Int} {i j : Nat} {v : Int} (h : i ≠ j) : at_ (l.set i v) j = at_ l j := by simp [at_, List.getD, List.getElem?_set_ne h]
theorem at_append_lt {l m : List Int} {i : Nat} (h : i < l.length) : at_ (l ++ m) i = at_ l i := by simp [at_, List.getD, List.getElem?_append_left h]
theorem at_append_last {l : List Int} {v : Int} : at_ (l ++ [v]) l.length = v := by simp [at_, List.getD]
theorem at_drop (l : List Int) (m i : Nat) : at_ (l.drop m) i = at_ l (m + i) := by simp [at_, List.getD]

theorem mod_step {c r d : Nat} (hr : r < c) (h0 : 0 < d) (h1 : d < c) : (r + d) % c ≠ r := by
  rcases Nat.lt_or_ge (r + d) c with h2 | h2
  · rw [Nat.mod_eq_of_lt h2]; omega
  · rw [Nat.mod_eq_sub_mod h2, Nat.mod_eq_of_lt (by omega)]; omega
theorem mod_ne {c h i j : Nat} (hi : i < c) (hj : j < c) (hne : i ≠ j) : (h + i) % c ≠ (h + j) % c := by
  intro he
  have hr : (h + i) % c < c := Nat.mod_lt _ (by omega)
  have hs : (h + j) % c < c := Nat.mod_lt _ (by omega)
  rcases Nat.lt_or_ge i j with hlt | hge
  · refine mod_step hr (d := j - i) (by omega) (by omega) ?_
    rw [Nat.mod_add_mod, show h + i + (j - i) = h + j from by omega]
    exact he.symm
  · refine mod_step hs (d := i - j) (by omega) (by omega) ?_
    rw [Nat.mod_add_mod, show h + j + (i - j) = h + i from by omega]
    exact he

theorem RingOk.new (c : Nat) (h0 : 1 ≤ c) (h1 : c ≤ 4096) : RingOk c 0 (List.replicate c 0) [] := ⟨by simp, h0, h1, by omega, by simp, fun i hi => by simp at hi⟩
/-- One more at the end. -/
theorem RingOk.push {c head : Nat} {arr xs : List Int} (h : RingOk c head arr xs) (hr : xs.length < c) (v : Int) : RingOk c head (arr.set ((head + xs.length) % c) v) (xs ++ [v]) := by
  refine ⟨by simpa using h.size, h.pos, h.max, h.hd, by simp; omega, fun i hi => ?_⟩
  have hm : (head + xs.length) % c < arr.length := by rw [h.size]; exact Nat.mod_lt _ h.pos
  simp only [List.length_append, List.length_cons, List.length_nil] at hi
  by_cases he : i = xs.length
  · subst he
    rw [at_set_self hm, at_append_last]
  · rw [at_set_ne (mod_ne hr (by omega) (fun e => he e.symm)), h.held i (by omega), at_append_lt (by omega)]
/-- What lies in front may be overwritten. -/
theorem RingOk.drop {c head : Nat} {arr arr' xs : List Int} (h : RingOk c head arr xs) (m : Nat) (hm : m ≤ xs.length) (hs : arr'.length = c) (he : ∀ i, m ≤ i → i < xs.length → at_ arr' ((head + i) % c) = at_ arr ((head + i) % c)) :
    RingOk c ((head + m) % c) arr' (xs.drop m) := by
  refine ⟨hs, h.pos, h.max, Nat.mod_lt _ h.pos, by simp; have := h.len; omega, fun i hi => ?_⟩
  simp only [List.length_drop] at hi
  rw [at_drop, ← h.held (m + i) (by omega), ← he (m + i) (by omega) (by omega)]
  congr 1
  rw [Nat.mod_add_mod, Nat.add_assoc]
end Go.Proofs.Ytlgbijakljohlaa
