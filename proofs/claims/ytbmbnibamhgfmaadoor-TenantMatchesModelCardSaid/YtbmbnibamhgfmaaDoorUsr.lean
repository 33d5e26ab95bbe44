/- A set of strings as a map[string]bool that the call makes: how many keys it holds. -/
import Derived.Test.YtbmbnibamhgfmaaDoorMA
import Derived.Maps.Own
import Derived.Maps.OwnSet
import Derived.Maps.Views
namespace Go.Proofs.YtbmbnibamhgfmaaDoor
open Go.RowKit Go.Maps Go.WideShapes

def kS (s : ByteArray) : Lit := .string s.data.toList
theorem kS_inj {a b : ByteArray} (h : kS a = kS b) : a = b := by
  unfold kS at h
  injection h with h
  exact ByteArray.ext (Array.ext' h)
def usersD (l : List ByteArray) : DataW Unit := l.foldl (fun D s => D.put (kS s) (.lit (.bool true))) (.map [])
theorem usersD_snoc (l : List ByteArray) (s : ByteArray) : usersD (l ++ [s]) = (usersD l).put (kS s) (.lit (.bool true)) := by simp [usersD, List.foldl_append]
def OM (w : World) (b n : Nat) (D : DataW Unit) : Prop := w.ownsMap Tryd.prog 9 (plainElem Tryd.prog 4) b n D
theorem OM.ch {w w' : World} {b n : Nat} {D : DataW Unit} {S : List Nat} (h : OM w b n D) (hc : Ch S w w') (hS : b ∉ S) : OM w' b n D := by
  have hlt := World.ownsMap.lt h
  obtain ⟨es, clock, hb, F, hs, hD⟩ := h
  exact ⟨es, clock, (hc.block b hlt hS).trans hb, F, hs, hD⟩
theorem kS_keyed : Keyed Tryd.prog 9 := string_keyed Tryd.underlying9
theorem kS_key {s : ByteArray} (h : s.size ≤ maxLen) : keyOf Tryd.prog 9 (.string s) = some (kS s) := WideMaps.keyOf_string_mk Tryd.underlying9 h
theorem usersD_map : ∀ l : List ByteArray, IsMap (usersD l) := fun l => by
  rcases List.eq_nil_or_concat l with rfl | ⟨l', x, rfl⟩
  · exact isMap_empty
  · rw [List.concat_eq_append, usersD_snoc]
    exact IsMap.put (usersD_map l') _ _
termination_by l => l.length
decreasing_by simp_all
theorem usersD_has : ∀ (l : List ByteArray) (s : ByteArray), has (usersD l) (kS s) = true ↔ s ∈ l := fun l s => by
  rcases List.eq_nil_or_concat l with rfl | ⟨l', x, rfl⟩
  · simp [usersD, has]
  · rw [List.concat_eq_append, usersD_snoc]
    by_cases h : s = x
    · subst h
      rw [has_put_same (usersD_map l') (show WideAt.IsKeyLit (kS s) from trivial)]
      simp
    · rw [has_put_other (fun e => h (kS_inj e)), usersD_has l' s]
      simp [h]
termination_by l => l.length
decreasing_by simp_all
/-- How many keys: as many as names, where no name stands twice. -/
def SetOk (l : List ByteArray) : Prop := Maps.size (usersD l) ≤ l.length ∧ (Maps.size (usersD l) = l.length ↔ l.Nodup)
theorem SetOk.nil : SetOk [] := ⟨Nat.le_refl _, by simp [usersD, Maps.size]⟩
theorem SetOk.snoc {w : World} {b n : Nat} {l : List ByteArray} (h : SetOk l) (hm : OM w b n (usersD l)) (s : ByteArray) : SetOk (l ++ [s]) := by
  have ht := World.ownsMap.tidy hm kS_keyed
  have hsz := size_put (k := kS s) ht (.lit (.bool true))
  unfold SetOk
  rw [usersD_snoc, hsz, List.length_append, List.length_singleton, List.nodup_append]
  obtain ⟨h1, h2⟩ := h
  by_cases hs : s ∈ l
  · rw [(usersD_has l s).2 hs, if_pos rfl]
    exact ⟨by omega, ⟨fun h => by omega, fun h => absurd rfl (h.2.2 s hs s (by simp))⟩⟩
  · have hf : ¬ has (usersD l) (kS s) = true := fun e => hs ((usersD_has l s).1 e)
    rw [if_neg hf]
    refine ⟨by omega, ⟨fun h => ⟨h2.1 (by omega), by simp, fun a ha b hb => ?_⟩, fun h => by rw [h2.2 h.1]⟩⟩
    rw [List.mem_singleton] at hb
    subst hb
    exact fun e => hs (e ▸ ha)
end Go.Proofs.YtbmbnibamhgfmaaDoor
