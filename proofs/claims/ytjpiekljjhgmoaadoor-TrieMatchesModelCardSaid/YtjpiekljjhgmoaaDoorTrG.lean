/- What is stored under exactly one prefix; a map without one key: plain. -/
import Derived.Test.YtjpiekljjhgmoaaDoorTrO
namespace Go.Proofs.YtjpiekljjhgmoaaDoor
open Go.RowKit

def mget (m : KM) (p : Pfx) : Option Value := if validP p then m (keyP p) else none
def mdel (m : KM) (κ : Key) : KM := fun κ' => if κ' = κ then none else m κ'
theorem TrF.glt {tn tt : TypeId} {w : World} {g : Nat} {m : KM} {n : Int} {F : List Nat} (h : TrF tn tt w g m n F) : g < w.heap.size := by
  obtain ⟨nd, W⟩ := h
  exact W.t.root.lt
/-- What Lookup gives. -/
def lookP (six : Bool) (bs : List Int) (l : List (Nat × Value)) : Pfx := match l.getLast? with | none => (false, zeros, 0) | some e => kPfx six bs e
def lookV (z : Value) (l : List (Nat × Value)) : Value := match l.getLast? with | none => z | some e => e.2
theorem mget_ok {m : KM} {p : Pfx} (h : OkP p) : mget m p = m (keyP p) := by unfold mget; rw [h.v, if_pos rfl]
theorem mget_bad {m : KM} {p : Pfx} (h : validP p = false) : mget m p = none := by unfold mget; rw [h]; rfl
theorem Ents.get {m : KM} {x : List (Pfx × Value)} (h : Ents m x) {e : Pfx × Value} (he : e ∈ x) : mget m e.1 = some e.2 := by
  rw [mget_ok (h.ok e he)]; exact h.mem e he
theorem Ents.get_none {m : KM} {x : List (Pfx × Value)} (h : Ents m x) {p : Pfx} (hg : GoodA p.2.1) : mget m p = none ↔ ∀ e ∈ x, e.1 ≠ p := by
  cases hv : validP p with
  | false =>
    rw [mget_bad hv]
    refine ⟨fun _ e he h2 => ?_, fun _ => rfl⟩
    have := (h.ok e he).v
    rw [h2, hv] at this
    cases this
  | true => rw [mget_ok ⟨hg, hv⟩]; exact h.look ⟨hg, hv⟩
/-- One entry is taken out. -/
theorem Ents.del {m : KM} {x y : List (Pfx × Value)} {e : Pfx × Value} (h : Ents m (x ++ e :: y)) : Ents (mdel m (keyP e.1)) (x ++ y) := by
  have ho := h.ord
  rw [List.pairwise_append, List.pairwise_cons] at ho
  have hmem : ∀ e', e' ∈ x ++ y → e' ∈ x ++ e :: y := fun e' he => by
    rcases List.mem_append.1 he with h | h
    · exact List.mem_append_left _ h
    · exact List.mem_append_right _ (List.mem_cons_of_mem _ h)
  have hirr : ∀ p q : Pfx, cmpP p q = -1 → p ≠ q := fun p q h1 h2 => by
    subst h2
    have := cmpP_anti p p
    omega
  have hne : ∀ e', e' ∈ x ++ y → e'.1 ≠ e.1 := fun e' he => by
    rcases List.mem_append.1 he with h | h
    · exact hirr _ _ (ho.2.2 e' h e (List.mem_cons_self ..))
    · exact (hirr _ _ (ho.2.1.1 e' h)).symm
  refine ⟨?_, fun e' he => h.ok e' (hmem e' he), fun e' he => ?_, fun κ v hv => ?_⟩
  · rw [List.pairwise_append]
    exact ⟨ho.1, ho.2.1.2, fun a ha b hb => ho.2.2 a ha b (List.mem_cons_of_mem _ hb)⟩
  · have hk : keyP e'.1 ≠ keyP e.1 := fun hk => hne e' he (keyP_inj (h.ok e' (hmem e' he)) (h.ok e (by simp)) hk)
    simp [mdel, hk, h.mem e' (hmem e' he)]
  · by_cases hk : κ = keyP e.1
    · simp [mdel, hk] at hv
    · simp only [mdel, if_neg hk] at hv
      obtain ⟨e', he, hk'⟩ := h.all κ v hv
      refine ⟨e', ?_, hk'⟩
      rcases List.mem_append.1 he with h2 | h2
      · exact List.mem_append_left _ h2
      · rcases List.mem_cons.1 h2 with h3 | h3
        · subst h3; exact absurd hk'.symm hk
        · exact List.mem_append_right _ h3
/-- A map that holds the two families' whole prefixes alone. -/
theorem mK_root {m : KM} (h : ∀ κ, κ.length ≠ 1 → m κ = none) (six : Bool) (bs : List Int) : mK m six bs = if validA six bs then ((m [six]).map fun v => (0, v)).toList else [] := by
  unfold mK
  congr 1
  rw [List.range_succ_eq_map, List.filterMap_cons]
  have h0 : (List.map Nat.succ (List.range (bitN six))).filterMap (fun k => (m (keyA six bs k)).map fun x => (k, x)) = [] := by
    rw [List.filterMap_eq_nil_iff]
    intro k hk
    obtain ⟨j, _, rfl⟩ := List.mem_map.1 hk
    rw [h _ (by rw [keyA_len]; omega)]
    rfl
  rw [h0]
  have hk : keyA six bs 0 = [six] := rfl
  rw [hk]
  cases m [six] <;> rfl
end Go.Proofs.YtjpiekljjhgmoaaDoor
