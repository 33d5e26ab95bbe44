/- A trie by what it stores: a map from keys to values, and a list of blocks. -/
import Derived.Test.YtjpiekljjhgmoaaDoorTrL
namespace Go.Proofs.YtjpiekljjhgmoaaDoor
open Go.RowKit

abbrev KM := Key → Option Value
structure TrW (tn tt : TypeId) (w : World) (g : Nat) (nd : Tri) (m : KM) (n : Int) (F : List Nat) : Prop where
  t : TrI tn tt w g nd n
  g_in : g ∈ F
  b_in : ∀ κ d, nd κ = some d → d.b ∈ F
  lt : ∀ b ∈ F, b < w.heap.size
  val : ∀ κ, nd.val κ = m κ
def TrF (tn tt : TypeId) (w : World) (g : Nat) (m : KM) (n : Int) (F : List Nat) : Prop := ∃ nd, TrW tn tt w g nd m n F
section
variable {tn tt : TypeId} {w w' : World} {g : Nat} {nd : Tri} {m : KM} {n : Int} {F : List Nat}
theorem TrF.ch {S : List Nat} (h : TrF tn tt w g m n F) (hc : Ch S w w') (hS : ∀ b ∈ F, b ∉ S) : TrF tn tt w' g m n F := by
  obtain ⟨nd, h⟩ := h
  exact ⟨nd, h.t.ch hc (hS _ h.g_in) (fun κ d hd => hS _ (h.b_in κ d hd)), h.g_in, h.b_in, fun b hb => Nat.lt_of_lt_of_le (h.lt b hb) hc.size, h.val⟩
theorem TrF.nil (h : TrF tn tt w g m n F) (hc : Ch [] w w') : TrF tn tt w' g m n F := h.ch hc (by simp)
theorem TrF.lt (h : TrF tn tt w g m n F) : ∀ b ∈ F, b < w.heap.size := by
  obtain ⟨nd, h⟩ := h
  exact h.lt
theorem TrF.drewN (h : TrF tn tt w g m n F) (k : Nat) : TrF tn tt (w.drewN k) g m n F := h.nil ((Ch.refl [] w).drewN k)
def newB (w w' : World) : List Nat := (List.range (w'.heap.size - w.heap.size)).map (· + w.heap.size)
theorem newB_mem {b : Nat} (h1 : w.heap.size ≤ b) (h2 : b < w'.heap.size) : b ∈ newB w w' := by
  unfold newB
  rw [List.mem_map]
  exact ⟨b - w.heap.size, by rw [List.mem_range]; omega, by omega⟩
theorem newB_ge {b : Nat} (h : b ∈ newB w w') : w.heap.size ≤ b ∧ b < w'.heap.size := by
  unfold newB at h
  rw [List.mem_map] at h
  obtain ⟨k, hk, rfl⟩ := h
  rw [List.mem_range] at hk
  omega
/-- Behind a change of the trie's own blocks. -/
theorem TrF.mk' {nd' : Tri} {m' : KM} {n' : Int} (h : TrF tn tt w g m n F) (t : TrI tn tt w' g nd' n') (hv : ∀ κ, nd'.val κ = m' κ) (hc : Ch F w w') (hb : ∀ κ d, nd' κ = some d → d.b ∈ F ∨ w.heap.size ≤ d.b) : TrF tn tt w' g m' n' (F ++ newB w w') := by
  obtain ⟨nd, h⟩ := h
  refine ⟨nd', t, List.mem_append_left _ h.g_in, fun κ d hd => ?_, fun b hb' => ?_, hv⟩
  · rcases hb κ d hd with h1 | h1
    · exact List.mem_append_left _ h1
    · exact List.mem_append_right _ (newB_mem h1 (t.node κ d hd).lt)
  · rcases List.mem_append.1 hb' with h1 | h1
    · exact Nat.lt_of_lt_of_le (h.lt b h1) hc.size
    · exact (newB_ge h1).2
def mset (m : KM) (κ : Key) (v : Value) : KM := fun κ' => if κ' = κ then some v else m κ'
/-- What is stored along the path of an address: the lengths and the values. -/
def mK (m : KM) (six : Bool) (bs : List Int) : List (Nat × Value) := if validA six bs then (List.range (bitN six + 1)).filterMap fun k => (m (keyA six bs k)).map fun x => (k, x) else []
def kPfx (six : Bool) (bs : List Int) (e : Nat × Value) : Pfx := (six, truncL bs e.1, (e.1 : Int))
theorem filterMap_map_congr {α β γ δ : Type} {l : List α} {f : α → Option β} {f' : α → Option γ} {h : β → δ} {h' : γ → δ} (e : ∀ a ∈ l, (f a).map h = (f' a).map h') : (l.filterMap f).map h = (l.filterMap f').map h' := by
  induction l with
  | nil => rfl
  | cons a l ih =>
    have h1 := e a (List.mem_cons_self ..)
    have h2 := ih fun b hb => e b (List.mem_cons_of_mem _ hb)
    cases ha : f a <;> cases hb : f' a <;> rw [ha, hb] at h1 <;> simp_all
theorem TrW.path (h : TrW tn tt w g nd m n F) {six : Bool} {bs : List Int} (hg : GoodA bs) : (mchL nd six bs).map (fun d => (d.q, d.x)) = (mK m six bs).map fun e => (kPfx six bs e, e.2) := by
  unfold mchL mK
  cases hv : validA six bs
  · rfl
  · simp only [if_true]
    unfold pathL
    refine filterMap_map_congr fun k hk => ?_
    have hk' : k ≤ bitN six := by have := List.mem_range.1 hk; omega
    have hkL : (k : Int) ≤ bitL six := by rw [bitN_eq]; omega
    rw [← h.val]
    cases hn : nd (keyA six bs k) with
    | none => simp [ndOn, Tri.val, hn]
    | some d =>
      obtain ⟨hok, hkey⟩ := h.t.good _ _ hn
      have hq : d.q = (six, truncL bs k, (k : Int)) := keyP_inj hok (okP_of hg hv hkL) (by rw [hkey, keyP_of hg hkL])
      obtain ⟨b, q, pr, x⟩ := d
      cases pr
      · simp [ndOn, Tri.val, hn]
      · simp only at hq
        simp [ndOn, Tri.val, hn, kPfx, hq]
theorem TrW.len (h : TrW tn tt w g nd m n F) {six : Bool} {bs : List Int} (hg : GoodA bs) : (mchL nd six bs).length = (mK m six bs).length := by
  have := congrArg List.length (h.path (six := six) hg)
  simpa using this
theorem TrW.flat (h : TrW tn tt w g nd m n F) {six : Bool} {bs : List Int} (hg : GoodA bs) : ((mchL nd six bs).flatMap fun d => pfxC d.q) = (mK m six bs).flatMap fun e => pfxC (kPfx six bs e) := by
  have := congrArg (fun l => l.flatMap fun z : Pfx × Value => pfxC z.1) (h.path (six := six) hg)
  simpa [List.flatMap_map] using this
theorem TrW.none (h : TrW tn tt w g nd m n F) {six : Bool} {bs : List Int} (hg : GoodA bs) (hm : mK m six bs = []) : mchL nd six bs = [] := by
  have := h.len (six := six) hg
  rw [hm] at this
  exact List.eq_nil_of_length_eq_zero this
theorem TrW.last (h : TrW tn tt w g nd m n F) {six : Bool} {bs : List Int} (hg : GoodA bs) {l : List (Nat × Value)} {e : Nat × Value} (hm : mK m six bs = l ++ [e]) : ∃ l' d, mchL nd six bs = l' ++ [d] ∧ d.q = kPfx six bs e ∧ d.x = e.2 := by
  have hp := h.path (six := six) hg
  rw [hm, List.map_append] at hp
  rcases List.eq_nil_or_concat (mchL nd six bs) with h0 | ⟨l', d, h0⟩
  · rw [h0] at hp
    have := congrArg List.length hp
    simp at this
  · rw [h0] at hp
    simp only [List.concat_eq_append, List.map_append, List.map_cons, List.map_nil] at hp
    have := List.append_inj' hp rfl
    refine ⟨l', d, by rw [h0, List.concat_eq_append], ?_, ?_⟩
    · exact (Prod.mk.inj (List.cons.inj this.2).1).1
    · exact (Prod.mk.inj (List.cons.inj this.2).1).2
end
end Go.Proofs.YtjpiekljjhgmoaaDoor
