/- Acquire, Release, Authenticate: the program's and the reference's; the reference's Charge at an element of a slice. -/
import Derived.Test.YtbmbnibamhgfmaaDoorTenM
import Derived.Test.YtbmbnibamhgfmaaDoorTenR
namespace Go.Proofs.YtbmbnibamhgfmaaDoor
open Go.RowKit

theorem flat_set1 {α : Type} {f : α → List Value} {size : Nat} (hf : ∀ x, (f x).length = size) {e e' : α} {j : Nat} {v : Value} (hj : j < size) (he : f e' = (f e).set j v) : ∀ (X : List α) (k : Nat), X[k]? = some e → (X.flatMap f).set (k * size + j) v = (X.set k e').flatMap f
  | [], k, h => by simp at h
  | x :: X, 0, h => by
    obtain rfl : x = e := by simpa using h
    simp only [List.flatMap_cons, Nat.zero_mul, Nat.zero_add, List.set_cons_zero]
    rw [List.set_append_left _ _ (by rw [hf]; exact hj), he]
  | x :: X, k + 1, h => by
    simp only [List.flatMap_cons, List.set_cons_succ]
    rw [List.set_append_right _ _ (by rw [hf, Nat.succ_mul]; omega), hf, ← flat_set1 hf hj he X k (by simpa using h)]
    congr 2
    rw [Nat.succ_mul]; omega
theorem map_set1 {α : Type} {f : α → Value} {e' : α} {v : Value} (he : f e' = v) (X : List α) (k : Nat) : (X.map f).set k v = (X.set k e').map f := by
  rw [← he, List.map_set]
section
variable {w : World} {g n cap bc ac : Nat} {TA BA AA : Option Addr} {X : List En}
theorem RfM.bcell (h : RfM w g n TA cap X BA bc AA ac) {k : Nat} {e : En} (hk : X[k]? = some e) : ∃ p, BA = some ⟨p, 0, none⟩ ∧ (∀ j v, e.bd.cells[j]? = some v → w.cell? ⟨p, k * 4 + j, none⟩ = some v) ∧ (∀ j, j < 4 → w.frozen? ⟨p, k * 4 + j, none⟩ = false) := by
  have hlt := (List.getElem?_eq_some_iff.1 hk).1
  obtain ⟨p, hp, _, _⟩ := h.bud.form (by omega)
  subst hp
  obtain ⟨b, off, e1, _, hc⟩ := h.bud.rd.2 (by omega)
  simp only [Option.some.injEq, Addr.mk.injEq] at e1
  obtain ⟨rfl, rfl, _⟩ := e1
  refine ⟨p, rfl, fun j v hv => ?_, fun j hj => ?_⟩
  · have := hc _ v (flat_get X (f := fun e => e.bd.cells) (size := 4) (fun x _ => rfl) k e hk j v hv)
    rwa [Nat.zero_add] at this
  · have := (h.bud.there (k * 4 + j) (by have : k * 4 + j < X.length * 4 := by omega
                                         exact this)).2
    rwa [Nat.zero_add] at this
theorem RfM.acell (h : RfM w g n TA cap X BA bc AA ac) {k : Nat} {e : En} (hk : X[k]? = some e) : ∃ p, AA = some ⟨p, 0, none⟩ ∧ w.cell? ⟨p, k, none⟩ = some (.int .i64 e.act) ∧ w.frozen? ⟨p, k, none⟩ = false ∧ g < p := by
  have hlt := (List.getElem?_eq_some_iff.1 hk).1
  obtain ⟨p, hp, hgp, _⟩ := h.act.form (by omega)
  subst hp
  obtain ⟨b, off, e1, _, hc⟩ := h.act.rd.2 (by omega)
  simp only [Option.some.injEq, Addr.mk.injEq] at e1
  obtain ⟨rfl, rfl, _⟩ := e1
  refine ⟨p, rfl, ?_, ?_, hgp⟩
  · have := hc k (.int .i64 e.act) (by rw [List.getElem?_map, hk]; rfl)
    rwa [Nat.zero_add] at this
  · have := (h.act.there k (by rw [Nat.mul_one]; exact hlt)).2
    rwa [Nat.zero_add] at this
theorem RfM.bset (h : RfM w g n TA cap X BA bc AA ac) {k p : Nat} {e : En} {bd : Bud} {j : Nat} {v : Value} (hk : X[k]? = some e) (hp : BA = some ⟨p, 0, none⟩) (hj : j < 4) (he : bd.cells = e.bd.cells.set j v) : RfM (w.setCell ⟨p, k * 4 + j, none⟩ v) g n TA cap (X.set k { e with bd := bd }) BA bc AA ac ∧ Ch (blkOf BA) w (w.setCell ⟨p, k * 4 + j, none⟩ v) := by
  subst hp
  have hc : Ch [p] w (w.setCell ⟨p, k * 4 + j, none⟩ v) := (Ch.refl [p] w).setCell (p := ⟨p, k * 4 + j, none⟩) (.inl (by simp)) _
  have hgp : g + 1 ≤ p := (h.bud.blks p (by simp [blkOf])).1
  refine ⟨⟨?_, ?_, ?_, h.ba⟩, hc⟩
  · rw [List.length_set]; exact h.blk.far (p := ⟨p, k * 4 + j, none⟩) (by show g ≠ p; omega) _
  · rw [List.length_set, ← flat_set1 (f := fun e : En => e.bd.cells) (size := 4) (fun _ => rfl) hj he X k hk]
    exact h.bud.set _ v
  · have e1 : (X.set k { e with bd := bd }).map (fun e => Value.int .i64 e.act) = X.map fun e => Value.int .i64 e.act := by
      rw [List.map_set]
      obtain ⟨hlt, he⟩ := List.getElem?_eq_some_iff.1 hk
      have : (X.map (fun e => Value.int .i64 e.act))[k]'(by simpa using hlt) = Value.int .i64 e.act := by simp [he]
      rw [← this, List.set_getElem_self]
    rw [List.length_set, e1]
    exact h.act.ch hc (fun b hb hs => by rw [List.mem_singleton] at hs; subst hs; exact h.ba b (by simp [blkOf]) hb)
theorem RfM.aset (h : RfM w g n TA cap X BA bc AA ac) {k p : Nat} {e : En} {a : Int} (hk : X[k]? = some e) (hp : AA = some ⟨p, 0, none⟩) : RfM (w.setCell ⟨p, k, none⟩ (.int .i64 a)) g n TA cap (X.set k { e with act := a }) BA bc AA ac ∧ Ch (blkOf AA) w (w.setCell ⟨p, k, none⟩ (.int .i64 a)) := by
  subst hp
  have hc : Ch [p] w (w.setCell ⟨p, k, none⟩ (.int .i64 a)) := (Ch.refl [p] w).setCell (p := ⟨p, k, none⟩) (.inl (by simp)) _
  have hgp : g + 1 ≤ p := (h.act.blks p (by simp [blkOf])).1
  refine ⟨⟨?_, ?_, ?_, h.ba⟩, hc⟩
  · rw [List.length_set]; exact h.blk.far (p := ⟨p, k, none⟩) (by show g ≠ p; omega) _
  · have e1 : (X.set k { e with act := a }).flatMap (fun e => e.bd.cells) = X.flatMap fun e => e.bd.cells := by
      rw [List.flatMap_def, List.flatMap_def, List.map_set]
      obtain ⟨hlt, he⟩ := List.getElem?_eq_some_iff.1 hk
      have : (X.map (fun e => e.bd.cells))[k]'(by simpa using hlt) = e.bd.cells := by simp [he]
      rw [← this, List.set_getElem_self]
    rw [List.length_set, e1]
    exact h.bud.ch hc (fun b hb hs => by rw [List.mem_singleton] at hs; subst hs; exact h.ba b hb (by simp [blkOf]))
  · rw [List.length_set, ← map_set1 (f := fun e : En => Value.int .i64 e.act) (v := Value.int .i64 a) rfl X k]
    exact h.act.set _ _
theorem RfM.drewN (h : RfM w g n TA cap X BA bc AA ac) (q : Nat) : RfM (w.drewN q) g n TA cap X BA bc AA ac := ⟨h.blk.drewN q, h.bud.drewN q, h.act.drewN q, h.ba⟩
theorem set_set_eq {α : Type} (X : List α) (k : Nat) (a b : α) : (X.set k a).set k b = X.set k b := List.set_set a
end
end Go.Proofs.YtbmbnibamhgfmaaDoor
