/- Lists of transfers as they read in memory. -/
import Derived.Test.YtlgbijakljohlaaProg
import Derived.Test.YtlgbijakljohlaaMem
import Derived.Test.YtlgbijakljohlaaStr
namespace Go.Proofs.Ytlgbijakljohlaa
open Go.RowKit

def trCells (t : Bool × ByteArray × Bool) : List Value := [.bool t.1, .string t.2.1, .bool t.2.2]
def trsCells (ts : List (Bool × ByteArray × Bool)) : List Value := ts.flatMap trCells
theorem trsCells_cons (t : Bool × ByteArray × Bool) (ts : List (Bool × ByteArray × Bool)) : trsCells (t :: ts) = .bool t.1 :: .string t.2.1 :: .bool t.2.2 :: trsCells ts := rfl
theorem trsCells_len (ts : List (Bool × ByteArray × Bool)) : (trsCells ts).length = ts.length * 3 := by
  induction ts with
  | nil => rfl
  | cons t ts ih => rw [trsCells_cons]; simp [ih]; omega
theorem trsCells_append (ts us : List (Bool × ByteArray × Bool)) : trsCells (ts ++ us) = trsCells ts ++ trsCells us := by simp [trsCells]
theorem trsCells_get : ∀ (ts : List (Bool × ByteArray × Bool)) (k : Nat) (t : Bool × ByteArray × Bool), ts[k]? = some t →
    (trsCells ts)[k * 3]? = some (.bool t.1) ∧ (trsCells ts)[k * 3 + 1]? = some (.string t.2.1) ∧ (trsCells ts)[k * 3 + 2]? = some (.bool t.2.2)
  | [], k, t, h => by simp at h
  | u :: ts, 0, t, h => by
    simp only [List.getElem?_cons_zero, Option.some.injEq] at h
    subst h
    exact ⟨rfl, rfl, rfl⟩
  | u :: ts, k + 1, t, h => by
    rw [List.getElem?_cons_succ] at h
    obtain ⟨h1, h2, h3⟩ := trsCells_get ts k t h
    rw [trsCells_cons]
    refine ⟨?_, ?_, ?_⟩
    · rw [show (k + 1) * 3 = (k * 3) + 1 + 1 + 1 by omega]; simpa using h1
    · rw [show (k + 1) * 3 + 1 = (k * 3 + 1) + 1 + 1 + 1 by omega]; simpa using h2
    · rw [show (k + 1) * 3 + 2 = (k * 3 + 2) + 1 + 1 + 1 by omega]; simpa using h3

def RdT (w : World) (B : Nat) (A : Option Addr) (n : Nat) (ts : List (Bool × ByteArray × Bool)) : Prop := Rd w B 3 A n (trsCells ts)
theorem RdT.len {w : World} {B n : Nat} {A : Option Addr} {ts : List (Bool × ByteArray × Bool)} (h : RdT w B A n ts) : ts.length = n := by
  have := h.1
  rw [trsCells_len] at this
  omega
theorem RdT.at_ {w : World} {B n k : Nat} {A : Option Addr} {ts : List (Bool × ByteArray × Bool)} (h : RdT w B A n ts) (hk : k < n) :
    ∃ b off u s e, A = some ⟨b, off, none⟩ ∧ b < B ∧ ts[k]? = some (u, s, e) ∧ w.cell? ⟨b, off + k * 3, none⟩ = some (.bool u) ∧ w.cell? ⟨b, off + k * 3 + 1, none⟩ = some (.string s) ∧ w.cell? ⟨b, off + k * 3 + 2, none⟩ = some (.bool e) := by
  obtain ⟨b, off, rfl, hb, hc⟩ := h.2 (by omega)
  have hl : k < ts.length := by rw [h.len]; exact hk
  obtain ⟨h1, h2, h3⟩ := trsCells_get ts k _ (List.getElem?_eq_getElem hl)
  exact ⟨b, off, ts[k].1, ts[k].2.1, ts[k].2.2, rfl, hb, List.getElem?_eq_getElem hl, hc _ _ h1, hc _ _ h2, hc _ _ h3⟩

theorem tr_info : (Try.prog.info? 45).map (fun i => (i.zero, i.size, i.bytes)) = some (some (Value.agg #[.bool false, .string ⟨#[]⟩, .bool false]), 3, 32) := by kernel_rfl
theorem trs_one (ts : List (Bool × ByteArray × Bool)) : ∀ u ∈ trsCells ts, u.oneCell' = true := by
  induction ts with
  | nil => simp [trsCells]
  | cons t ts ih =>
    rw [trsCells_cons]
    intro u hu
    simp only [List.mem_cons] at hu
    rcases hu with rfl | rfl | rfl | hu
    · rfl
    · rfl
    · rfl
    · exact ih u hu
end Go.Proofs.Ytlgbijakljohlaa
