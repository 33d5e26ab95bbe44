/- Words and small lemmas on memory and numbers, over no program: what a slice of integers reads as, blocks that are known whole, worlds that differ in new blocks alone. -/
import Derived.WalkKit
import Derived.ProofKit
import Derived.Handy
import Derived.Below
import Derived.WalkLawsBesides
import Derived.Deep.DeepMust
namespace Go.Proofs.YtjabeabbaambcaaDoor
open Go.RowKit

theorem hid {p : Prop} (h : p) : Hid p := h

/-- The i-th number of a list, 0 behind its end. -/
def at_ (zs : List Int) (i : Nat) : Int := zs.getD i 0

theorem at_take_succ (zs : List Int) (k : Nat) (h : k < zs.length) : zs.take (k + 1) = zs.take k ++ [at_ zs k] := by
  rw [List.take_succ_eq_append_getElem h]; simp [at_, List.getD, h]
theorem at_mem (zs : List Int) (k : Nat) (h : k < zs.length) : at_ zs k ∈ zs := by
  simp [at_, List.getD, h]

/-- A slice of integers that lies below block B: its elements. -/
def RdI (k : IntKind) (w : World) (B : Nat) (A : Option Addr) (len : Nat) (zs : List Int) : Prop :=
  zs.length = len ∧ (0 < len → ∃ b off, A = some ⟨b, off, none⟩ ∧ b < B ∧ ∀ i, i < len → w.cell? ⟨b, off + i, none⟩ = some (.int k (at_ zs i)))

theorem RdI.nil (k : IntKind) (w : World) (B : Nat) (A : Option Addr) : RdI k w B A 0 [] := ⟨rfl, fun h => absurd h (by omega)⟩
theorem RdI.below {k : IntKind} {w w' : World} {B len : Nat} {A : Option Addr} {zs : List Int} (h : RdI k w B A len zs) (hb : Below B w w') : RdI k w' B A len zs :=
  ⟨h.1, fun hp => by
    obtain ⟨b, off, e, hB, hc⟩ := h.2 hp
    exact ⟨b, off, e, hB, fun i hi => (hb.cell hB).trans (hc i hi)⟩⟩
theorem RdI.more {k : IntKind} {w : World} {B B' len : Nat} {A : Option Addr} {zs : List Int} (h : RdI k w B A len zs) (hb : B ≤ B') : RdI k w B' A len zs :=
  ⟨h.1, fun hp => by
    obtain ⟨b, off, e, hB, hc⟩ := h.2 hp
    exact ⟨b, off, e, by omega, hc⟩⟩
/-- A block just made reads as what it was made of. -/
theorem RdI.new (k : IntKind) (w : World) (zs : List Int) (n : Nat) (hn : zs.length = n) (t : TypeId) :
    RdI k (w.alloc (.cells (zs.map (Value.int k)).toArray t)) (w.heap.size + 1) (some ⟨w.heap.size, 0, none⟩) n zs :=
  ⟨hn, fun _ => ⟨_, _, rfl, by omega, fun i hi => by
    rw [Nat.zero_add, World.cell?_alloc_new]
    simp [at_, List.getD, hn ▸ hi]⟩⟩

theorem Below.cells {B : Nat} {w w' : World} (h : Below B w w') : (∀ b o, b < B → w'.cell? ⟨b, o, none⟩ = w.cell? ⟨b, o, none⟩) ∧ (∀ b o, b < B → w'.frozen? ⟨b, o, none⟩ = w.frozen? ⟨b, o, none⟩) :=
  ⟨fun b o hb => h.cell (p := ⟨b, o, none⟩) hb, fun b o hb => h.frozen (p := ⟨b, o, none⟩) hb⟩

theorem ret_int {k : IntKind} {a b : Int} (h : a = b) : Ending.returned (.int k a) = .returned (.int k b) := by rw [h]
theorem ret_bool {a b : Bool} (h : a = b) : Ending.returned (.bool a) = .returned (.bool b) := by rw [h]
end Go.Proofs.YtjabeabbaambcaaDoor
