/- ring.Ring[byte]: what its methods compute: a contract each. A ring lies in two blocks: the struct's and the array's. -/
import Derived.Test.YtjchkjaopdhhlaaProg
import Derived.Test.YtjchkjaopdhhlaaBase
import Derived.Test.YtjchkjaopdhhlaaMem
import Derived.Test.YtjchkjaopdhhlaaStages
import Derived.Test.YtjchkjaopdhhlaaRingPlain
import Derived.Deep.DeepMust
import Derived.Laws.MakeOwn
import Derived.Deep.OwnRows
namespace Go.Proofs.Ytjchkjaopdhhlaa
open Go.RowKit

/-- The ring at block g, its array at block b, its capacity c: it holds the numbers xs, the oldest first. -/
def ringBAt (w : World) (g b c : Nat) (xs : List Int) : Prop :=
  ∃ (head : Nat) (arr : List Int), Blk w g 75 [.slice (some ⟨b, 0, none⟩) c c, .int .i64 head, .int .i64 xs.length] ∧ Blk w b 5 (arr.map (Value.int .u8)) ∧ RingOk c head arr xs

section
variable {w w' : World} {g b c : Nat} {xs : List Int}
theorem ringBAt.ch {S : List Nat} (h : ringBAt w g b c xs) (hc : Ch S w w') (hg : g ∉ S) (hb : b ∉ S) : ringBAt w' g b c xs := by
  obtain ⟨head, arr, h1, h2, h3⟩ := h
  exact ⟨head, arr, h1.ch hc hg, h2.ch hc hb, h3⟩
theorem ringBAt.heap (h : ringBAt w g b c xs) (e : w'.heap = w.heap) : ringBAt w' g b c xs := by
  obtain ⟨head, arr, h1, h2, h3⟩ := h
  exact ⟨head, arr, h1.heap e, h2.heap e, h3⟩
theorem ringBAt.below {B : Nat} (h : ringBAt w g b c xs) (hb : Below B w w') (h1 : g < B) (h2 : b < B) : ringBAt w' g b c xs := by
  obtain ⟨head, arr, k1, k2, k3⟩ := h
  exact ⟨head, arr, k1.below hb h1, k2.below hb h2, k3⟩
theorem ringBAt.lt (h : ringBAt w g b c xs) : g < w.heap.size ∧ b < w.heap.size ∧ g ≠ b ∧ xs.length ≤ c ∧ 1 ≤ c ∧ c ≤ 4096 := by
  obtain ⟨head, arr, h1, h2, h3⟩ := h
  exact ⟨h1.lt, h2.lt, h1.ne h2 (by decide), h3.len, h3.pos, h3.max⟩
end

theorem ringBAt.new {w : World} {g b c : Nat} {xs : List Int} (h : ringBAt w g b c xs) : RingLen c xs := ⟨h.lt.2.2.2.1, h.lt.2.2.2.2.1, h.lt.2.2.2.2.2⟩

theorem ringB_info : (Try.prog.info? 5).map (fun i => (i.zero, i.size, i.bytes)) = some (some (.int .u8 0), 1, 1) := by kernel_rfl

theorem ringBNew_ok (c : Nat) (w : World) (h0 : 1 ≤ c) (h1 : c ≤ 4096) :
    Calls Try.prog 35 #[.int .i64 c] w fun e w' => e = .returned (.tuple #[.pointer (some ⟨w.heap.size + 1, 0, none⟩), .int .i64 0]) ∧ ringBAt w' (w.heap.size + 1) w.heap.size c [] ∧ Ch [] w w' := by
  have hmk := fun W => run_make_row' (P := Try.prog) 73 5 (.int .u8 0) 1 Try.underlying73 ringB_info rfl .i64 .i64 c (by omega) (by omega) W
  go_enter Try.func35, Try.ntmps35
  go_wp2
  go_ret2
  have hm : madeCells #[Value.int .u8 0] c = ((List.replicate c (0 : Int)).map (Value.int .u8)).toArray := by
    apply Array.ext'
    rw [toList_madeCells_one]
    simp
  refine ⟨rfl, ⟨0, List.replicate c 0, ?_, ?_, RingOk.new c h0 h1⟩, ((Ch.refl _ _).alloc _).alloc _⟩
  · exact Blk.newAt _ _ _ (by simp)
  · rw [hm]
    exact (Blk.new w 5 _).alloc _
theorem ringBNew_bad (n : Int) (w : World) (h : n < 1 ∨ 4096 < n) :
    Calls Try.prog 35 #[.int .i64 n] w fun e w' => e = .returned (.tuple #[.pointer none, .int .i64 1]) ∧ w = w' := by
  by_cases c1 : n < 1
  · go_enter Try.func35, Try.ntmps35
    go_wp2
    go_ret2
    exact ⟨rfl, rfl⟩
  · have c2 : 4096 < n := by omega
    go_enter Try.func35, Try.ntmps35
    go_wp2
    go_ret2
    exact ⟨rfl, rfl⟩

theorem ringBLen (w : World) (g b c : Nat) (xs : List Int) (h : ringBAt w g b c xs) :
    Calls Try.prog 39 #[.pointer (some ⟨g, 0, none⟩)] w fun e w' => e = .returned (.int .i64 xs.length) ∧ w = w' := by
  obtain ⟨head, arr, h1, _, _⟩ := h
  have c2 : w.cell? ⟨g, 2, none⟩ = some (.int .i64 xs.length) := h1.cell 2
  go_enter Try.func39, Try.ntmps39
  go_wp2
  go_ret
  exact ⟨rfl, rfl⟩
theorem ringBCap (w : World) (g b c : Nat) (xs : List Int) (h : ringBAt w g b c xs) :
    Calls Try.prog 37 #[.pointer (some ⟨g, 0, none⟩)] w fun e w' => e = .returned (.int .i64 c) ∧ w = w' := by
  obtain ⟨head, arr, h1, _, _⟩ := h
  have c0 : w.cell? ⟨g, 0, none⟩ = some (.slice (some ⟨b, 0, none⟩) c c) := h1.cell 0
  go_enter Try.func37, Try.ntmps37
  go_wp2
  go_ret
  exact ⟨rfl, rfl⟩
theorem ringBFree (w : World) (g b c : Nat) (xs : List Int) (h : ringBAt w g b c xs) :
    Calls Try.prog 38 #[.pointer (some ⟨g, 0, none⟩)] w fun e w' => e = .returned (.int .i64 ((c - xs.length : Nat) : Int)) ∧ ∃ n, w' = w.drewN n := by
  obtain ⟨head, arr, h1, _, h3⟩ := h
  have c0 : w.cell? ⟨g, 0, none⟩ = some (.slice (some ⟨b, 0, none⟩) c c) := h1.cell 0
  have c2 : w.cell? ⟨g, 2, none⟩ = some (.int .i64 xs.length) := h1.cell 2
  have hm := h3.max
  have hl := h3.len
  go_enter Try.func38, Try.ntmps38
  go_wp2
  go_quiet (fail)
  go_wp2
  go_ret
  exact ⟨ret_int (by omega), _, rfl⟩
end Go.Proofs.Ytjchkjaopdhhlaa
