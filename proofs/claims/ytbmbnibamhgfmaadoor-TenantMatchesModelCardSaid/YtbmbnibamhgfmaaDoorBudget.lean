/- What the methods of budget.Budget, and of its reference model, compute: a contract each. -/
import Derived.Test.YtbmbnibamhgfmaaDoorProg
import Derived.Test.YtbmbnibamhgfmaaDoorMA
import Derived.Test.YtbmbnibamhgfmaaDoorTick
import Derived.Deep.QuietTactic
import Derived.BigQuiet
namespace Go.Proofs.YtbmbnibamhgfmaaDoor
open Go.RowKit

/-- A budget's state: the limit, the width of a window, the window, what is used. -/
structure Bud where
  n : Int
  width : Int
  window : Int
  used : Int
def Bud.cells (s : Bud) : List Value := [.int .i64 s.n, .int .u64 s.width, .int .u64 s.window, .int .i64 s.used]
structure Bud.Ok (s : Bud) : Prop where
  n0 : 0 ≤ s.n
  n1 : s.n ≤ 1000
  w0 : 1 ≤ s.width
  w1 : s.width ≤ 1099511627776
  u0 : 0 ≤ s.used
  u1 : s.used ≤ s.n
  x0 : 0 ≤ s.window
  x1 : s.window ≤ 18446744073709551615
/-- The state as it is at 'now', ahead of a charge. -/
def Bud.at_ (s : Bud) (now : Int) : Bud := if winT now s.width > s.window then { s with window := winT now s.width, used := 0 } else s
def Bud.left (s : Bud) (now : Int) : Int := (s.at_ now).n - (s.at_ now).used
def Bud.grants (s : Bud) (now : Int) : Bool := !((s.at_ now).used == (s.at_ now).n)
def Bud.next (s : Bud) (now : Int) : Bud := if s.grants now then { s.at_ now with used := (s.at_ now).used + 1 } else s.at_ now

theorem Bud.at_ok {s : Bud} (h : s.Ok) (now : Int) (h0 : 0 ≤ now) (h1 : now ≤ 18446744073709551615) : (s.at_ now).Ok := by
  have hw := winT_rng now s.width h0 h1 (by have := h.w0; omega)
  unfold Bud.at_
  split
  · exact ⟨h.n0, h.n1, h.w0, h.w1, by simp, by simpa using h.n0, by simpa using hw.1, by simpa using hw.2⟩
  · exact h
theorem Bud.next_ok {s : Bud} (h : s.Ok) (now : Int) (h0 : 0 ≤ now) (h1 : now ≤ 18446744073709551615) : (s.next now).Ok := by
  have ha := Bud.at_ok h now h0 h1
  unfold Bud.next
  split
  · rename_i hg
    have hne : (s.at_ now).used ≠ (s.at_ now).n := by simpa [Bud.grants] using hg
    have := ha.u0; have := ha.u1
    exact ⟨ha.n0, ha.n1, ha.w0, ha.w1, by simp only; omega, by simp only; omega, ha.x0, ha.x1⟩
  · exact ha

theorem budNew_ok (n width : Int) (w : World) (h0 : 0 ≤ n) (h1 : n ≤ 1000) (h2 : 1 ≤ width) (h3 : width ≤ 1099511627776) :
    Calls Tryd.prog 56 #[.int .i64 n, .int .u64 width] w fun e w' => e = .returned (.tuple #[.pointer (some ⟨w.heap.size, 0, none⟩), .int .i64 0]) ∧
      w.alloc (.cells #[.int .i64 n, .int .u64 width, .int .u64 0, .int .i64 0] 137) = w' := by
  go_enter Tryd.func56, Tryd.ntmps56
  go_wp2
  go_ret2
  exact ⟨rfl, rfl⟩
theorem budNew_bad (n width : Int) (w : World) (h : n < 0 ∨ 1000 < n ∨ width < 1 ∨ 1099511627776 < width) :
    Calls Tryd.prog 56 #[.int .i64 n, .int .u64 width] w fun e w' => e = .returned (.tuple #[.pointer none, .int .i64 1]) ∧ w = w' := by
  by_cases c1 : n < 0
  · go_enter Tryd.func56, Tryd.ntmps56
    go_wp2
    go_ret2
    exact ⟨rfl, rfl⟩
  · by_cases c2 : 1000 < n
    · go_enter Tryd.func56, Tryd.ntmps56
      go_wp2
      go_ret2
      exact ⟨rfl, rfl⟩
    · by_cases c3 : width < 1
      · go_enter Tryd.func56, Tryd.ntmps56
        go_wp2
        go_ret2
        exact ⟨rfl, rfl⟩
      · have c4 : 1099511627776 < width := by omega
        go_enter Tryd.func56, Tryd.ntmps56
        go_wp2
        go_ret2
        exact ⟨rfl, rfl⟩

end Go.Proofs.YtbmbnibamhgfmaaDoor
