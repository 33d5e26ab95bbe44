/- What the methods of budget.Budget, and of its reference model, compute: a contract each. -/
import Derived.Test.YtbmbnibamhgfmaaGreatDoorProg
import Derived.Test.YtbmbnibamhgfmaaGreatDoorMA
import Derived.Test.YtbmbnibamhgfmaaGreatDoorTick
import Derived.Deep.QuietTactic
import Derived.BigQuiet
namespace Go.Proofs.YtbmbnibamhgfmaaGreatDoor
open Go.RowKit

/-- A budget's state: the limit, the width of a window, the window, what is used. -/
structure Bud where
  n : Int
  width : Int
  window : Int
  used : Int
def Bud.cells (s : Bud) : List Value := [.int .i64 s.n, .int .u64 s.width, .int .u64 s.window, .int .i64 s.used]
structure Bud.Ok (s : Bud) : Prop where
  n0 : 0 ≤ s.n
  n1 : s.n ≤ 1000
  w0 : 1 ≤ s.width
  w1 : s.width ≤ 1099511627776
  u0 : 0 ≤ s.used
  u1 : s.used ≤ s.n
  x0 : 0 ≤ s.window
  x1 : s.window ≤ 18446744073709551615
/-- The state as it is at 'now', ahead of a charge. -/
def Bud.at_ (s : Bud) (now : Int) : Bud := if winT now s.width > s.window then { s with window := winT now s.width, used := 0 } else s
def Bud.left (s : Bud) (now : Int) : Int := (s.at_ now).n - (s.at_ now).used
def Bud.grants (s : Bud) (now : Int) : Bool := !((s.at_ now).used == (s.at_ now).n)
def Bud.next (s : Bud) (now : Int) : Bud := if s.grants now then { s.at_ now with used := (s.at_ now).used + 1 } else s.at_ now

theorem Bud.at_ok {s : Bud} (h : s.Ok) (now : Int) (h0 : 0 ≤ now) (h1 : now ≤ 18446744073709551615) : (s.at_ now).Ok := by
  have hw := winT_rng now s.width h0 h1 (by have := h.w0; omega)
  unfold Bud.at_
  split
  · exact ⟨h.n0, h.n1, h.w0, h.w1, by simp, by simpa using h.n0, by simpa using hw.1, by simpa using hw.2⟩
  · exact h
theorem Bud.next_ok {s : Bud} (h : s.Ok) (now : Int) (h0 : 0 ≤ now) (h1 : now ≤ 18446744073709551615) : (s.next now).Ok := by
  have ha := Bud.at_ok h now h0 h1
  unfold Bud.next
  split
  · rename_i hg
    have hne : (s.at_ now).used ≠ (s.at_ now).n := by simpa [Bud.grants] using hg
    have := ha.u0; have := ha.u1
    exact ⟨ha.n0, ha.n1, ha.w0, ha.w1, by simp only; omega, by simp only; omega, ha.x0, ha.x1⟩
  · exact ha

theorem budNew_ok (n width : Int) (w : World) (h0 : 0 ≤ n) (h1 : n ≤ 1000) (h2 : 1 ≤ width) (h3 : width ≤ 1099511627776) :
    Calls Tryz.prog 99 #[.int .i64 n, .int .u64 width] w fun e w' => e = .returned (.tuple #[.pointer (some ⟨w.heap.size, 0, none⟩), .int .i64 0]) ∧
      w.alloc (.cells #[.int .i64 n, .int .u64 width, .int .u64 0, .int .i64 0] 123) = w' := by
  go_enter Tryz.func99, Tryz.ntmps99
  go_wp2
  go_ret2
  exact ⟨rfl, rfl⟩
theorem budNew_bad (n width : Int) (w : World) (h : n < 0 ∨ 1000 < n ∨ width < 1 ∨ 1099511627776 < width) :
    Calls Tryz.prog 99 #[.int .i64 n, .int .u64 width] w fun e w' => e = .returned (.tuple #[.pointer none, .int .i64 1]) ∧ w = w' := by
  by_cases c1 : n < 0
  · go_enter Tryz.func99, Tryz.ntmps99
    go_wp2
    go_ret2
    exact ⟨rfl, rfl⟩
  · by_cases c2 : 1000 < n
    · go_enter Tryz.func99, Tryz.ntmps99
      go_wp2
      go_ret2
      exact ⟨rfl, rfl⟩
    · by_cases c3 : width < 1
      · go_enter Tryz.func99, Tryz.ntmps99
        go_wp2
        go_ret2
        exact ⟨rfl, rfl⟩
      · have c4 : 1099511627776 < width := by omega
        go_enter Tryz.func99, Tryz.ntmps99
        go_wp2
        go_ret2
        exact ⟨rfl, rfl⟩

theorem budUsed (g : Nat) (s : Bud) (w : World) (h : Blk w g 123 s.cells) :
    Calls Tryz.prog 38 #[.pointer (some ⟨g, 0, none⟩)] w fun e w' => e = .returned (.int .i64 s.used) ∧ w = w' := by
  have c3 : w.cell? ⟨g, 3, none⟩ = some (.int .i64 s.used) := h.cell 3
  go_enter Tryz.func38, Tryz.ntmps38
  go_wp2
  go_ret
  exact ⟨rfl, rfl⟩
theorem budCharge (g : Nat) (s : Bud) (now : Int) (w : World) (h : Blk w g 123 s.cells) (hs : s.Ok) (h0 : 0 ≤ now) (h1 : now ≤ 18446744073709551615) :
    Calls Tryz.prog 35 #[.pointer (some ⟨g, 0, none⟩), .int .u64 now] w fun e w' => e = .returned (.bool (s.grants now)) ∧ Blk w' g 123 (s.next now).cells ∧ Ch [g] w w' := by
  have c0 : w.cell? ⟨g, 0, none⟩ = some (.int .i64 s.n) := h.cell 0
  have c1 : w.cell? ⟨g, 1, none⟩ = some (.int .u64 s.width) := h.cell 1
  have c2 : w.cell? ⟨g, 2, none⟩ = some (.int .u64 s.window) := h.cell 2
  have c3 : w.cell? ⟨g, 3, none⟩ = some (.int .i64 s.used) := h.cell 3
  have f2 := h.frozen 2
  have f3 := h.frozen 3
  obtain ⟨n0, n1, w0, w1, u0, u1, x0, x1⟩ := hs
  by_cases hw : s.window < winT now s.width
  · by_cases hn : s.n = 0
    · have hb : ((0 : Int) == s.n) = true := by rw [hn]; rfl
      have hq : s.grants now = false ∧ s.next now = { s with window := winT now s.width, used := 0 } := by
        have : s.grants now = false := by rw [Bud.grants, Bud.at_, if_pos hw]; simp [hb]
        exact ⟨this, by rw [Bud.next, if_neg (by simp [this]), Bud.at_, if_pos hw]⟩
      have HQ := hid hq
      clear hq hn
      go_enter Tryz.func35, Tryz.ntmps35
      go_wp2_with (go_at_call 67; refine (tickWindow _ _ _ (by omega) (by omega) (by omega) (by omega)).mono ?_; rintro e w' ⟨rfl, rfl⟩)
      go_quiet (fail)
      go_wp2
      go_ret
      refine ⟨ret_bool HQ.out.1.symm, ?_, ?_⟩
      · rw [HQ.out.2]; exact ((h.set 2 _).set 3 _).drewN _
      · exact (((Ch.refl _ _).setCell (.inl (by simp)) _).setCell (.inl (by simp)) _).drewN _
    · have hb : ((0 : Int) == s.n) = false := by simp; omega
      have hq : s.grants now = true ∧ s.next now = { s with window := winT now s.width, used := 0 + 1 } := by
        have : s.grants now = true := by rw [Bud.grants, Bud.at_, if_pos hw]; simp [hb]
        exact ⟨this, by rw [Bud.next, if_pos this, Bud.at_, if_pos hw]⟩
      have HQ := hid hq
      clear hq hn
      go_enter Tryz.func35, Tryz.ntmps35
      go_wp2_with (go_at_call 67; refine (tickWindow _ _ _ (by omega) (by omega) (by omega) (by omega)).mono ?_; rintro e w' ⟨rfl, rfl⟩)
      go_quiet (fail)
      go_wp2
      go_ret
      refine ⟨ret_bool HQ.out.1.symm, ?_, ?_⟩
      · rw [HQ.out.2]; exact (((h.set 2 _).set 3 _).drewN _).set 3 _
      · exact ((((Ch.refl _ _).setCell (.inl (by simp)) _).setCell (.inl (by simp)) _).drewN _).setCell (.inl (by simp)) _
  · by_cases hn : s.used = s.n
    · have hb : (s.used == s.n) = true := by rw [hn]; simp
      have hq : s.grants now = false ∧ s.next now = s := by
        have : s.grants now = false := by rw [Bud.grants, Bud.at_, if_neg (by omega)]; simp [hb]
        exact ⟨this, by rw [Bud.next, if_neg (by simp [this]), Bud.at_, if_neg (by omega)]⟩
      have HQ := hid hq
      clear hq hn
      go_enter Tryz.func35, Tryz.ntmps35
      go_wp2_with (go_at_call 67; refine (tickWindow _ _ _ (by omega) (by omega) (by omega) (by omega)).mono ?_; rintro e w' ⟨rfl, rfl⟩)
      go_quiet (fail)
      go_wp2
      go_ret
      refine ⟨ret_bool HQ.out.1.symm, ?_, ?_⟩
      · rw [HQ.out.2]; exact h.drewN _
      · exact (Ch.refl _ _).drewN _
    · have hb : (s.used == s.n) = false := by simpa using hn
      have hq : s.grants now = true ∧ s.next now = { s with used := s.used + 1 } := by
        have : s.grants now = true := by rw [Bud.grants, Bud.at_, if_neg (by omega)]; simp [hb]
        exact ⟨this, by rw [Bud.next, if_pos this, Bud.at_, if_neg (by omega)]⟩
      have HQ := hid hq
      clear hq hn
      go_enter Tryz.func35, Tryz.ntmps35
      go_wp2_with (go_at_call 67; refine (tickWindow _ _ _ (by omega) (by omega) (by omega) (by omega)).mono ?_; rintro e w' ⟨rfl, rfl⟩)
      go_quiet (fail)
      go_wp2
      go_ret
      refine ⟨ret_bool HQ.out.1.symm, ?_, ?_⟩
      · rw [HQ.out.2]; exact (h.drewN _).set 3 _
      · exact ((Ch.refl _ _).drewN _).setCell (.inl (by simp)) _
end Go.Proofs.YtbmbnibamhgfmaaGreatDoor
