/- What the methods of the reference model of a budget compute: a contract each. -/
import Derived.Test.YtbmbnibamhgfmaaGreatDoorBudget
namespace Go.Proofs.YtbmbnibamhgfmaaGreatDoor
open Go.RowKit

def validBud (n width : Int) : Bool := decide (0 ≤ n) && decide (n ≤ 1000) && decide (1 ≤ width) && decide (width ≤ 1099511627776)
theorem rudCharge (g : Nat) (s : Bud) (now : Int) (w : World) (h : Blk w g 74 s.cells) (hs : s.Ok) (h0 : 0 ≤ now) (h1 : now ≤ 18446744073709551615) :
    Calls Tryz.prog 36 #[.pointer (some ⟨g, 0, none⟩), .int .u64 now] w fun e w' => e = .returned (.bool (s.grants now)) ∧ Blk w' g 74 (s.next now).cells ∧ Ch [g] w w' := by
  have c0 : w.cell? ⟨g, 0, none⟩ = some (.int .i64 s.n) := h.cell 0
  have c1 : w.cell? ⟨g, 1, none⟩ = some (.int .u64 s.width) := h.cell 1
  have c2 : w.cell? ⟨g, 2, none⟩ = some (.int .u64 s.window) := h.cell 2
  have c3 : w.cell? ⟨g, 3, none⟩ = some (.int .i64 s.used) := h.cell 3
  have f2 := h.frozen 2
  have f3 := h.frozen 3
  obtain ⟨n0, n1, w0, w1, u0, u1, x0, x1⟩ := hs
  by_cases hw : s.window < winT now s.width
  · by_cases hn : s.n = 0
    · have hb : ((0 : Int) == s.n) = true := by rw [hn]; rfl
      have hi : s.n ≤ 0 := by omega
      have hq : s.grants now = false ∧ s.next now = { s with window := winT now s.width, used := 0 } := by
        have : s.grants now = false := by rw [Bud.grants, Bud.at_, if_pos hw]; simp [hb]
        exact ⟨this, by rw [Bud.next, if_neg (by simp [this]), Bud.at_, if_pos hw]⟩
      have HQ := hid hq
      clear hq hn hb
      go_enter Tryz.func36, Tryz.ntmps36
      go_wp2_with (go_at_call 68; refine (refWindow _ _ _ (by omega) (by omega) (by omega) (by omega)).mono ?_; rintro e w' ⟨rfl, rfl⟩)
      go_quiet (fail)
      go_wp2
      go_ret
      refine ⟨ret_bool HQ.out.1.symm, ?_, ?_⟩
      · rw [HQ.out.2]; exact ((h.set 2 _).set 3 _).drewN _
      · exact (((Ch.refl _ _).setCell (.inl (by simp)) _).setCell (.inl (by simp)) _).drewN _
    · have hb : ((0 : Int) == s.n) = false := by simp; omega
      have hi : 0 < s.n := by omega
      have hq : s.grants now = true ∧ s.next now = { s with window := winT now s.width, used := 0 + 1 } := by
        have : s.grants now = true := by rw [Bud.grants, Bud.at_, if_pos hw]; simp [hb]
        exact ⟨this, by rw [Bud.next, if_pos this, Bud.at_, if_pos hw]⟩
      have HQ := hid hq
      clear hq hn hb
      go_enter Tryz.func36, Tryz.ntmps36
      go_wp2_with (go_at_call 68; refine (refWindow _ _ _ (by omega) (by omega) (by omega) (by omega)).mono ?_; rintro e w' ⟨rfl, rfl⟩)
      go_quiet (fail)
      go_wp2
      go_ret
      refine ⟨ret_bool HQ.out.1.symm, ?_, ?_⟩
      · rw [HQ.out.2]; exact (((h.set 2 _).set 3 _).drewN _).set 3 _
      · exact ((((Ch.refl _ _).setCell (.inl (by simp)) _).setCell (.inl (by simp)) _).drewN _).setCell (.inl (by simp)) _
  · by_cases hn : s.used = s.n
    · have hb : (s.used == s.n) = true := by rw [hn]; simp
      have hi : s.n ≤ s.used := by omega
      have hq : s.grants now = false ∧ s.next now = s := by
        have : s.grants now = false := by rw [Bud.grants, Bud.at_, if_neg (by omega)]; simp [hb]
        exact ⟨this, by rw [Bud.next, if_neg (by simp [this]), Bud.at_, if_neg (by omega)]⟩
      have HQ := hid hq
      clear hq hn hb
      go_enter Tryz.func36, Tryz.ntmps36
      go_wp2_with (go_at_call 68; refine (refWindow _ _ _ (by omega) (by omega) (by omega) (by omega)).mono ?_; rintro e w' ⟨rfl, rfl⟩)
      go_quiet (fail)
      go_wp2
      go_ret
      refine ⟨ret_bool HQ.out.1.symm, ?_, ?_⟩
      · rw [HQ.out.2]; exact h.drewN _
      · exact (Ch.refl _ _).drewN _
    · have hb : (s.used == s.n) = false := by simpa using hn
      have hi : s.used < s.n := by omega
      have hq : s.grants now = true ∧ s.next now = { s with used := s.used + 1 } := by
        have : s.grants now = true := by rw [Bud.grants, Bud.at_, if_neg (by omega)]; simp [hb]
        exact ⟨this, by rw [Bud.next, if_pos this, Bud.at_, if_neg (by omega)]⟩
      have HQ := hid hq
      clear hq hn hb
      go_enter Tryz.func36, Tryz.ntmps36
      go_wp2_with (go_at_call 68; refine (refWindow _ _ _ (by omega) (by omega) (by omega) (by omega)).mono ?_; rintro e w' ⟨rfl, rfl⟩)
      go_quiet (fail)
      go_wp2
      go_ret
      refine ⟨ret_bool HQ.out.1.symm, ?_, ?_⟩
      · rw [HQ.out.2]; exact (h.drewN _).set 3 _
      · exact ((Ch.refl _ _).drewN _).setCell (.inl (by simp)) _
end Go.Proofs.YtbmbnibamhgfmaaGreatDoor
