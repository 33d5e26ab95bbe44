/- Package reason and its reference: the smallest listed reason. -/
import Derived.Test.YtidfigehahfpeaaDoorProg
import Derived.Test.YtidfigehahfpeaaDoorStages3
import Derived.Test.YtidfigehahfpeaaDoorMinMax
import Derived.Test.YtidfigehahfpeaaDoorMem
namespace Go.Proofs.YtidfigehahfpeaaDoor
open Go.RowKit

/-! ### The smallest listed reason -/
def primStep (b x : Int) : Int := if 1 ≤ x ∧ x ≤ 7 ∧ (b = 0 ∨ x < b) then x else b
def primFold (l : List Int) : Int := l.foldl primStep 0
def primOf (l : List Int) : Int := if primFold l = 0 then 4 else primFold l
theorem primStep_comm (b x y : Int) : primStep (primStep b x) y = primStep (primStep b y) x := by
  unfold primStep
  repeat (first | omega | split)
theorem primFold_perm {l l' : List Int} (h : l.Perm l') : primFold l = primFold l' := by
  unfold primFold
  exact h.foldl_eq' (fun x _ y _ b => primStep_comm b x y) 0
theorem primFold_rng (l : List Int) : 0 ≤ primFold l ∧ primFold l ≤ 7 := by
  unfold primFold
  have : ∀ (l : List Int) (b : Int), 0 ≤ b ∧ b ≤ 7 → 0 ≤ l.foldl primStep b ∧ l.foldl primStep b ≤ 7 := by
    intro l
    induction l with
    | nil => intro b h; exact h
    | cons x l ih =>
      intro b h
      refine ih _ ?_
      unfold primStep
      split <;> omega
  exact this l 0 (by omega)
theorem primFold_step {l : List Int} {k : Nat} (h : k < l.length) : primFold (l.take (k + 1)) = primStep (primFold (l.take k)) (at_ l k) := by
  unfold primFold
  rw [List.take_succ_eq_append_getElem h, List.foldl_append]
  simp [at_, List.getD, h]

theorem rsnIs (v : Int) (w : World) (r : Bool) (hr : decide (1 ≤ v ∧ v ≤ 7) = r) : Calls Tryd.prog 54 #[.int .i64 v] w fun e w' => e = .returned (.bool r) ∧ w = w' := by
  subst hr
  go_enter Tryd.func54, Tryd.ntmps54
  go_wp2
  all_goals
    go_ret
    refine ⟨ret_bool ?_, rfl⟩
    simp
    omega

theorem rsnPrimary (w : World) (A : Option Addr) (len cap : Nat) (zs : List Int) (B : Nat) (h : RdI .i64 w B A len zs) (hl : len ≤ 9223372036854775807) :
    Calls Tryd.prog 38 #[.slice A len cap] w fun e w' => e = .returned (.int .i64 (primOf zs)) ∧ w = w' := by
  have HZ := hid h.1
  go_enter Tryd.func38, Tryd.ntmps38
  go_wp2_with fail
  go_loopw [3, 8] (fun best i wr => ∃ (k : Nat) (f : Int), k ≤ len ∧ i = .int .i64 k ∧ best = .int .i64 f ∧ Hid (primFold (zs.take k) = f) ∧ w = wr) (fun _ i _ => len - (intOf i).toNat)
  case atStart => exact ⟨0, 0, Nat.zero_le _, rfl, rfl, rfl, rfl⟩
  case round =>
    obtain ⟨k, f, hk, rfl, rfl, hf, rfl⟩ := hrel
    by_cases hlt : k < len
    · obtain ⟨b, off, rfl, _, hc⟩ := h.at_ hlt
      have HS : Hid (primFold (zs.take (k + 1)) = primStep f (at_ zs k)) := by show _ = _; rw [primFold_step (by rw [HZ.out]; exact hlt), hf.out]
      generalize at_ zs k = x at hc HS
      by_cases hv : 1 ≤ x ∧ x ≤ 7
      · obtain ⟨g1, g2⟩ := hv
        rcases (show f = 0 ∨ (f == 0) = false ∧ x < f ∨ (f == 0) = false ∧ ¬ x < f by simp only [beq_eq_false_iff_ne, ne_eq]; omega) with rfl | ⟨h0, h1⟩ | ⟨h0, h1⟩
        all_goals
          go_wp2_with (go_at_call 54; with_reducible refine (rsnIs _ _ true ?_).mono ?_; simp; omega; rintro e w' ⟨rfl, rfl⟩)
          go_roundw
          case rel => exact ⟨k + 1, _, by omega, by go_num, rfl, by show _ = _; rw [HS.out]; unfold primStep; split <;> simp_all <;> omega, by first | trivial | rfl⟩
          case measure => simp [intOf]; omega
      · go_wp2_with (go_at_call 54; with_reducible refine (rsnIs _ _ false ?_).mono ?_; simpa using hv; rintro e w' ⟨rfl, rfl⟩)
        go_roundw
        case rel => exact ⟨k + 1, _, by omega, by go_num, rfl, by show _ = _; rw [HS.out]; unfold primStep; split <;> simp_all <;> omega, by first | trivial | rfl⟩
        case measure => simp [intOf]; omega
    · obtain rfl : k = len := by omega
      have HF : Hid (primFold zs = f) := by show _ = _; rw [← hf.out, List.take_of_length_le (by rw [HZ.out]; omega)]
      go_wp2_with fail
      all_goals
        go_ret
        refine ⟨?_, rfl⟩
        unfold primOf
        rw [HF.out]
        simp_all
set_option maxHeartbeats 1000000 in
theorem refPrimary (w : World) (A : Option Addr) (len cap : Nat) (zs : List Int) (B : Nat) (h : RdI .i64 w B A len zs) (hl : len ≤ 9223372036854775807) :
    Calls Tryd.prog 39 #[.slice A len cap] w fun e w' => e = .returned (.int .i64 (primOf zs)) ∧ w = w' := by
  have HZ := hid h.1
  go_enter Tryd.func39, Tryd.ntmps39
  go_wp2_with fail
  go_loopw [3, 4] (fun best i wr => ∃ (k : Nat) (f : Int), k ≤ len ∧ i = .int .i64 k ∧ best = .int .i64 f ∧ Hid (primFold (zs.take k) = f) ∧ w = wr) (fun _ i _ => len - (intOf i).toNat)
  case atStart => exact ⟨0, 0, Nat.zero_le _, rfl, rfl, rfl, rfl⟩
  case round =>
    obtain ⟨k, f, hk, rfl, rfl, hf, rfl⟩ := hrel
    by_cases hlt : k < len
    · obtain ⟨b, off, rfl, _, hc⟩ := h.at_ hlt
      have HS : Hid (primFold (zs.take (k + 1)) = primStep f (at_ zs k)) := by show _ = _; rw [primFold_step (by rw [HZ.out]; exact hlt), hf.out]
      generalize at_ zs k = x at hc HS
      rcases (show x < 1 ∨ 1 ≤ x ∧ 7 < x ∨ 1 ≤ x ∧ x ≤ 7 ∧ f = 0 ∨ 1 ≤ x ∧ x ≤ 7 ∧ f ≠ 0 ∧ x < f ∨ 1 ≤ x ∧ x ≤ 7 ∧ f ≠ 0 ∧ ¬ x < f by omega) with g1 | ⟨g1, g2⟩ | ⟨g1, g2, rfl⟩ | ⟨g1, g2, h0, h1⟩ | ⟨g1, g2, h0, h1⟩
      all_goals
        go_wp2_with fail
        go_roundw
        case rel => exact ⟨k + 1, _, by omega, by go_num, rfl, by show _ = _; rw [HS.out]; unfold primStep; split <;> simp_all <;> omega, by first | trivial | rfl⟩
        case measure => simp [intOf]; omega
    · obtain rfl : k = len := by omega
      have HF : Hid (primFold zs = f) := by show _ = _; rw [← hf.out, List.take_of_length_le (by rw [HZ.out]; omega)]
      go_wp2_with fail
      all_goals
        go_ret
        refine ⟨?_, rfl⟩
        unfold primOf
        rw [HF.out]
        simp_all
end Go.Proofs.YtidfigehahfpeaaDoor
