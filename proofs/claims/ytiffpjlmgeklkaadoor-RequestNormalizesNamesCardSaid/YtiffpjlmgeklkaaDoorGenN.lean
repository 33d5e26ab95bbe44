/- ginnelgen.Host, Target: the names are valid and in their canonical form. -/
import Derived.Test.YtiffpjlmgeklkaaDoorGenT
import Derived.Test.YtiffpjlmgeklkaaDoorHost3
namespace Go.Proofs.YtiffpjlmgeklkaaDoor
open Go.RowKit

def Nm (s : ByteArray) : Prop := (1 ≤ s.size ∧ s.size ≤ 13) ∧ namOk (numsOf s) = true ∧ canN (numsOf s) = numsOf s ∧ (numsOf s).all (fun x => !decide (65 ≤ x ∧ x ≤ 90)) = true
theorem Nm.can {s : ByteArray} (h : Nm s) : canS s = s := nums_inj' (by rw [nums_canS]; exact h.2.2.1)
theorem genHostN (n : Int) (w : World) : Calls Tryd.prog 23 #[.int .i64 n] w fun e w' => (∃ s : ByteArray, e = .returned (.string s) ∧ Nm s) ∧ w = w' := by
  obtain ⟨h0, h1⟩ := modI_rng n 6 (by omega)
  have M1 := hid (fun w => genMod n 6 w (by omega) (by omega))
  generalize modI n 6 = k at h0 h1 M1
  obtain rfl | rfl | rfl | rfl | rfl | rfl : k = 0 ∨ k = 1 ∨ k = 2 ∨ k = 3 ∨ k = 4 ∨ k = 5 := by omega
  all_goals
    go_enter Tryd.func23, Tryd.ntmps23
    go_wp2_with (go_at_call 22; (with_reducible refine (M1.out _).mono ?_); rintro e w2 ⟨rfl, rfl⟩)
    go_ret
    exact ⟨⟨_, rfl, by unfold Nm; decide +kernel⟩, rfl⟩

set_option maxRecDepth 100000 in
set_option maxHeartbeats 4000000 in
theorem genTargetN (n : Int) (w : World) : Calls Tryd.prog 13 #[.int .i64 n] w fun e w' => (∃ t : Tgt, e = .returned (.agg (tgtC t).toArray) ∧ GoodT t ∧ okT t = true ∧ backT t = t ∧ 1 ≤ t.2.2.2 ∧ (t.1.size = 0 ∨ Nm t.1 ∧ t.2.1 = false ∧ t.2.2.1 = zeros)) ∧ Ch [] w w' := by
  obtain ⟨h0, h1⟩ := modI_rng n 3 (by omega)
  have M1 := hid (fun w => genMod n 3 w (by omega) (by omega))
  generalize modI n 3 = k at h0 h1 M1
  by_cases hk : k = 0
  · subst hk
    go_enter Tryd.func13, Tryd.ntmps13
    go_wp2_with (first
      | (refine wpList_storeB rfl 26 _ _ rfl w.heap.size 26 (tgtC tgt0) (tgtC (⟨#[]⟩, six, [b0, b1, b2, b3, b4, b5, b6, b7, b8, b9, b10, b11, b12, b13, b14, b15], p)) rfl rfl B3 (tgt_inf rfl) rfl rfl ?_; intro w4 B4 C4 Z4; have CE := C3.step C4 (fun i hi => .inr (by simp at hi; omega)))
      | (go_at_call 22; (with_reducible refine (M1.out _).mono ?_); rintro e w2 ⟨rfl, rfl⟩)
      | (go_at_call 30; (with_reducible refine (genAddr _ _).mono ?_); rintro e w3 ⟨⟨six, b0, b1, b2, b3, b4, b5, b6, b7, b8, b9, b10, b11, b12, b13, b14, b15, rfl, hby, hva⟩, C2⟩; have B3 := (Blk.new w 26 (tgtC tgt0)).ch C2 (by simp); have C3 := ((Ch.refl [] w).alloc _).trans C2; have HBY := hid hby; have HVA := hid hva; clear hby hva)
      | (go_at_call 31; (with_reducible refine (genPort _ _).mono ?_); rintro e w2 ⟨⟨p, rfl, hp0, hp1⟩, rfl⟩))
    try simp only [Exit.inBlock, Exit.then]
    refine bodyPost_ret (results_row1 rfl _ _ rfl B4 Tryd.underlying26 rfl (tgt_inf rfl)) rfl ?_
    refine ⟨⟨_, rfl, ⟨rfl, HBY.out⟩, ?_, rfl, hp0, .inl rfl⟩, CE⟩
    simp only [okT, Bool.and_eq_true, decide_eq_true_eq]
    exact ⟨⟨⟨by decide, HVA.out⟩, by omega⟩, by omega⟩
  · have d : (k == 0) = false := by simpa using hk
    clear hk
    go_enter Tryd.func13, Tryd.ntmps13
    go_wp2_with (first
      | (refine wpList_storeB rfl 26 _ _ rfl w.heap.size 26 (tgtC tgt0) (tgtC (s, false, zeros, p)) rfl rfl (Blk.new _ _ _) (tgt_inf rfl) rfl rfl ?_; intro w4 B4 C4 Z4; have CE := ((Ch.refl [] w).alloc _).step C4 (fun i hi => .inr (by simp at hi; omega)))
      | (go_at_call 22; (with_reducible refine (M1.out _).mono ?_); rintro e w2 ⟨rfl, rfl⟩)
      | (go_at_call 23; (with_reducible refine (genHostN _ _).mono ?_); rintro e w2 ⟨⟨s, rfl, hnm⟩, rfl⟩; obtain ⟨hs0, hs1⟩ := hnm.1; have HNM := hid hnm; clear hnm)
      | (go_at_call 31; (with_reducible refine (genPort _ _).mono ?_); rintro e w2 ⟨⟨p, rfl, hp0, hp1⟩, rfl⟩))
    try simp only [Exit.inBlock, Exit.then]
    refine bodyPost_ret (results_row1 rfl _ _ rfl B4 Tryd.underlying26 rfl (tgt_inf rfl)) rfl ?_
    refine ⟨⟨_, rfl, ⟨rfl, good0.2⟩, ?_, ?_, hp0, .inr ⟨HNM.out, rfl, rfl⟩⟩, CE⟩
    · simp only [okT, Bool.and_eq_true, decide_eq_true_eq]
      exact ⟨⟨⟨by omega, rfl⟩, by omega⟩, by omega⟩
    · unfold backT
      rw [if_pos (by show s.size ≠ 0; omega)]
end Go.Proofs.YtiffpjlmgeklkaaDoor
