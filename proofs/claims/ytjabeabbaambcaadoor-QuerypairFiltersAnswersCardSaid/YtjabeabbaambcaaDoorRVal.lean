/- ginnelref07.Valid. -/
import Derived.Test.YtjabeabbaambcaaDoorNums
namespace Go.Proofs.YtjabeabbaambcaaDoor
open Go.RowKit

theorem addrC_byte {six : Bool} {bs : List Int} {k : Nat} (h : k < bs.length) : (addrC six bs)[1 + k]? = some (.int .u8 (at_ bs k)) := by
  unfold addrC
  rw [Nat.add_comm, List.getElem?_cons_succ, List.getElem?_map, List.getElem?_eq_getElem h]
  simp [at_, List.getD, h]
theorem validA_of {bs : List Int} (hl : bs.length = 16) (h : ∀ j, 4 ≤ j → j < 16 → at_ bs j = 0) : validA false bs = true := by
  unfold validA
  rw [Bool.false_or, List.all_eq_true]
  intro x hx
  obtain ⟨i, hi, rfl⟩ := List.mem_iff_getElem.1 hx
  rw [List.length_drop] at hi
  have := h (4 + i) (by omega) (by omega)
  rw [List.getElem_drop]
  simpa [at_, List.getD, List.getElem?_eq_getElem (show 4 + i < bs.length by omega)] using this
theorem validA_not {bs : List Int} (hl : bs.length = 16) {j : Nat} (h4 : 4 ≤ j) (h16 : j < 16) (h : at_ bs j ≠ 0) : validA false bs = false := by
  unfold validA
  rw [Bool.false_or, Bool.eq_false_iff]
  intro ha
  have := List.all_eq_true.1 ha (at_ bs j) (by
    rw [List.mem_iff_getElem]
    refine ⟨j - 4, by rw [List.length_drop]; omega, ?_⟩
    rw [List.getElem_drop]
    simp [at_, List.getD, List.getElem?_eq_getElem (show j < bs.length by omega), show 4 + (j - 4) = j by omega])
  simp at this
  exact h this

set_option maxRecDepth 100000 in
theorem refValid (six : Bool) (bs : List Int) (hl : bs.length = 16) (w : World) :
    Calls Tryd.prog 30 #[.agg (addrC six bs).toArray] w fun e w' => e = .returned (.bool (validA six bs)) ∧ Ch [] w w' := by
  have hB : Blk (w.alloc (.cells (addrC six bs).toArray 29)) w.heap.size 29 (addrC six bs) := Blk.new w _ _
  have hC : Ch [] w (w.alloc (.cells (addrC six bs).toArray 29)) := (Ch.refl _ _).alloc _
  have c0 : (w.alloc (.cells (addrC six bs).toArray 29)).cell? ⟨w.heap.size, 0, none⟩ = some (.bool six) := hB.cell 0
  have hby : Hid (∀ k, k < 16 → (w.alloc (.cells (addrC six bs).toArray 29)).cell? ⟨w.heap.size, 1 + k, none⟩ = some (.int .u8 (at_ bs k))) := fun k hk => by rw [hB.cell]; exact addrC_byte (by omega)
  generalize hvs : (addrC six bs).toArray = vs at hB hC c0 hby ⊢
  clear hvs hB
  cases six
  · go_enter Tryd.func30, Tryd.ntmps30
    go_wp2_with fail
    go_loopw [3] (fun i wr => ∃ k : Nat, 4 ≤ k ∧ k ≤ 16 ∧ i = .int .i64 k ∧ Hid (∀ j, 4 ≤ j → j < k → at_ bs j = 0) ∧ wr = w.alloc (.cells vs 29)) (fun i _ => 16 - (intOf i).toNat)
    case atStart => exact ⟨4, by omega, by omega, rfl, fun j h1 h2 => absurd h2 (by omega), rfl⟩
    case round =>
      obtain ⟨k, h4, h16, rfl, hz, rfl⟩ := hrel
      by_cases hlt : k < 16
      · have hc := hby.out k hlt
        by_cases h0 : at_ bs k = 0
        · rw [h0] at hc
          have H0 := hid h0
          clear h0
          go_wp2_with fail
          go_roundw
          case rel =>
            refine ⟨k + 1, by omega, by omega, by go_num, fun j h1 h2 => ?_, by first | trivial | rfl⟩
            rcases Nat.lt_or_ge j k with h3 | h3
            · exact hz.out j h1 h3
            · obtain rfl : j = k := by omega
              exact H0.out
          case measure => simp [intOf]; omega
        · have hd : (at_ bs k != 0) = true := by simpa using h0
          have HV := hid (validA_not hl h4 hlt h0)
          clear h0
          generalize at_ bs k = x at hc hd
          go_wp2_with fail
          go_ret
          exact ⟨ret_bool HV.out.symm, hC⟩
      · obtain rfl : k = 16 := by omega
        go_wp2_with fail
        go_ret
        exact ⟨ret_bool (validA_of hl (fun j h1 h2 => hz.out j h1 h2)).symm, hC⟩
  · go_enter Tryd.func30, Tryd.ntmps30
    go_wp2_with fail
    go_loopw [3] (fun i wr => i = .int .i64 4 ∧ wr = w.alloc (.cells vs 29)) (fun _ _ => 0)
    case atStart => exact ⟨rfl, rfl⟩
    case round =>
      obtain ⟨rfl, rfl⟩ := hrel
      go_wp2_with fail
      go_ret
      exact ⟨rfl, hC⟩
end Go.Proofs.YtjabeabbaambcaaDoor
