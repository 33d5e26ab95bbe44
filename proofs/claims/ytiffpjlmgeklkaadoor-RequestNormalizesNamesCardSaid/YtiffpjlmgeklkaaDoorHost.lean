/- strings.Split at a dot, strings.Trim at the labels' letters and at the digits; host.validLabel, validName, ParseName. -/
import Derived.Test.YtiffpjlmgeklkaaDoorLowH
import Derived.Test.YtiffpjlmgeklkaaDoorShelfS
namespace Go.Proofs.YtiffpjlmgeklkaaDoor
open Go.RowKit

theorem trimSet (s cs : ByteArray) (p : Int → Bool) (h : ∀ n : Fin 256, cs.data.toList.contains (UInt8.ofNat n.val) = p n.val) (hs : s.size ≤ 1000000) (hc : cs.size < 4294967281) (ha : cs.data.toList.all (fun b => decide (b.toNat < 128)) = true) (w : World) :
    Calls Tryd.prog 38 #[.string s, .string cs] w fun e w' => (∃ t, e = .returned (.string t) ∧ (((numsOf s).all p = true ∧ t = ⟨#[]⟩) ∨ ((numsOf s).all p = false ∧ t.toList.isEmpty = false))) ∧ Ch [] w w' := by
  refine Calls.mono (Any.strings_Trim_laid { laysTrim with } (by kernel_rfl) s cs w (by omega) hc (ascii_of_all ha)) ?_
  rintro e w' ⟨rfl, hb⟩
  exact ⟨⟨_, rfl, trim_all s cs p h⟩, Ch.of_below hb []⟩
theorem trimLab (s : ByteArray) (hs : s.size ≤ 1000000) (w : World) : Calls Tryd.prog 38 #[.string s, .string labC] w fun e w' => (∃ t, e = .returned (.string t) ∧ (((numsOf s).all chrOk = true ∧ t = ⟨#[]⟩) ∨ ((numsOf s).all chrOk = false ∧ t.toList.isEmpty = false))) ∧ Ch [] w w' :=
  trimSet s labC chrOk labC_has hs (by decide) (by decide +kernel) w
theorem trimDig (s : ByteArray) (hs : s.size ≤ 1000000) (w : World) : Calls Tryd.prog 38 #[.string s, .string digC] w fun e w' => (∃ t, e = .returned (.string t) ∧ (((numsOf s).all digOk = true ∧ t = ⟨#[]⟩) ∨ ((numsOf s).all digOk = false ∧ t.toList.isEmpty = false))) ∧ Ch [] w w' :=
  trimSet s digC digOk digC_has hs (by decide) (by decide +kernel) w

theorem genSplitD (s : ByteArray) (hs : s.size ≤ 1000000) (w : World) : Calls Tryd.prog 60 #[.string s, .string dotS, .int .i64 0, .int .i64 (-1)] w fun e w' =>
    e = .returned (.slice (some ⟨w.heap.size, 0, none⟩) (Lib.splitB dotS 0 (Lib.countB s dotS) s).length (Lib.splitB dotS 0 (Lib.countB s dotS) s).length) ∧ w' = w.alloc (.cells ((Lib.splitB dotS 0 (Lib.countB s dotS) s).map Value.string).toArray 9) := by
  have hle := Lib.countB_le dotS (by decide) s.size s (Nat.le_refl _)
  have hlen := Lib.splitB_all dotS (by decide) 0 _ s rfl
  have e1 : Lib.countB s dotS = Lib.countByte s.data.toList 46 := Lib.count_one 46 s.data.toList
  have e2 (x : ByteArray) : Lib.indexB x dotS = Lib.indexByte x.data.toList 46 := Lib.index_one x.data.toList 46
  have c := Any.strings_genSplit_core (P := Tryd.prog) (ρ := laysSplit_ren) { laysSplit with } (by kernel_rfl) s dotS 0 (-1) (Lib.countB s dotS + 1) w (by omega) (by decide) (Nat.zero_le _)
    (fun x cc hx => (Any.strings_Index_one { laysSplit with } x 46 _).mono fun e w' h => by rw [e2]; exact h)
    ((Any.strings_Count_one { laysSplit with } s 46 w).mono fun e w' h => by rw [e1]; exact h)
    (by decide) (by decide) (by rw [if_pos (by decide)]; omega)
  rw [Nat.add_sub_cancel] at c
  have e3 : Lib.cellsOf (Lib.splitB dotS 0 (Lib.countB s dotS) s) (Lib.countB s dotS + 1) = ((Lib.splitB dotS 0 (Lib.countB s dotS) s).map Value.string).toArray := by rw [← hlen]; exact Lib.cellsOf_full _
  rw [e3, hlen] at c
  rw [hlen]
  exact c
theorem hostSplit (s : ByteArray) (hs : s.size ≤ 1000000) (w : World) : Calls Tryd.prog 53 #[.string s, .string dotS] w fun e w' => ∃ ps : List ByteArray,
    e = .returned (.slice (some ⟨w.heap.size, 0, none⟩) ps.length ps.length) ∧ ps.map numsOf = splitD (numsOf s) ∧ Blk w' w.heap.size 9 (ps.map Value.string) ∧ Ch [] w w' := by
  have hsm := split_same _ s rfl
  have hg := genSplitD s hs w
  go_enter Tryd.func53, Tryd.ntmps53
  go_wp2_with (go_at_call 60; go_must (refine hg.mono ?_; rintro e w' ⟨rfl, rfl⟩))
  go_ret
  exact ⟨_, rfl, hsm, Blk.new w 9 _, (Ch.refl _ _).alloc _⟩

theorem trimSuf (s : ByteArray) (hs : s.size ≤ 1000000) (w : World) : Calls Tryd.prog 41 #[.string s, .string dotS] w fun e w' => e = .returned (.string ⟨(Lib.trimSuffix s.data.toList [46]).toArray⟩) ∧ w = w' := by
  refine Calls.mono (Any.strings_TrimSuffix { laysSuffix with } s dotS w (by omega)) ?_
  rintro e w' ⟨rfl, rfl⟩
  exact ⟨rfl, rfl⟩
end Go.Proofs.YtiffpjlmgeklkaaDoor
