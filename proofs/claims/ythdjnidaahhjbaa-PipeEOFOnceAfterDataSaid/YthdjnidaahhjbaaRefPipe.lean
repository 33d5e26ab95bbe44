/- What the methods of the reference's pipe (ginnelref30) compute: a contract each. -/
import Derived.Test.YthdjnidaahhjbaaStr
import Derived.Test.YthdjnidaahhjbaaTick
import Derived.Test.YthdjnidaahhjbaaStages2
import Derived.Test.YthdjnidaahhjbaaMinMax
namespace Go.Proofs.Ythdjnidaahhjbaa
open Go.RowKit

/-- The reference's pipe in block p: capacity c, the buffered string D, its credit, whether closed, drained. -/
structure refAt (w : World) (p c : Nat) (D : ByteArray) (cr : Int) (cl dr : Bool) : Prop where
  blk : Blk w p 47 [.int .i64 c, .string D, .int .u64 cr, .bool cl, .bool dr]
  len : D.size ≤ c
  max : c ≤ 4096
  lo : 0 ≤ cr
  hi : cr ≤ 18446744073709551615

section
variable {w w' : World} {p c : Nat} {D : ByteArray} {cr : Int} {cl dr : Bool}
theorem refAt.ch {S : List Nat} (h : refAt w p c D cr cl dr) (hc : Ch S w w') (hp : p ∉ S) : refAt w' p c D cr cl dr := ⟨h.blk.ch hc hp, h.len, h.max, h.lo, h.hi⟩
theorem refAt.heap (h : refAt w p c D cr cl dr) (e : w'.heap = w.heap) : refAt w' p c D cr cl dr := ⟨h.blk.heap e, h.len, h.max, h.lo, h.hi⟩
theorem refAt.below {B : Nat} (h : refAt w p c D cr cl dr) (hb : Below B w w') (h0 : p < B) : refAt w' p c D cr cl dr := ⟨h.blk.below hb h0, h.len, h.max, h.lo, h.hi⟩
end

section
variable (w : World) (p c : Nat) (D : ByteArray) (cr : Int) (cl dr : Bool) (h : refAt w p c D cr cl dr)
include h
theorem refCloseWrite : Calls Try.prog 27 #[.pointer (some ⟨p, 0, none⟩)] w fun e w' => e = .returned (.bool (!cl)) ∧ refAt w' p c D cr true dr ∧ Ch [p] w w' := by
  have c3 : w.cell? ⟨p, 3, none⟩ = some (.bool cl) := h.blk.cell 3
  have f3 := h.blk.frozen 3
  cases cl
  · go_enter Try.func27, Try.ntmps27
    go_wp2
    go_ret
    exact ⟨rfl, ⟨h.blk.set 3 _, h.len, h.max, h.lo, h.hi⟩, (Ch.refl _ _).setCell (.inl (by simp)) _⟩
  · go_enter Try.func27, Try.ntmps27
    go_wp2
    go_ret
    exact ⟨rfl, h, Ch.refl _ _⟩
theorem refAddCredit (n : Int) (h0 : 0 ≤ n) (h1 : n ≤ 18446744073709551615) : Calls Try.prog 23 #[.pointer (some ⟨p, 0, none⟩), .int .u64 n] w fun e w' => e = .returned (.tuple #[]) ∧ refAt w' p c D (addT cr n) cl dr ∧ Ch [p] w w' := by
  have c2 : w.cell? ⟨p, 2, none⟩ = some (.int .u64 cr) := h.blk.cell 2
  have f2 := h.blk.frozen 2
  have hlo := h.lo
  have hhi := h.hi
  have ha : 0 ≤ addT cr n ∧ addT cr n ≤ 18446744073709551615 := by unfold addT; split <;> omega
  go_enter Try.func23, Try.ntmps23
  go_wp2_with (go_at_call 44; with_reducible refine (refAdd _ _ _ ?_ ?_ ?_ ?_).mono ?_; omega; omega; omega; omega; rintro e w' ⟨rfl, rfl⟩)
  go_end0
  exact ⟨rfl, ⟨h.blk.set 2 _, h.len, h.max, ha.1, ha.2⟩, (Ch.refl _ _).setCell (.inl (by simp)) _⟩
theorem refWrite_shut (s : ByteArray) (hcl : cl = true) : Calls Try.prog 22 #[.pointer (some ⟨p, 0, none⟩), .string s] w fun e w' => e = .returned (.int .i64 0) ∧ w = w' := by
  subst hcl
  have c3 : w.cell? ⟨p, 3, none⟩ = some (.bool true) := h.blk.cell 3
  go_enter Try.func22, Try.ntmps22
  go_wp2
  go_ret
  exact ⟨rfl, rfl⟩
theorem refWriteM (s : ByteArray) (hs : s.size ≤ 140737488351232) (hcl : cl = false) (n : Nat) (hn : (c - D.size < s.size ∧ n = c - D.size) ∨ (s.size ≤ c - D.size ∧ n = s.size)) :
    Calls Try.prog 22 #[.pointer (some ⟨p, 0, none⟩), .string s] w fun e w' => e = .returned (.int .i64 n) ∧ refAt w' p c (D ++ s.extract 0 n) cr false dr ∧ Ch [p] w w' := by
  subst hcl
  have c0 : w.cell? ⟨p, 0, none⟩ = some (.int .i64 c) := h.blk.cell 0
  have c1 : w.cell? ⟨p, 1, none⟩ = some (.string D) := h.blk.cell 1
  have c3 : w.cell? ⟨p, 3, none⟩ = some (.bool false) := h.blk.cell 3
  have f1 := h.blk.frozen 1
  have hln := h.len
  have hmx := h.max
  have HSZ : Hid ((D ++ s.extract 0 n).size ≤ c) := by show _ ≤ _; rw [ByteArray.size_append, ByteArray.size_extract]; omega
  have hmin : min (s.size : Int) ((c : Int) - D.size) = n := by omega
  have HMIN := hid hmin
  have q1 : n ≤ s.size := by omega
  clear hn hmin
  go_enter Try.func22, Try.ntmps22
  go_wp2
  refine wp_region_stagesE [([0, 1, 2, 3, 4, 5, 6, 7, 8, 9, 10, 11], 12, [])] [13] (by kernel_rfl) (by kernel_rfl) ?_
  refine wpStages_step ?_
  simp only [pick, List.map_cons, List.map_nil, List.getD_cons_zero, List.getD_cons_succ]
  repeat (go_big_quiet_step (fail))
  refine wpQuiet_nil ?_
  intro n0
  simp only [pick, List.map_cons, List.map_nil, List.getD_cons_zero, List.getD_cons_succ]
  refine wpList_min rfl _ _ _ rfl _ _ _ _ _ rfl rfl HMIN.out ?_
  go_wp2
  refine stagePost_mk (by simp [pick]) ?_
  refine wpStages_last ?_
  simp only [pick, List.map_cons, List.map_nil, List.getD_cons_zero, List.getD_cons_succ]
  repeat (go_big_quiet_step (fail))
  refine wpQuiet_nil ?_
  intro n1
  go_wp2
  refine wp_region_stagesE [([0, 1, 2, 3, 4, 5, 6, 7, 8, 9], 10, [])] [] (by kernel_rfl) (by kernel_rfl) ?_
  refine wpStages_step ?_
  simp only [pick, List.map_cons, List.map_nil, List.getD_cons_zero, List.getD_cons_succ]
  repeat (go_big_quiet_step (fail))
  refine wpQuiet_nil ?_
  intro n2
  simp only [pick, List.map_cons, List.map_nil, List.getD_cons_zero, List.getD_cons_succ]
  go_wp2
  refine stagePost_mk (by simp [pick]) ?_
  refine wpStages_last ?_
  simp only [pick, List.map_nil]
  refine wpQuiet_nil ?_
  intro n3
  go_wp2
  go_ret
  exact ⟨rfl, ⟨((h.blk.drewN _).set 1 _).drewN _, HSZ.out, h.max, h.lo, h.hi⟩, (((Ch.refl _ _).drewN _).setCell (.inl (by simp)) _).drewN _⟩
theorem refDiscard (n : Int) (m : Nat) (hm : min n.toNat D.size = m) : Calls Try.prog 26 #[.pointer (some ⟨p, 0, none⟩), .int .i64 n] w fun e w' => e = .returned (.int .i64 m) ∧ refAt w' p c (D.extract m D.size) cr cl dr ∧ Ch [p] w w' := by
  have c1 : w.cell? ⟨p, 1, none⟩ = some (.string D) := h.blk.cell 1
  have f1 := h.blk.frozen 1
  have hln := h.len
  have hmx := h.max
  have hm1 : m ≤ D.size := by omega
  have HM : Hid (min (max n 0) (D.size : Int) = m) := by show _ = _; omega
  have HSZ : Hid ((D.extract m D.size).size ≤ c) := by show _ ≤ _; rw [ByteArray.size_extract]; omega
  clear hm
  have clamp : Calls Try.prog 45 #[.int .i64 n, .int .i64 0, .int .i64 D.size] w fun e w' => e = .returned (.int .i64 m) ∧ w = w' := by
    go_enter Try.func45, Try.ntmps45
    go_wp2_with (first
      | (refine wpList_max rfl _ _ _ rfl _ _ _ _ _ rfl rfl rfl ?_)
      | (refine wpList_min rfl _ _ _ rfl _ _ _ _ _ rfl rfl HM.out ?_))
    go_ret
    exact ⟨rfl, rfl⟩
  go_enter Try.func26, Try.ntmps26
  go_wp2_with (go_at_call 45; with_reducible refine clamp.mono ?_; rintro e w' ⟨rfl, rfl⟩)
  go_ret
  exact ⟨rfl, ⟨h.blk.set 1 _, HSZ.out, h.max, h.lo, h.hi⟩, (Ch.refl _ _).setCell (.inl (by simp)) _⟩
set_option maxHeartbeats 4000000 in
theorem refReadM (n : Nat) (hn : (cr < D.size ∧ cr = n) ∨ ((D.size : Int) ≤ cr ∧ n = D.size)) (fin : Bool) (hfin : (D.size ≤ n ∧ fin = true) ∨ (n < D.size ∧ fin = false)) :
    Calls Try.prog 24 #[.pointer (some ⟨p, 0, none⟩)] w fun e w' => e = .returned (.tuple #[.string (D.extract 0 n), .bool (cl && fin && !dr)]) ∧ refAt w' p c (D.extract n D.size) (cr - n) cl (dr || (cl && fin && !dr)) ∧ Ch [p] w w' := by
  have c1 : w.cell? ⟨p, 1, none⟩ = some (.string D) := h.blk.cell 1
  have c2 : w.cell? ⟨p, 2, none⟩ = some (.int .u64 cr) := h.blk.cell 2
  have c3 : w.cell? ⟨p, 3, none⟩ = some (.bool cl) := h.blk.cell 3
  have c4 : w.cell? ⟨p, 4, none⟩ = some (.bool dr) := h.blk.cell 4
  have f1 := h.blk.frozen 1
  have f2 := h.blk.frozen 2
  have f4 := h.blk.frozen 4
  have hln := h.len
  have hmx := h.max
  have hlo := h.lo
  have hhi := h.hi
  have hnl : n ≤ D.size := by omega
  have HSZ : Hid ((D.extract n D.size).size ≤ c) := by show _ ≤ _; rw [ByteArray.size_extract]; omega
  rcases hn with ⟨q1, rfl⟩ | ⟨q1, rfl⟩
  · obtain rfl : fin = false := by rcases hfin with ⟨h1, _⟩ | ⟨_, h1⟩; omega; exact h1
    have hne : ¬ (D.extract n D.size).toList = [] := by
      intro e
      rw [ByteArray.toList_eq] at e
      have e1 : D.extract n D.size = ByteArray.empty := str_ext e
      have := ByteArray.extract_eq_empty_iff.1 e1
      omega
    clear hfin
    rw [show ((n : Int) - n) = 0 by omega]
    cases cl <;> cases dr
    all_goals
      go_enter Try.func24, Try.ntmps24
      go_wp2
      go_ret2
      exact ⟨rfl, ⟨((h.blk.set 1 _).set 2 _).set 4 _, HSZ.out, h.max, by omega, by omega⟩, (((Ch.refl _ _).setCell (.inl (by simp)) _).setCell (.inl (by simp)) _).setCell (.inl (by simp)) _⟩
  · obtain rfl : fin = true := by rcases hfin with ⟨_, h1⟩ | ⟨h1, _⟩; exact h1; omega
    have hE : D.extract D.size D.size = ByteArray.empty := ByteArray.extract_eq_empty_iff.2 (by omega)
    have hne : ByteArray.empty.toList = [] := by rw [ByteArray.toList_eq]; rfl
    have hE0 : D.extract 0 D.size = D := by simp
    rw [hE] at HSZ
    rw [hE, hE0]
    clear hfin hE hE0
    cases cl <;> cases dr
    all_goals
      go_enter Try.func24, Try.ntmps24
      go_wp2
      go_ret2
      exact ⟨rfl, ⟨((h.blk.set 1 _).set 2 _).set 4 _, HSZ.out, h.max, by omega, by omega⟩, (((Ch.refl _ _).setCell (.inl (by simp)) _).setCell (.inl (by simp)) _).setCell (.inl (by simp)) _⟩
end
end Go.Proofs.Ythdjnidaahhjbaa
