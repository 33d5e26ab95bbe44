/- What the methods of the reference's pipe compute where two pipes lie in one block (printed by mk_refrelay.py out of RefPipe). -/
import Derived.Test.YtlgbijakljohlaaStr
import Derived.Test.YtlgbijakljohlaaTick
import Derived.Test.YtlgbijakljohlaaStages2
import Derived.Test.YtlgbijakljohlaaMinMax
namespace Go.Proofs.Ytlgbijakljohlaa
open Go.RowKit

structure refUAt (Y : Value × Value × Value × Value × Value) (w : World) (p c : Nat) (D : ByteArray) (cr : Int) (cl dr : Bool) : Prop where
  blk : Blk w p 39 [.int .i64 c, .string D, .int .u64 cr, .bool cl, .bool dr, Y.1, Y.2.1, Y.2.2.1, Y.2.2.2.1, Y.2.2.2.2]
  len : D.size ≤ c
  max : c ≤ 4096
  lo : 0 ≤ cr
  hi : cr ≤ 18446744073709551615

section
variable {Y : Value × Value × Value × Value × Value} {w w' : World} {p c : Nat} {D : ByteArray} {cr : Int} {cl dr : Bool}
theorem refUAt.ch {S : List Nat} (h : refUAt Y w p c D cr cl dr) (hc : Ch S w w') (hp : p ∉ S) : refUAt Y w' p c D cr cl dr := ⟨h.blk.ch hc hp, h.len, h.max, h.lo, h.hi⟩
theorem refUAt.heap (h : refUAt Y w p c D cr cl dr) (e : w'.heap = w.heap) : refUAt Y w' p c D cr cl dr := ⟨h.blk.heap e, h.len, h.max, h.lo, h.hi⟩
theorem refUAt.below {B : Nat} (h : refUAt Y w p c D cr cl dr) (hb : Below B w w') (h0 : p < B) : refUAt Y w' p c D cr cl dr := ⟨h.blk.below hb h0, h.len, h.max, h.lo, h.hi⟩
end

section
variable (Y : Value × Value × Value × Value × Value) (w : World) (p c : Nat) (D : ByteArray) (cr : Int) (cl dr : Bool) (h : refUAt Y w p c D cr cl dr)
include h
theorem refUCloseWrite : Calls Try.prog 14 #[.pointer (some ⟨p, 0, none⟩)] w fun e w' => e = .returned (.bool (!cl)) ∧ refUAt Y w' p c D cr true dr ∧ Ch [p] w w' := by
  have c3 : w.cell? ⟨p, 3, none⟩ = some (.bool cl) := h.blk.cell 3
  have f3 := h.blk.frozen 3
  cases cl
  · go_enter Try.func14, Try.ntmps14
    go_wp2
    go_ret
    exact ⟨rfl, ⟨h.blk.set 3 _, h.len, h.max, h.lo, h.hi⟩, (Ch.refl _ _).setCell (.inl (by simp)) _⟩
  · go_enter Try.func14, Try.ntmps14
    go_wp2
    go_ret
    exact ⟨rfl, h, Ch.refl _ _⟩
theorem refUAddCredit (n : Int) (h0 : 0 ≤ n) (h1 : n ≤ 18446744073709551615) : Calls Try.prog 12 #[.pointer (some ⟨p, 0, none⟩), .int .u64 n] w fun e w' => e = .returned (.tuple #[]) ∧ refUAt Y w' p c D (addT cr n) cl dr ∧ Ch [p] w w' := by
  have c2 : w.cell? ⟨p, 2, none⟩ = some (.int .u64 cr) := h.blk.cell 2
  have f2 := h.blk.frozen 2
  have hlo := h.lo
  have hhi := h.hi
  have ha : 0 ≤ addT cr n ∧ addT cr n ≤ 18446744073709551615 := by unfold addT; split <;> omega
  go_enter Try.func12, Try.ntmps12
  go_wp2_with (go_at_call 27; with_reducible refine (refAdd _ _ _ ?_ ?_ ?_ ?_).mono ?_; omega; omega; omega; omega; rintro e w' ⟨rfl, rfl⟩)
  go_end0
  exact ⟨rfl, ⟨h.blk.set 2 _, h.len, h.max, ha.1, ha.2⟩, (Ch.refl _ _).setCell (.inl (by simp)) _⟩
theorem refUWrite_shut (s : ByteArray) (hcl : cl = true) : Calls Try.prog 10 #[.pointer (some ⟨p, 0, none⟩), .string s] w fun e w' => e = .returned (.int .i64 0) ∧ w = w' := by
  subst hcl
  have c3 : w.cell? ⟨p, 3, none⟩ = some (.bool true) := h.blk.cell 3
  go_enter Try.func10, Try.ntmps10
  go_wp2
  go_ret
  exact ⟨rfl, rfl⟩
theorem refUWriteM (s : ByteArray) (hs : s.size ≤ 140737488351232) (hcl : cl = false) (n : Nat) (hn : (c - D.size < s.size ∧ n = c - D.size) ∨ (s.size ≤ c - D.size ∧ n = s.size)) :
    Calls Try.prog 10 #[.pointer (some ⟨p, 0, none⟩), .string s] w fun e w' => e = .returned (.int .i64 n) ∧ refUAt Y w' p c (D ++ s.extract 0 n) cr false dr ∧ Ch [p] w w' := by
  subst hcl
  have c0 : w.cell? ⟨p, 0, none⟩ = some (.int .i64 c) := h.blk.cell 0
  have c1 : w.cell? ⟨p, 1, none⟩ = some (.string D) := h.blk.cell 1
  have c3 : w.cell? ⟨p, 3, none⟩ = some (.bool false) := h.blk.cell 3
  have f1 := h.blk.frozen 1
  have hln := h.len
  have hmx := h.max
  have HSZ : Hid ((D ++ s.extract 0 n).size ≤ c) := by show _ ≤ _; rw [ByteArray.size_append, ByteArray.size_extract]; omega
  have hmin : min (s.size : Int) ((c : Int) - D.size) = n := by omega
  have HMIN := hid hmin
  have q1 : n ≤ s.size := by omega
  clear hn hmin
  go_enter Try.func10, Try.ntmps10
  go_wp2
  refine wp_region_stagesE [([0, 1, 2, 3, 4, 5, 6, 7, 8, 9, 10, 11], 12, [])] [13] (by kernel_rfl) (by kernel_rfl) ?_
  refine wpStages_step ?_
  simp only [pick, List.map_cons, List.map_nil, List.getD_cons_zero, List.getD_cons_succ]
  repeat (go_big_quiet_step (fail))
  refine wpQuiet_nil ?_
  intro n0
  simp only [pick, List.map_cons, List.map_nil, List.getD_cons_zero, List.getD_cons_succ]
  refine wpList_min rfl _ _ _ rfl _ _ _ _ _ rfl rfl HMIN.out ?_
  go_wp2
  refine stagePost_mk (by simp [pick]) ?_
  refine wpStages_last ?_
  simp only [pick, List.map_cons, List.map_nil, List.getD_cons_zero, List.getD_cons_succ]
  repeat (go_big_quiet_step (fail))
  refine wpQuiet_nil ?_
  intro n1
  go_wp2
  refine wp_region_stagesE [([0, 1, 2, 3, 4, 5, 6, 7, 8, 9], 10, [])] [] (by kernel_rfl) (by kernel_rfl) ?_
  refine wpStages_step ?_
  simp only [pick, List.map_cons, List.map_nil, List.getD_cons_zero, List.getD_cons_succ]
  repeat (go_big_quiet_step (fail))
  refine wpQuiet_nil ?_
  intro n2
  simp only [pick, List.map_cons, List.map_nil, List.getD_cons_zero, List.getD_cons_succ]
  go_wp2
  refine stagePost_mk (by simp [pick]) ?_
  refine wpStages_last ?_
  simp only [pick, List.map_nil]
  refine wpQuiet_nil ?_
  intro n3
  go_wp2
  go_ret
  exact ⟨rfl, ⟨((h.blk.drewN _).set 1 _).drewN _, HSZ.out, h.max, h.lo, h.hi⟩, (((Ch.refl _ _).drewN _).setCell (.inl (by simp)) _).drewN _⟩
set_option maxHeartbeats 4000000 in
theorem refUReadM (n : Nat) (hn : (cr < D.size ∧ cr = n) ∨ ((D.size : Int) ≤ cr ∧ n = D.size)) (fin : Bool) (hfin : (D.size ≤ n ∧ fin = true) ∨ (n < D.size ∧ fin = false)) :
    Calls Try.prog 32 #[.pointer (some ⟨p, 0, none⟩)] w fun e w' => e = .returned (.tuple #[.string (D.extract 0 n), .bool (cl && fin && !dr)]) ∧ refUAt Y w' p c (D.extract n D.size) (cr - n) cl (dr || (cl && fin && !dr)) ∧ Ch [p] w w' := by
  have c1 : w.cell? ⟨p, 1, none⟩ = some (.string D) := h.blk.cell 1
  have c2 : w.cell? ⟨p, 2, none⟩ = some (.int .u64 cr) := h.blk.cell 2
  have c3 : w.cell? ⟨p, 3, none⟩ = some (.bool cl) := h.blk.cell 3
  have c4 : w.cell? ⟨p, 4, none⟩ = some (.bool dr) := h.blk.cell 4
  have f1 := h.blk.frozen 1
  have f2 := h.blk.frozen 2
  have f4 := h.blk.frozen 4
  have hln := h.len
  have hmx := h.max
  have hlo := h.lo
  have hhi := h.hi
  have hnl : n ≤ D.size := by omega
  have HSZ : Hid ((D.extract n D.size).size ≤ c) := by show _ ≤ _; rw [ByteArray.size_extract]; omega
  rcases hn with ⟨q1, rfl⟩ | ⟨q1, rfl⟩
  · obtain rfl : fin = false := by rcases hfin with ⟨h1, _⟩ | ⟨_, h1⟩; omega; exact h1
    have hne : ¬ (D.extract n D.size).toList = [] := by
      intro e
      rw [ByteArray.toList_eq] at e
      have e1 : D.extract n D.size = ByteArray.empty := str_ext e
      have := ByteArray.extract_eq_empty_iff.1 e1
      omega
    clear hfin
    rw [show ((n : Int) - n) = 0 by omega]
    cases cl <;> cases dr
    all_goals
      go_enter Try.func32, Try.ntmps32
      go_wp2
      go_ret2
      exact ⟨rfl, ⟨((h.blk.set 1 _).set 2 _).set 4 _, HSZ.out, h.max, by omega, by omega⟩, (((Ch.refl _ _).setCell (.inl (by simp)) _).setCell (.inl (by simp)) _).setCell (.inl (by simp)) _⟩
  · obtain rfl : fin = true := by rcases hfin with ⟨_, h1⟩ | ⟨h1, _⟩; exact h1; omega
    have hE : D.extract D.size D.size = ByteArray.empty := ByteArray.extract_eq_empty_iff.2 (by omega)
    have hne : ByteArray.empty.toList = [] := by rw [ByteArray.toList_eq]; rfl
    have hE0 : D.extract 0 D.size = D := by simp
    rw [hE] at HSZ
    rw [hE, hE0]
    clear hfin hE hE0
    cases cl <;> cases dr
    all_goals
      go_enter Try.func32, Try.ntmps32
      go_wp2
      go_ret2
      exact ⟨rfl, ⟨((h.blk.set 1 _).set 2 _).set 4 _, HSZ.out, h.max, by omega, by omega⟩, (((Ch.refl _ _).setCell (.inl (by simp)) _).setCell (.inl (by simp)) _).setCell (.inl (by simp)) _⟩
end
section
variable (Y : Value × Value × Value × Value × Value) (w : World) (p c : Nat) (D : ByteArray) (cr : Int) (cl dr : Bool) (h : refUAt Y w p c D cr cl dr)
include h
theorem refUWriteAs (s : ByteArray) (hs : s.size ≤ 140737488351232) (hcl : cl = false) (n : Nat) (hn : min s.size (c - D.size) = n) :
    Calls Try.prog 10 #[.pointer (some ⟨p, 0, none⟩), .string s] w fun e w' => e = .returned (.int .i64 n) ∧ refUAt Y w' p c (D ++ s.extract 0 n) cr false dr ∧ Ch [p] w w' :=
  refUWriteM Y w p c D cr cl dr h s hs hcl n (by omega)
theorem refUReadAs (n : Nat) (hn : min cr.toNat D.size = n) (e : Bool) (he : (cl && decide (D.size ≤ n) && !dr) = e) :
    Calls Try.prog 32 #[.pointer (some ⟨p, 0, none⟩)] w fun r w' => r = .returned (.tuple #[.string (D.extract 0 n), .bool e]) ∧ refUAt Y w' p c (D.extract n D.size) (cr - n) cl (dr || e) ∧ Ch [p] w w' := by
  subst he
  have hlo := h.lo
  refine refUReadM Y w p c D cr cl dr h n (by omega) _ ?_
  by_cases e : D.size ≤ n
  · exact .inl ⟨e, by simpa using e⟩
  · exact .inr ⟨by omega, by simpa using e⟩
end
section
variable (Y : Value × Value × Value × Value × Value) (w : World) (p c : Nat) (D : ByteArray) (cr : Int) (cl dr : Bool) (h : refUAt Y w p c D cr cl dr)
include h
theorem refUWriteAny (s : ByteArray) (hs : s.size ≤ 140737488351232) (n : Nat) (hn : (if cl then 0 else min s.size (c - D.size)) = n) :
    Calls Try.prog 10 #[.pointer (some ⟨p, 0, none⟩), .string s] w fun e w' => e = .returned (.int .i64 n) ∧ refUAt Y w' p c (D ++ s.extract 0 n) cr cl dr ∧ Ch [p] w w' := by
  cases cl
  · exact refUWriteAs Y w p c D cr false dr h s hs rfl n (by simpa using hn)
  · simp only [if_true] at hn
    subst hn
    refine (refUWrite_shut Y w p c D cr true dr h s rfl).mono ?_
    rintro e w' ⟨rfl, rfl⟩
    have e0 : D ++ s.extract 0 0 = D := by
      have : s.extract 0 0 = ByteArray.empty := by simp
      rw [this, ByteArray.append_empty]
    exact ⟨rfl, by rw [e0]; exact h, Ch.refl _ _⟩
theorem refUCloseAs (e : Bool) (he : (!cl) = e) : Calls Try.prog 14 #[.pointer (some ⟨p, 0, none⟩)] w fun r w' => r = .returned (.bool e) ∧ refUAt Y w' p c D cr true dr ∧ Ch [p] w w' := by
  subst he; exact refUCloseWrite Y w p c D cr cl dr h
end
structure refDAt (Y : Value × Value × Value × Value × Value) (w : World) (p c : Nat) (D : ByteArray) (cr : Int) (cl dr : Bool) : Prop where
  blk : Blk w p 39 [Y.1, Y.2.1, Y.2.2.1, Y.2.2.2.1, Y.2.2.2.2, .int .i64 c, .string D, .int .u64 cr, .bool cl, .bool dr]
  len : D.size ≤ c
  max : c ≤ 4096
  lo : 0 ≤ cr
  hi : cr ≤ 18446744073709551615

section
variable {Y : Value × Value × Value × Value × Value} {w w' : World} {p c : Nat} {D : ByteArray} {cr : Int} {cl dr : Bool}
theorem refDAt.ch {S : List Nat} (h : refDAt Y w p c D cr cl dr) (hc : Ch S w w') (hp : p ∉ S) : refDAt Y w' p c D cr cl dr := ⟨h.blk.ch hc hp, h.len, h.max, h.lo, h.hi⟩
theorem refDAt.heap (h : refDAt Y w p c D cr cl dr) (e : w'.heap = w.heap) : refDAt Y w' p c D cr cl dr := ⟨h.blk.heap e, h.len, h.max, h.lo, h.hi⟩
theorem refDAt.below {B : Nat} (h : refDAt Y w p c D cr cl dr) (hb : Below B w w') (h0 : p < B) : refDAt Y w' p c D cr cl dr := ⟨h.blk.below hb h0, h.len, h.max, h.lo, h.hi⟩
end

section
variable (Y : Value × Value × Value × Value × Value) (w : World) (p c : Nat) (D : ByteArray) (cr : Int) (cl dr : Bool) (h : refDAt Y w p c D cr cl dr)
include h
theorem refDCloseWrite : Calls Try.prog 14 #[.pointer (some ⟨p, 5, none⟩)] w fun e w' => e = .returned (.bool (!cl)) ∧ refDAt Y w' p c D cr true dr ∧ Ch [p] w w' := by
  have c3 : w.cell? ⟨p, 8, none⟩ = some (.bool cl) := h.blk.cell 8
  have f3 := h.blk.frozen 8
  cases cl
  · go_enter Try.func14, Try.ntmps14
    go_wp2
    go_ret
    exact ⟨rfl, ⟨h.blk.set 8 _, h.len, h.max, h.lo, h.hi⟩, (Ch.refl _ _).setCell (.inl (by simp)) _⟩
  · go_enter Try.func14, Try.ntmps14
    go_wp2
    go_ret
    exact ⟨rfl, h, Ch.refl _ _⟩
theorem refDAddCredit (n : Int) (h0 : 0 ≤ n) (h1 : n ≤ 18446744073709551615) : Calls Try.prog 12 #[.pointer (some ⟨p, 5, none⟩), .int .u64 n] w fun e w' => e = .returned (.tuple #[]) ∧ refDAt Y w' p c D (addT cr n) cl dr ∧ Ch [p] w w' := by
  have c2 : w.cell? ⟨p, 7, none⟩ = some (.int .u64 cr) := h.blk.cell 7
  have f2 := h.blk.frozen 7
  have hlo := h.lo
  have hhi := h.hi
  have ha : 0 ≤ addT cr n ∧ addT cr n ≤ 18446744073709551615 := by unfold addT; split <;> omega
  go_enter Try.func12, Try.ntmps12
  go_wp2_with (go_at_call 27; with_reducible refine (refAdd _ _ _ ?_ ?_ ?_ ?_).mono ?_; omega; omega; omega; omega; rintro e w' ⟨rfl, rfl⟩)
  go_end0
  exact ⟨rfl, ⟨h.blk.set 7 _, h.len, h.max, ha.1, ha.2⟩, (Ch.refl _ _).setCell (.inl (by simp)) _⟩
theorem refDWrite_shut (s : ByteArray) (hcl : cl = true) : Calls Try.prog 10 #[.pointer (some ⟨p, 5, none⟩), .string s] w fun e w' => e = .returned (.int .i64 0) ∧ w = w' := by
  subst hcl
  have c3 : w.cell? ⟨p, 8, none⟩ = some (.bool true) := h.blk.cell 8
  go_enter Try.func10, Try.ntmps10
  go_wp2
  go_ret
  exact ⟨rfl, rfl⟩
theorem refDWriteM (s : ByteArray) (hs : s.size ≤ 140737488351232) (hcl : cl = false) (n : Nat) (hn : (c - D.size < s.size ∧ n = c - D.size) ∨ (s.size ≤ c - D.size ∧ n = s.size)) :
    Calls Try.prog 10 #[.pointer (some ⟨p, 5, none⟩), .string s] w fun e w' => e = .returned (.int .i64 n) ∧ refDAt Y w' p c (D ++ s.extract 0 n) cr false dr ∧ Ch [p] w w' := by
  subst hcl
  have c0 : w.cell? ⟨p, 5, none⟩ = some (.int .i64 c) := h.blk.cell 5
  have c1 : w.cell? ⟨p, 6, none⟩ = some (.string D) := h.blk.cell 6
  have c3 : w.cell? ⟨p, 8, none⟩ = some (.bool false) := h.blk.cell 8
  have f1 := h.blk.frozen 6
  have hln := h.len
  have hmx := h.max
  have HSZ : Hid ((D ++ s.extract 0 n).size ≤ c) := by show _ ≤ _; rw [ByteArray.size_append, ByteArray.size_extract]; omega
  have hmin : min (s.size : Int) ((c : Int) - D.size) = n := by omega
  have HMIN := hid hmin
  have q1 : n ≤ s.size := by omega
  clear hn hmin
  go_enter Try.func10, Try.ntmps10
  go_wp2
  refine wp_region_stagesE [([0, 1, 2, 3, 4, 5, 6, 7, 8, 9, 10, 11], 12, [])] [13] (by kernel_rfl) (by kernel_rfl) ?_
  refine wpStages_step ?_
  simp only [pick, List.map_cons, List.map_nil, List.getD_cons_zero, List.getD_cons_succ]
  repeat (go_big_quiet_step (fail))
  refine wpQuiet_nil ?_
  intro n0
  simp only [pick, List.map_cons, List.map_nil, List.getD_cons_zero, List.getD_cons_succ]
  refine wpList_min rfl _ _ _ rfl _ _ _ _ _ rfl rfl HMIN.out ?_
  go_wp2
  refine stagePost_mk (by simp [pick]) ?_
  refine wpStages_last ?_
  simp only [pick, List.map_cons, List.map_nil, List.getD_cons_zero, List.getD_cons_succ]
  repeat (go_big_quiet_step (fail))
  refine wpQuiet_nil ?_
  intro n1
  go_wp2
  refine wp_region_stagesE [([0, 1, 2, 3, 4, 5, 6, 7, 8, 9], 10, [])] [] (by kernel_rfl) (by kernel_rfl) ?_
  refine wpStages_step ?_
  simp only [pick, List.map_cons, List.map_nil, List.getD_cons_zero, List.getD_cons_succ]
  repeat (go_big_quiet_step (fail))
  refine wpQuiet_nil ?_
  intro n2
  simp only [pick, List.map_cons, List.map_nil, List.getD_cons_zero, List.getD_cons_succ]
  go_wp2
  refine stagePost_mk (by simp [pick]) ?_
  refine wpStages_last ?_
  simp only [pick, List.map_nil]
  refine wpQuiet_nil ?_
  intro n3
  go_wp2
  go_ret
  exact ⟨rfl, ⟨((h.blk.drewN _).set 6 _).drewN _, HSZ.out, h.max, h.lo, h.hi⟩, (((Ch.refl _ _).drewN _).setCell (.inl (by simp)) _).drewN _⟩
set_option maxHeartbeats 4000000 in
theorem refDReadM (n : Nat) (hn : (cr < D.size ∧ cr = n) ∨ ((D.size : Int) ≤ cr ∧ n = D.size)) (fin : Bool) (hfin : (D.size ≤ n ∧ fin = true) ∨ (n < D.size ∧ fin = false)) :
    Calls Try.prog 32 #[.pointer (some ⟨p, 5, none⟩)] w fun e w' => e = .returned (.tuple #[.string (D.extract 0 n), .bool (cl && fin && !dr)]) ∧ refDAt Y w' p c (D.extract n D.size) (cr - n) cl (dr || (cl && fin && !dr)) ∧ Ch [p] w w' := by
  have c1 : w.cell? ⟨p, 6, none⟩ = some (.string D) := h.blk.cell 6
  have c2 : w.cell? ⟨p, 7, none⟩ = some (.int .u64 cr) := h.blk.cell 7
  have c3 : w.cell? ⟨p, 8, none⟩ = some (.bool cl) := h.blk.cell 8
  have c4 : w.cell? ⟨p, 9, none⟩ = some (.bool dr) := h.blk.cell 9
  have f1 := h.blk.frozen 6
  have f2 := h.blk.frozen 7
  have f4 := h.blk.frozen 9
  have hln := h.len
  have hmx := h.max
  have hlo := h.lo
  have hhi := h.hi
  have hnl : n ≤ D.size := by omega
  have HSZ : Hid ((D.extract n D.size).size ≤ c) := by show _ ≤ _; rw [ByteArray.size_extract]; omega
  rcases hn with ⟨q1, rfl⟩ | ⟨q1, rfl⟩
  · obtain rfl : fin = false := by rcases hfin with ⟨h1, _⟩ | ⟨_, h1⟩; omega; exact h1
    have hne : ¬ (D.extract n D.size).toList = [] := by
      intro e
      rw [ByteArray.toList_eq] at e
      have e1 : D.extract n D.size = ByteArray.empty := str_ext e
      have := ByteArray.extract_eq_empty_iff.1 e1
      omega
    clear hfin
    rw [show ((n : Int) - n) = 0 by omega]
    cases cl <;> cases dr
    all_goals
      go_enter Try.func32, Try.ntmps32
      go_wp2
      go_ret2
      exact ⟨rfl, ⟨((h.blk.set 6 _).set 7 _).set 9 _, HSZ.out, h.max, by omega, by omega⟩, (((Ch.refl _ _).setCell (.inl (by simp)) _).setCell (.inl (by simp)) _).setCell (.inl (by simp)) _⟩
  · obtain rfl : fin = true := by rcases hfin with ⟨_, h1⟩ | ⟨h1, _⟩; exact h1; omega
    have hE : D.extract D.size D.size = ByteArray.empty := ByteArray.extract_eq_empty_iff.2 (by omega)
    have hne : ByteArray.empty.toList = [] := by rw [ByteArray.toList_eq]; rfl
    have hE0 : D.extract 0 D.size = D := by simp
    rw [hE] at HSZ
    rw [hE, hE0]
    clear hfin hE hE0
    cases cl <;> cases dr
    all_goals
      go_enter Try.func32, Try.ntmps32
      go_wp2
      go_ret2
      exact ⟨rfl, ⟨((h.blk.set 6 _).set 7 _).set 9 _, HSZ.out, h.max, by omega, by omega⟩, (((Ch.refl _ _).setCell (.inl (by simp)) _).setCell (.inl (by simp)) _).setCell (.inl (by simp)) _⟩
end
section
variable (Y : Value × Value × Value × Value × Value) (w : World) (p c : Nat) (D : ByteArray) (cr : Int) (cl dr : Bool) (h : refDAt Y w p c D cr cl dr)
include h
theorem refDWriteAs (s : ByteArray) (hs : s.size ≤ 140737488351232) (hcl : cl = false) (n : Nat) (hn : min s.size (c - D.size) = n) :
    Calls Try.prog 10 #[.pointer (some ⟨p, 5, none⟩), .string s] w fun e w' => e = .returned (.int .i64 n) ∧ refDAt Y w' p c (D ++ s.extract 0 n) cr false dr ∧ Ch [p] w w' :=
  refDWriteM Y w p c D cr cl dr h s hs hcl n (by omega)
theorem refDReadAs (n : Nat) (hn : min cr.toNat D.size = n) (e : Bool) (he : (cl && decide (D.size ≤ n) && !dr) = e) :
    Calls Try.prog 32 #[.pointer (some ⟨p, 5, none⟩)] w fun r w' => r = .returned (.tuple #[.string (D.extract 0 n), .bool e]) ∧ refDAt Y w' p c (D.extract n D.size) (cr - n) cl (dr || e) ∧ Ch [p] w w' := by
  subst he
  have hlo := h.lo
  refine refDReadM Y w p c D cr cl dr h n (by omega) _ ?_
  by_cases e : D.size ≤ n
  · exact .inl ⟨e, by simpa using e⟩
  · exact .inr ⟨by omega, by simpa using e⟩
end
section
variable (Y : Value × Value × Value × Value × Value) (w : World) (p c : Nat) (D : ByteArray) (cr : Int) (cl dr : Bool) (h : refDAt Y w p c D cr cl dr)
include h
theorem refDWriteAny (s : ByteArray) (hs : s.size ≤ 140737488351232) (n : Nat) (hn : (if cl then 0 else min s.size (c - D.size)) = n) :
    Calls Try.prog 10 #[.pointer (some ⟨p, 5, none⟩), .string s] w fun e w' => e = .returned (.int .i64 n) ∧ refDAt Y w' p c (D ++ s.extract 0 n) cr cl dr ∧ Ch [p] w w' := by
  cases cl
  · exact refDWriteAs Y w p c D cr false dr h s hs rfl n (by simpa using hn)
  · simp only [if_true] at hn
    subst hn
    refine (refDWrite_shut Y w p c D cr true dr h s rfl).mono ?_
    rintro e w' ⟨rfl, rfl⟩
    have e0 : D ++ s.extract 0 0 = D := by
      have : s.extract 0 0 = ByteArray.empty := by simp
      rw [this, ByteArray.append_empty]
    exact ⟨rfl, by rw [e0]; exact h, Ch.refl _ _⟩
theorem refDCloseAs (e : Bool) (he : (!cl) = e) : Calls Try.prog 14 #[.pointer (some ⟨p, 5, none⟩)] w fun r w' => r = .returned (.bool e) ∧ refDAt Y w' p c D cr true dr ∧ Ch [p] w w' := by
  subst he; exact refDCloseWrite Y w p c D cr cl dr h
end
end Go.Proofs.Ytlgbijakljohlaa
