/- What the methods of pipe.Pipe compute: a contract each. -/
import Derived.Test.YtlgbijakljohlaaRingB2
import Derived.Test.YtlgbijakljohlaaStr
import Derived.Test.YtlgbijakljohlaaTick
import Derived.Test.YtlgbijakljohlaaStages2
import Derived.Test.YtlgbijakljohlaaMinMax
namespace Go.Proofs.Ytlgbijakljohlaa
open Go.RowKit

/-- The pipe at block p: its ring at g and b, of capacity c, holds the bytes xs; its credit; whether it is closed, drained. -/
structure pipeAt (w : World) (p g b c : Nat) (xs : List Int) (cr : Int) (cl dr : Bool) : Prop where
  blk : Blk w p 62 [.pointer (some ⟨g, 0, none⟩), .int .u64 cr, .bool cl, .bool dr]
  ring : ringBAt w g b c xs
  lo : 0 ≤ cr
  hi : cr ≤ 18446744073709551615

section
variable {w w' : World} {p g b c : Nat} {xs : List Int} {cr : Int} {cl dr : Bool}
theorem pipeAt.ch {S : List Nat} (h : pipeAt w p g b c xs cr cl dr) (hc : Ch S w w') (hp : p ∉ S) (hg : g ∉ S) (hb : b ∉ S) : pipeAt w' p g b c xs cr cl dr := ⟨h.blk.ch hc hp, h.ring.ch hc hg hb, h.lo, h.hi⟩
theorem pipeAt.heap (h : pipeAt w p g b c xs cr cl dr) (e : w'.heap = w.heap) : pipeAt w' p g b c xs cr cl dr := ⟨h.blk.heap e, h.ring.heap e, h.lo, h.hi⟩
theorem pipeAt.lt (h : pipeAt w p g b c xs cr cl dr) : p < w.heap.size ∧ g < w.heap.size ∧ b < w.heap.size ∧ p ≠ g ∧ p ≠ b ∧ g ≠ b ∧ xs.length ≤ c ∧ 1 ≤ c ∧ c ≤ 4096 := by
  have hr := h.ring.lt
  obtain ⟨head, arr, h1, h2, _⟩ := h.ring
  exact ⟨h.blk.lt, hr.1, hr.2.1, h.blk.ne h1 (by decide), h.blk.ne h2 (by decide), hr.2.2.1, hr.2.2.2⟩
theorem pipeAt.below {B : Nat} (h : pipeAt w p g b c xs cr cl dr) (hb : Below B w w') (h0 : p < B) (h1 : g < B) (h2 : b < B) : pipeAt w' p g b c xs cr cl dr := ⟨h.blk.below hb h0, h.ring.below hb h1 h2, h.lo, h.hi⟩
end
theorem RdI.far {k : IntKind} {w : World} {B n : Nat} {A : Option Addr} {xs : List Int} (h : RdI k w B A n xs) {q : Addr} (hq : q.block ∉ blkOf A) (v : Value) : RdI k (w.setCell q v) B A n xs :=
  ⟨h.1, fun hp => by
    obtain ⟨b, off, e, hB, hc⟩ := h.2 hp
    refine ⟨b, off, e, hB, fun i hi => ?_⟩
    have hne : b ≠ q.block := by rintro rfl; rw [e] at hq; exact hq (by simp [blkOf])
    rw [← hc i hi]
    exact World.cell?_of_block (w := w) (Below.heap_setCell w q v b hne)⟩

theorem pipeNew_as (n : Int) (c : Nat) (hn : n = c) (w : World) (h0 : 1 ≤ c) (h1 : c ≤ 4096) :
    Calls Try.prog 24 #[.int .i64 n] w fun e w' => ∃ p, e = .returned (.tuple #[.pointer (some ⟨p, 0, none⟩), .int .i64 0]) ∧ w.heap.size + 1 < p ∧ pipeAt w' p (w.heap.size + 1) w.heap.size c [] 0 false false ∧ Ch [] w w' := by
  have hn' : n ≤ 4096 := by omega
  have HN := hid hn
  clear hn
  go_enter Try.func24, Try.ntmps24
  go_wp2_with fail
  refine (ringBNew_as _ c HN.out _ h0 h1).mono ?_
  rintro e w1 ⟨rfl, R1, C1⟩
  have hl := R1.lt
  go_wp2_with fail
  go_ret2
  exact ⟨_, rfl, by omega, ⟨Blk.new w1 _ _, R1.ch ((Ch.refl [] w1).alloc _) (by simp) (by simp), by omega, by omega⟩, C1.alloc _⟩
theorem pipeNew_bad (n : Int) (w : World) (h : n < 1 ∨ 4096 < n) :
    Calls Try.prog 24 #[.int .i64 n] w fun e w' => e = .returned (.tuple #[.pointer none, .int .i64 1]) ∧ w = w' := by
  by_cases c1 : 4096 < n
  · go_enter Try.func24, Try.ntmps24
    go_wp2
    go_ret2
    exact ⟨rfl, rfl⟩
  · have c2 : n < 1 := by omega
    go_enter Try.func24, Try.ntmps24
    go_wp2_with fail
    refine (ringBNew_bad _ _ (by omega)).mono ?_
    rintro e w' ⟨rfl, rfl⟩
    go_wp2_with fail
    go_ret2
    exact ⟨rfl, rfl⟩

section
variable (w : World) (p g b c : Nat) (xs : List Int) (cr : Int) (cl dr : Bool) (h : pipeAt w p g b c xs cr cl dr)
include h

theorem pipeDrained : Calls Try.prog 34 #[.pointer (some ⟨p, 0, none⟩)] w fun e w' => e = .returned (.bool dr) ∧ w = w' := by
  have c3 : w.cell? ⟨p, 3, none⟩ = some (.bool dr) := h.blk.cell 3
  go_enter Try.func34, Try.ntmps34
  go_wp2
  go_ret
  exact ⟨rfl, rfl⟩
theorem pipeCloseWrite : Calls Try.prog 13 #[.pointer (some ⟨p, 0, none⟩)] w fun e w' => e = .returned (.bool (!cl)) ∧ pipeAt w' p g b c xs cr true dr ∧ Ch [p] w w' := by
  have c2 : w.cell? ⟨p, 2, none⟩ = some (.bool cl) := h.blk.cell 2
  have f2 := h.blk.frozen 2
  have hl := h.lt
  go_enter Try.func13, Try.ntmps13
  go_wp2
  go_ret
  have C : Ch [p] w (w.setCell ⟨p, 2, none⟩ (.bool true)) := (Ch.refl _ _).setCell (.inl (by simp)) _
  exact ⟨rfl, ⟨h.blk.set 2 _, h.ring.ch C (by simp; omega) (by simp; omega), h.lo, h.hi⟩, C⟩
theorem pipeAddCredit (n : Int) (h0 : 0 ≤ n) (h1 : n ≤ 18446744073709551615) : Calls Try.prog 11 #[.pointer (some ⟨p, 0, none⟩), .int .u64 n] w fun e w' => e = .returned (.tuple #[]) ∧ pipeAt w' p g b c xs (addT cr n) cl dr ∧ Ch [p] w w' := by
  have c1 : w.cell? ⟨p, 1, none⟩ = some (.int .u64 cr) := h.blk.cell 1
  have f1 := h.blk.frozen 1
  have hl := h.lt
  have hlo := h.lo
  have hhi := h.hi
  have ha : 0 ≤ addT cr n ∧ addT cr n ≤ 18446744073709551615 := by unfold addT; split <;> omega
  go_enter Try.func11, Try.ntmps11
  go_wp2_with (go_at_call 26; with_reducible refine (tickAdd _ _ _ ?_ ?_ ?_ ?_).mono ?_; omega; omega; omega; omega; rintro e w' ⟨rfl, rfl⟩)
  go_end0
  have C : Ch [p] w (w.setCell ⟨p, 1, none⟩ (.int .u64 (addT cr n))) := (Ch.refl _ _).setCell (.inl (by simp)) _
  exact ⟨rfl, ⟨h.blk.set 1 _, h.ring.ch C (by simp; omega) (by simp; omega), ha.1, ha.2⟩, C⟩
theorem pipeBytes : Calls Try.prog 21 #[.pointer (some ⟨p, 0, none⟩)] w fun e w' => e = .returned (.string (strOfNums xs)) ∧ Ch [] w w' := by
  have c0 : w.cell? ⟨p, 0, none⟩ = some (.pointer (some ⟨g, 0, none⟩)) := h.blk.cell 0
  have hl := h.lt
  have HD : Hid (min ((xs.length : Int)).toNat xs.length = xs.length) := by show _ = _; omega
  have HT : Hid (xs.take xs.length = xs) := List.take_length
  go_enter Try.func21, Try.ntmps21
  go_wp2_with fail
  refine wp_region_stagesE [([0, 1, 2, 3, 4, 5, 6, 7, 8], 9, []), ([], 10, [])] [11] (by kernel_rfl) (by kernel_rfl) ?_
  refine wpStages_step ?_
  simp only [pick, List.map_cons, List.map_nil, List.getD_cons_zero, List.getD_cons_succ]
  repeat (go_big_quiet_step ((go_at_call 33; exact quiet_eq (ringBLen _ g b c xs (h.ring.heap rfl)))))
  refine wpQuiet_nil ?_
  intro n0
  simp only [pick, List.map_cons, List.map_nil, List.getD_cons_zero, List.getD_cons_succ]
  go_wp2_with (go_at_call 35; go_must ((with_reducible refine (ringBPeekAs _ _ b c xs ?_ _ xs.length HD.out _ HT.out).mono ?_); exact h.ring.heap rfl; rintro e w2 ⟨A, cc, rfl, own, C2⟩))
  refine stagePost_mk (by simp [pick]) ?_
  have r2 : RdI .u8 w2 w2.heap.size A xs.length xs := Rd.ints own.rd
  refine wpStages_step ?_
  simp only [pick, List.map_nil]
  refine wpQuiet_nil ?_
  intro n1
  simp only [pick, List.map_cons, List.map_nil, List.getD_cons_zero, List.getD_cons_succ]
  go_wp2_with (refine wpList_strOf rfl _ _ _ _ rfl Try.underlying64 Try.underlying5 Try.underlying9 A xs.length cc w2.heap.size xs rfl (r2.heap rfl) ?_)
  refine stagePost_mk (by simp [pick]) ?_
  refine wpStages_last ?_
  simp only [pick, List.map_cons, List.map_nil, List.getD_cons_zero, List.getD_cons_succ]
  repeat (go_big_quiet_step (fail))
  refine wpQuiet_nil ?_
  intro n2
  go_wp2
  go_ret
  exact ⟨rfl, ((((Ch.refl _ _).drewN n0).trans C2).drewN _).drewN _⟩

theorem pipeWrite_open (s : ByteArray) (hs : s.size ≤ maxLen) (hcl : cl = false) : Calls Try.prog 9 #[.pointer (some ⟨p, 0, none⟩), .string s] w fun e w' => e = .returned (.int .i64 (min s.size (c - xs.length) : Nat)) ∧ pipeAt w' p g b c (xs ++ (numsOf s).take (c - xs.length)) cr false dr ∧ Ch [g, b] w w' := by
  subst hcl
  have c0 : w.cell? ⟨p, 0, none⟩ = some (.pointer (some ⟨g, 0, none⟩)) := h.blk.cell 0
  have c2 : w.cell? ⟨p, 2, none⟩ = some (.bool false) := h.blk.cell 2
  have hl := h.lt
  have HL := hid (numsOf_length s)
  generalize hM : min s.size (c - xs.length) = M
  have HM : Hid (((min (numsOf s).length (c - xs.length) : Nat) : Int) = (M : Nat)) := by show _ = _; rw [HL.out, hM]
  have HS := hid hs
  clear hM hs
  go_enter Try.func9, Try.ntmps9
  go_wp2_with (first
    | (refine wpList_bytesOf rfl _ _ _ _ rfl Try.underlying9 Try.underlying64 Try.underlying5 s rfl HS.out ?_; intro cc w2 hc1 hc2 r2 C2 hz2)
    | (go_at_call 25; go_must ((with_reducible refine (ringBPushAs _ _ _ c xs (h.ring.ch C2 (by simp) (by simp)) _ s.size cc (numsOf s) r2 (by simp [blkOf]; omega) hc1 (by unfold maxLen at hc2; omega) _ _ HM.out rfl).mono ?_); rintro e w3 ⟨rfl, R3, C3⟩)))
  go_ret
  exact ⟨rfl, ⟨(h.blk.ch C2 (by simp)).ch C3 (by simp; omega), R3, h.lo, h.hi⟩, (C2.mono (by simp)).trans C3⟩
theorem pipeWrite_shut (s : ByteArray) (hcl : cl = true) : Calls Try.prog 9 #[.pointer (some ⟨p, 0, none⟩), .string s] w fun e w' => e = .returned (.int .i64 0) ∧ w = w' := by
  subst hcl
  have c2 : w.cell? ⟨p, 2, none⟩ = some (.bool true) := h.blk.cell 2
  go_enter Try.func9, Try.ntmps9
  go_wp2
  go_ret
  exact ⟨rfl, rfl⟩

set_option maxHeartbeats 2000000 in
theorem pipeReadM (n : Nat) (hn : ((xs.length : Int) < cr ∧ n = xs.length) ∨ (cr ≤ xs.length ∧ cr = n)) (fin : Bool) (hfin : (xs.length ≤ n ∧ fin = true) ∨ (n < xs.length ∧ fin = false)) :
    Calls Try.prog 31 #[.pointer (some ⟨p, 0, none⟩)] w fun e w' => e = .returned (.tuple #[.string (strOfNums (xs.take n)), .bool (cl && fin && !dr)]) ∧ pipeAt w' p g b c (xs.drop n) (cr - n) cl (dr || (cl && fin && !dr)) ∧ Ch [g, b, p] w w' := by
  have c0 : w.cell? ⟨p, 0, none⟩ = some (.pointer (some ⟨g, 0, none⟩)) := h.blk.cell 0
  have c1 : w.cell? ⟨p, 1, none⟩ = some (.int .u64 cr) := h.blk.cell 1
  have c2 : w.cell? ⟨p, 2, none⟩ = some (.bool cl) := h.blk.cell 2
  have c3 : w.cell? ⟨p, 3, none⟩ = some (.bool dr) := h.blk.cell 3
  have hl := h.lt
  have hlo := h.lo
  have hhi := h.hi
  have hnl : n ≤ xs.length := by omega
  have hncr : (n : Int) ≤ cr := by omega
  have HLR : Hid (((xs.drop n).length : Int) = (xs.length : Int) - n) := by show _ = _; rw [List.length_drop]; omega
  have hz : (xs.length ≤ n ∧ fin = true) ∨ (n < xs.length ∧ fin = false) := hfin
  have hcases : ((xs.length : Int) < cr ∧ n ≤ xs.length ∧ xs.length ≤ n) ∨ (cr ≤ xs.length ∧ cr ≤ n ∧ (n : Int) ≤ cr) := by omega
  have hg1 : g ≠ p := Ne.symm hl.2.2.2.1
  have hb1 : b ≠ p := Ne.symm hl.2.2.2.2.1
  clear hn hfin
  cases cl <;> cases dr <;> rcases hz with ⟨hz, rfl⟩ | ⟨hz, rfl⟩ <;> rcases hcases with ⟨q1, q2, q3⟩ | ⟨q1, q2, q3⟩
  all_goals try (exfalso; omega)
  all_goals
    go_enter Try.func31, Try.ntmps31
    go_wp2_with fail
    refine wp_region_stagesE [([0, 1, 2, 3, 4, 5, 6, 7, 8, 9, 10, 11, 12, 13, 14, 15], 16, [])] [17] (by kernel_rfl) (by kernel_rfl) ?_
    refine wpStages_step ?_
    simp only [pick, List.map_cons, List.map_nil, List.getD_cons_zero, List.getD_cons_succ]
    repeat (go_big_quiet_step ((go_at_call 33; exact quiet_eq (ringBLen _ g b c xs (h.ring.heap rfl)))))
    refine wpQuiet_nil ?_
    intro n0
    simp only [pick, List.map_cons, List.map_nil, List.getD_cons_zero, List.getD_cons_succ]
    go_wp2_with (go_at_call 39; go_must ((with_reducible refine (ringBPopAs _ _ b c xs ?_ _ n (by omega) _ _ rfl rfl).mono ?_); exact h.ring.heap rfl; rintro e w2 ⟨A, cc, rfl, own, R2, C2⟩))
    have hz2 := C2.size
    simp only [World.heap_drewN] at hz2
    have hA : p ∉ blkOf A := fun hm => by have := (own.blks p hm).1; simp at this; omega
    have r2 : RdI .u8 w2 w2.heap.size A n (xs.take n) := Rd.ints own.rd
    have B2 := (h.blk.drewN n0).ch C2 (by simp; omega)
    have d0 : w2.cell? ⟨p, 0, none⟩ = some (.pointer (some ⟨g, 0, none⟩)) := B2.cell 0
    have d1 : w2.cell? ⟨p, 1, none⟩ = some (.int .u64 cr) := B2.cell 1
    have d2 := B2.cell 2
    have d3 := B2.cell 3
    simp only [List.getElem?_cons_succ, List.getElem?_cons_zero] at d2 d3
    have f1 := B2.frozen 1
    have f3 := B2.frozen 3
    refine stagePost_mk (by simp [pick]) ?_
    refine wpStages_last ?_
    simp only [pick, List.map_cons, List.map_nil, List.getD_cons_zero, List.getD_cons_succ]
    repeat (go_big_quiet_step (fail))
    refine wpQuiet_nil ?_
    intro n1
    go_wp2_with (first
      | (go_at_call 33; go_must ((with_reducible refine (ringBLenAs _ _ b c (xs.drop n) ?_ _ HLR.out).mono ?_); refine ringBAt.ch (S := [p]) (w := w2.drewN n1) (R2.heap rfl) ((Ch.refl [p] _).setCell (.inl (by simp)) _) ?_ ?_; simpa using hg1; simpa using hb1; rintro e w' ⟨rfl, rfl⟩))
      | (refine wpList_strOf rfl _ _ _ _ rfl Try.underlying64 Try.underlying5 Try.underlying9 A n cc w2.heap.size (xs.take n) rfl ?_ ?_; exact ((RdI.heap r2 rfl).far (by simpa using hA) _).far (by simpa using hA) _))
    go_ret2
    have K2 : Ch [g, b, p] w w2 := ((Ch.refl [g, b, p] w).drewN n0).trans (C2.mono (fun k _ hk => by simp at hk ⊢; omega))
    refine ⟨rfl, ⟨((B2.drewN n1).set 1 _).set 3 _, ringBAt.ch (S := [p]) R2 ((((Ch.refl [p] w2).drewN n1).setCell (.inl (by simp)) _).setCell (.inl (by simp)) _) (by simpa using hg1) (by simpa using hb1), by omega, by omega⟩, ((K2.drewN n1).setCell (.inl (by simp)) _).setCell (.inl (by simp)) _⟩

theorem pipeRead : Calls Try.prog 31 #[.pointer (some ⟨p, 0, none⟩)] w fun e w' => e = .returned (.tuple #[.string (strOfNums (xs.take (min cr.toNat xs.length))), .bool (cl && decide (xs.length ≤ min cr.toNat xs.length) && !dr)]) ∧
    pipeAt w' p g b c (xs.drop (min cr.toNat xs.length)) (cr - (min cr.toNat xs.length : Nat)) cl (dr || (cl && decide (xs.length ≤ min cr.toNat xs.length) && !dr)) ∧ Ch [g, b, p] w w' := by
  have hlo := h.lo
  refine pipeReadM w p g b c xs cr cl dr h (min cr.toNat xs.length) (by omega) _ ?_
  by_cases e : xs.length ≤ min cr.toNat xs.length
  · exact .inl ⟨e, by simpa using e⟩
  · exact .inr ⟨by omega, by simpa using e⟩
end
end Go.Proofs.Ytlgbijakljohlaa
