/- The request laws' agrees and awake; the walk of RequestParses. -/
import Derived.Test.YtiffpjlmgeklkaaDoorReqR
import Derived.Test.YtiffpjlmgeklkaaDoorLawRply
import Derived.Test.YtiffpjlmgeklkaaDoorTgtG
import Derived.Test.YtiffpjlmgeklkaaDoorArgs6
namespace Go.Proofs.YtiffpjlmgeklkaaDoor
open Go.ChangeShapes Go.WideShapes Go.ChangeAt Go.RowKit

theorem parseQ_tgt16 (l : List Int) : (parseQ l).1.2.2.1.length = 16 := by
  have h := parse_tgt16 (l.drop 3)
  unfold parseQ
  split
  · rfl
  · split
    · rfl
    · split
      · rfl
      · split
        · rfl
        · split
          · rfl
          · split
            · rfl
            · split
              · rfl
              · split
                · exact h
                · exact h

set_option maxRecDepth 100000 in
set_option maxHeartbeats 4000000 in
theorem agrees19 (s : ByteArray) (hs : s.size ≤ 1000000000000000) (w : World) : Calls Tryd.prog 21 #[.string s] w fun e w' => e = .returned (.bool true) ∧ Ch [] w w' := by
  have h1 := reqP s hs
  have h2 := reqR s hs
  have l1 := parseQ_tgt16 (numsOf s)
  generalize parseQ (numsOf s) = r at h1 h2 l1
  obtain ⟨t, c, n, st⟩ := r
  have g1 : ∀ w, Calls Tryd.prog 24 #[.string s] w fun e w' => e = .returned (.tuple #[.agg (tgtC t).toArray, .int .i64 c, .int .i64 n, .int .i64 st]) ∧ Ch [] w w' := h1
  have g2 : ∀ w, Calls Tryd.prog 34 #[.string s] w fun e w' => e = .returned (.tuple #[.agg (tgtC t).toArray, .int .i64 c, .int .i64 n, .int .i64 st]) ∧ Ch [] w w' := h2
  have eq1 := fun w => tgt_same t l1 w
  have H1 := hid g1
  have H2 := hid g2
  have I1 := hid (tgt_inf l1)
  clear h1 h2 g1 g2
  go_enter Tryd.func21, Tryd.ntmps21
  go_wp2_with (first
    | (refine wpList_loadB rfl 26 _ rfl w1.heap.size 26 (tgtC t) _ rfl B1d Tryd.underlying26 rfl I1.out ?_)
    | (refine wpList_loadB rfl 26 _ rfl w3.heap.size 26 (tgtC t) _ rfl B2 Tryd.underlying26 rfl I1.out ?_)
    | (refine wpList_storeB rfl 26 _ _ rfl w3.heap.size 26 (tgtC tgt0) (tgtC t) rfl rfl (Blk.new _ _ _) I1.out ((tgt_len (t := tgt0) rfl).trans (tgt_len l1).symm) (tgt_one _) ?_; intro w4 B2 K4 Zw4; have C4 := ((C2.trans C3).alloc _).step K4 (fun i hi => .inr (by simp at hi; omega)); have B1d := (B1c.alloc _).ch K4 (by simp; omega))
    | (go_at_call 34; (with_reducible refine (H2.out _).mono ?_); rintro e w3 ⟨rfl, C3⟩; have z3 := (C2.trans C3).size; have B1c := B1.ch C3 (by simp); have lt3 := B1c.lt)
    | (refine wpList_storeB rfl 26 _ _ rfl w1.heap.size 26 (tgtC tgt0) (tgtC t) rfl rfl (Blk.new _ _ _) I1.out ((tgt_len (t := tgt0) rfl).trans (tgt_len l1).symm) (tgt_one _) ?_; intro w2 B1 K2 Zw2; have C2 := (C1.alloc _).step K2 (fun i hi => .inr (by simp at hi; omega)))
    | (go_at_call 24; (with_reducible refine (H1.out _).mono ?_); rintro e w1 ⟨rfl, C1⟩; have z1 := C1.size))
  go_ret
  exact ⟨rfl, C4⟩

set_option maxRecDepth 100000 in
set_option maxHeartbeats 4000000 in
theorem awake19 (w : World) : Calls Tryd.prog 20 #[] w fun e w' => e = .returned (.bool true) ∧ Ch [] w w' := by
  have g1 : ∀ w, Calls Tryd.prog 24 #[.string ⟨#[5, 1, 0, 1, 1, 2, 3, 4, 0, 80]⟩] w fun e w' => e = .returned (.tuple #[.agg (tgtC tgtX).toArray, .int .i64 0, .int .i64 10, .int .i64 1]) ∧ Ch [] w w' := fun w => by
    have := reqP ⟨#[5, 1, 0, 1, 1, 2, 3, 4, 0, 80]⟩ (by decide) w
    rw [show parseQ (numsOf ⟨#[5, 1, 0, 1, 1, 2, 3, 4, 0, 80]⟩) = (tgtX, 0, 10, 1) from rfl] at this
    exact this
  have g2 : ∀ w, Calls Tryd.prog 24 #[.string ⟨#[5, 1, 0, 9]⟩] w fun e w' => e = .returned (.tuple #[.agg (tgtC tgt0).toArray, .int .i64 8, .int .i64 4, .int .i64 1]) ∧ Ch [] w w' := fun w => reqP ⟨#[5, 1, 0, 9]⟩ (by decide) w
  have g3 : ∀ w, Calls Tryd.prog 24 #[.string ⟨#[5, 1, 1]⟩] w fun e w' => e = .returned (.tuple #[.agg (tgtC tgt0).toArray, .int .i64 0, .int .i64 0, .int .i64 2]) ∧ Ch [] w w' := fun w => reqP ⟨#[5, 1, 1]⟩ (by decide) w
  have eq1 : ∀ w, (Op.equalIn 10000 26 (.agg (tgtC tgtX).toArray) (.agg #[.string ⟨#[]⟩, .bool false, .int .u8 1, .int .u8 2, .int .u8 3, .int .u8 4, .int .u8 0, .int .u8 0, .int .u8 0, .int .u8 0, .int .u8 0, .int .u8 0, .int .u8 0, .int .u8 0, .int .u8 0, .int .u8 0, .int .u8 0, .int .u8 0, .int .i64 80])).run Tryd.prog w = .ok true w := fun w => tgt_same tgtX rfl w
  have H1 := hid g1
  have H2 := hid g2
  have H3 := hid g3
  clear g1 g2 g3
  go_enter Tryd.func20, Tryd.ntmps20
  go_wp2_with (first
    | (refine wpList_loadB rfl 26 _ rfl w1.heap.size 26 (tgtC tgtX) _ rfl B1f Tryd.underlying26 rfl (tgt_inf rfl) ?_)
    | (refine wpList_storeB rfl 26 _ _ rfl w5.heap.size 26 (tgtC tgt0) (tgtC tgt0) rfl rfl (Blk.new _ _ _) (tgt_inf rfl) rfl (tgt_one _) ?_; intro w6 B3 K6 Zw6; have C6 := ((C4.trans C5).alloc _).step K6 (fun i hi => .inr (by simp at hi; omega)); have B1f := (B1e.alloc _).ch K6 (by simp; omega))
    | (go_at_call 24; (with_reducible refine (H3.out _).mono ?_); rintro e w5 ⟨rfl, C5⟩; have z5 := (C4.trans C5).size; have B1e := B1d.ch C5 (by simp); have lt5 := B1e.lt)
    | (refine wpList_storeB rfl 26 _ _ rfl w3.heap.size 26 (tgtC tgt0) (tgtC tgt0) rfl rfl (Blk.new _ _ _) (tgt_inf rfl) rfl (tgt_one _) ?_; intro w4 B2 K4 Zw4; have C4 := ((C2.trans C3).alloc _).step K4 (fun i hi => .inr (by simp at hi; omega)); have B1d := (B1c.alloc _).ch K4 (by simp; omega))
    | (go_at_call 24; (with_reducible refine (H2.out _).mono ?_); rintro e w3 ⟨rfl, C3⟩; have z3 := (C2.trans C3).size; have B1c := B1.ch C3 (by simp); have lt3 := B1c.lt)
    | (refine wpList_storeB rfl 26 _ _ rfl w1.heap.size 26 (tgtC tgt0) (tgtC tgtX) rfl rfl (Blk.new _ _ _) (tgt_inf rfl) rfl (tgt_one _) ?_; intro w2 B1 K2 Zw2; have C2 := (C1.alloc _).step K2 (fun i hi => .inr (by simp at hi; omega)))
    | (go_at_call 24; (with_reducible refine (H1.out _).mono ?_); rintro e w1 ⟨rfl, C1⟩; have z1 := C1.size))
  go_ret
  exact ⟨rfl, C6⟩

set_option maxRecDepth 100000 in
set_option maxHeartbeats 4000000 in
theorem requestParses_came {H : Type} {enc : TypeId × Value → H} (W : World) (args : Array Value) (ds : List (DataW H)) (_ : laidMetH Tryd.prog Rows.requestParsesRow.laid W) (h : Came enc Tryd.prog Tryd.f7 W args ds) :
    Calls Tryd.prog 7 args W fun e W' => e = .returned (.bool true) ∧ Below W.heap.size W W' := by
  obtain ⟨v0, v1, v2, v3, v4, v5, d0, d1, d2, d3, d4, d5, rfl, a0, a1, a2, a3, a4, a5⟩ := h.args6 rfl
  obtain ⟨s, rfl, hs⟩ := a0.string Tryd.underlying9
  obtain ⟨x, rfl, hxw⟩ := a1.int Tryd.underlying5
  obtain ⟨y, rfl, hyw⟩ := a2.int Tryd.underlying5
  obtain ⟨z, rfl, hzw⟩ := a3.int Tryd.underlying5
  obtain ⟨A, len, cap, zs, rfl, hl, hc, hb, hr, hz⟩ := a4.ints Tryd.underlying34 Tryd.underlying5 (by kernel_rfl)
  obtain ⟨n, rfl, hn, hn'⟩ := a5.i64 Tryd.underlying3
  obtain ⟨hx0, hx1⟩ := bounds_u8 hxw
  obtain ⟨hy0, hy1⟩ := bounds_u8 hyw
  obtain ⟨hz0, hz1⟩ := bounds_u8 hzw
  obtain ⟨S, hS⟩ : ∃ S, strOfNums zs = S := ⟨_, rfl⟩
  have hcb : cap ≤ 140737488351232 := by
    have : Tryd.prog.bytesOf 5 = 1 := by kernel_rfl
    rw [this, Nat.mul_one] at hb; exact hb
  have hS1 : S.size ≤ 140737488351232 := by rw [← hS, strOf_size, hr.1]; omega
  clear h a0 a1 a2 a3 a4 a5 hxw hyw hzw hz hb
  obtain ⟨a, ha⟩ : ∃ a, x % 4 = a := ⟨_, rfl⟩
  obtain ⟨c, hcd⟩ : ∃ c, y % 6 = c := ⟨_, rfl⟩
  obtain ⟨d, hd⟩ : ∃ d, z % 40 = d := ⟨_, rfl⟩
  have ha0 : 0 ≤ a ∧ a ≤ 3 := by omega
  have hc0 : 0 ≤ c ∧ c ≤ 5 := by omega
  have hd0 : 0 ≤ d ∧ d ≤ 39 := by omega
  obtain ⟨R, hR⟩ : ∃ R, strOfNums [a, 0, c] = R := ⟨_, rfl⟩
  have hRs : R.size = 3 := by rw [← hR, strOf_size]; rfl
  obtain ⟨D, hD⟩ : ∃ D, strOfNums [d] = D := ⟨_, rfl⟩
  have hDs : D.size = 1 := by rw [← hD, strOf_size]; rfl
  obtain ⟨q, hq⟩ : ∃ q, IntKind.u64.wrap n = q := ⟨_, rfl⟩
  have q01 : 0 ≤ q ∧ q ≤ 18446744073709551615 := by rw [← hq, IntKind.wrap_u64]; omega
  obtain ⟨q0, q1⟩ := q01
  have s5 : (⟨#[5]⟩ : ByteArray).size = 1 := rfl
  by_cases h3 : c = 3
  · subst h3
    have CT := ((Ch.refl [] W).alloc (.cells #[.int .u8 a, .int .u8 0, .int .u8 3] 5)).alloc (.cells #[.int .u8 d] 5)
    have hr2 := hr.ch CT (Nat.le_refl _) (by simp)
    have gm : S.size + s.size ≤ maxLen := by unfold maxLen; omega
    have gm2 : (⟨#[5]⟩ : ByteArray).size + R.size ≤ maxLen := by unfold maxLen; omega
    have gm4 : (⟨#[5]⟩ : ByteArray).size + R.size + D.size ≤ maxLen := by unfold maxLen; omega
    have gm3 : (⟨#[5]⟩ : ByteArray).size + R.size + D.size + (S.size + s.size) ≤ maxLen := by unfold maxLen; omega
    obtain ⟨m, hm⟩ : ∃ m : Nat, q % (5 + ((S.size : Int) + s.size) + 1) = m := ⟨(q % (5 + ((S.size : Int) + s.size) + 1)).toNat, by have := Int.emod_nonneg q (show (5 + ((S.size : Int) + s.size) + 1) ≠ 0 by omega); omega⟩
    have hm1 : (m : Int) ≤ 5 + (S.size + s.size) := by have := Int.emod_lt_of_pos q (show 0 < (5 + ((S.size : Int) + s.size) + 1) by omega); omega
    go_enter Tryd.func7, Tryd.ntmps7
    go_wp2_with (first
      | (refine wpList_strOf rfl 34 9 5 _ rfl Tryd.underlying34 Tryd.underlying5 Tryd.underlying9 _ 3 3 _ [a, 0, 3] rfl (three_rdAt _ _ _ _ _ _ rfl) ?_; rw [hR])
      | (refine wpList_strOf rfl 34 9 5 _ rfl Tryd.underlying34 Tryd.underlying5 Tryd.underlying9 _ 1 1 _ [d] rfl (one_rdAt _ d _ _ (by simp)) ?_; rw [hD])
      | (refine wpList_strOf rfl 34 9 5 _ rfl Tryd.underlying34 Tryd.underlying5 Tryd.underlying9 A len cap W.heap.size zs rfl hr2 ?_; rw [hS])
      | (go_at_call 20; (with_reducible refine (awake19 _).mono ?_); rintro e w1 ⟨rfl, C1⟩; replace CT := CT.trans C1)
      | (go_at_call 21; (with_reducible refine (agrees19 _ (by simp only [ByteArray.size_append, ByteArray.size_extract]; omega) _).mono ?_); rintro e w1 ⟨rfl, C1⟩; replace CT := CT.trans C1)
      | (go_at_call 21; (with_reducible refine (agrees19 _ (by omega) _).mono ?_); rintro e w1 ⟨rfl, C1⟩; replace CT := CT.trans C1))
    go_ret
    exact ⟨rfl, CT.nil_below⟩
  · have h3' : (c == 3) = false := by simpa using h3
    clear h3
    have CT := (Ch.refl [] W).alloc (.cells #[.int .u8 a, .int .u8 0, .int .u8 c] 5)
    have hr2 := hr.ch CT (Nat.le_refl _) (by simp)
    have gm : S.size + s.size ≤ maxLen := by unfold maxLen; omega
    have gm2 : (⟨#[5]⟩ : ByteArray).size + R.size ≤ maxLen := by unfold maxLen; omega
    have gm3 : (⟨#[5]⟩ : ByteArray).size + R.size + (S.size + s.size) ≤ maxLen := by unfold maxLen; omega
    obtain ⟨m, hm⟩ : ∃ m : Nat, q % (4 + ((S.size : Int) + s.size) + 1) = m := ⟨(q % (4 + ((S.size : Int) + s.size) + 1)).toNat, by have := Int.emod_nonneg q (show (4 + ((S.size : Int) + s.size) + 1) ≠ 0 by omega); omega⟩
    have hm1 : (m : Int) ≤ 4 + (S.size + s.size) := by have := Int.emod_lt_of_pos q (show 0 < (4 + ((S.size : Int) + s.size) + 1) by omega); omega
    go_enter Tryd.func7, Tryd.ntmps7
    go_wp2_with (first
      | (refine wpList_strOf rfl 34 9 5 _ rfl Tryd.underlying34 Tryd.underlying5 Tryd.underlying9 _ 3 3 _ [a, 0, c] rfl (three_rdAt _ _ _ _ _ _ rfl) ?_; rw [hR])
      | (refine wpList_strOf rfl 34 9 5 _ rfl Tryd.underlying34 Tryd.underlying5 Tryd.underlying9 A len cap W.heap.size zs rfl hr2 ?_; rw [hS])
      | (go_at_call 20; (with_reducible refine (awake19 _).mono ?_); rintro e w1 ⟨rfl, C1⟩; replace CT := CT.trans C1)
      | (go_at_call 21; (with_reducible refine (agrees19 _ (by simp only [ByteArray.size_append, ByteArray.size_extract]; omega) _).mono ?_); rintro e w1 ⟨rfl, C1⟩; replace CT := CT.trans C1)
      | (go_at_call 21; (with_reducible refine (agrees19 _ (by omega) _).mono ?_); rintro e w1 ⟨rfl, C1⟩; replace CT := CT.trans C1))
    go_ret
    exact ⟨rfl, CT.nil_below⟩
end Go.Proofs.YtiffpjlmgeklkaaDoor
