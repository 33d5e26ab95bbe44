/- The reply laws' agrees and awake; the walk of ReplyParses. -/
import Derived.Test.YtiffpjlmgeklkaaDoorRply
import Derived.Test.YtiffpjlmgeklkaaDoorTgtEq
import Derived.Test.YtiffpjlmgeklkaaDoorShellU
namespace Go.Proofs.YtiffpjlmgeklkaaDoor
open Go.ChangeShapes Go.WideShapes Go.ChangeAt Go.RowKit

theorem parseR_tgt16 (l : List Int) : (parseR l).2.1.2.2.1.length = 16 := by
  unfold parseR
  by_cases h1 : (0 < l.length ∧ at_ l 0 ≠ 5) ∨ (3 ≤ l.length ∧ at_ l 2 ≠ 0)
  · rw [if_pos h1]; rfl
  · rw [if_neg h1]
    by_cases h2 : l.length < 3
    · rw [if_pos h2]; rfl
    · rw [if_neg h2]
      by_cases h3 : (parseT (l.drop 3)).2.2 ≠ 1
      · rw [if_pos h3]; rfl
      · rw [if_neg h3]; exact parse_tgt16 _

set_option maxRecDepth 100000 in
set_option maxHeartbeats 4000000 in
theorem agrees18 (s : ByteArray) (hs : s.size ≤ 1000000000000000) (w : World) : Calls Tryd.prog 16 #[.string s] w fun e w' => e = .returned (.bool true) ∧ Ch [] w w' := by
  have h1 := parseTP s hs
  have h2 := parseTR s hs
  have h3 := replyP s hs
  have h4 := replyR s hs
  have l1 := parse_tgt16 (numsOf s)
  have l2 := parseR_tgt16 (numsOf s)
  generalize parseT (numsOf s) = r at h1 h2 l1
  generalize parseR (numsOf s) = q at h3 h4 l2
  obtain ⟨t, n, st⟩ := r
  obtain ⟨c, u, m, su⟩ := q
  have g1 : ∀ w, Calls Tryd.prog 14 #[.string s] w fun e w' => e = .returned (.tuple #[.agg (tgtC t).toArray, .int .i64 n, .int .i64 st]) ∧ Ch [] w w' := h1
  have g2 : ∀ w, Calls Tryd.prog 32 #[.string s] w fun e w' => e = .returned (.tuple #[.agg (tgtC t).toArray, .int .i64 n, .int .i64 st]) ∧ Ch [] w w' := h2
  have g3 : ∀ w, Calls Tryd.prog 19 #[.string s] w fun e w' => e = .returned (.tuple #[.int .i64 c, .agg (tgtC u).toArray, .int .i64 m, .int .i64 su]) ∧ Ch [] w w' := h3
  have g4 : ∀ w, Calls Tryd.prog 33 #[.string s] w fun e w' => e = .returned (.tuple #[.int .i64 c, .agg (tgtC u).toArray, .int .i64 m, .int .i64 su]) ∧ Ch [] w w' := h4
  have i1 := tgt_inf l1
  have i2 := tgt_inf l2
  have eq1 := fun w => tgt_same t l1 w
  have eq2 := fun w => tgt_same u l2 w
  have H1 := hid g1
  have H2 := hid g2
  have H3 := hid g3
  have H4 := hid g4
  have I1 := hid i1
  have I2 := hid i2
  clear h1 h2 h3 h4 g1 g2 g3 g4 i1 i2
  go_enter Tryd.func16, Tryd.ntmps16
  go_wp2_with (first
    | (refine wpList_loadB rfl 26 _ rfl w1.heap.size 26 (tgtC t) _ rfl B1h Tryd.underlying26 rfl I1.out ?_)
    | (refine wpList_loadB rfl 26 _ rfl w3.heap.size 26 (tgtC t) _ rfl B2h Tryd.underlying26 rfl I1.out ?_)
    | (refine wpList_load_want rfl 26 _ rfl w5.heap.size 0 rfl (tgtC u) _ B3h.range Tryd.underlying26 rfl I2.out ?_)
    | (refine wpList_load_want rfl 26 _ rfl w7.heap.size 0 rfl (tgtC u) _ B4.range Tryd.underlying26 rfl I2.out ?_)
    | (refine wpList_storeB rfl 26 _ _ rfl w7.heap.size 26 (tgtC tgt0) (tgtC u) rfl rfl (Blk.new _ _ _) I2.out ((tgt_len (t := tgt0) rfl).trans (tgt_len l2).symm) (tgt_one _) ?_; intro w8 B4 K8 Zw8; have C8 := ((C6.trans C7).alloc _).step K8 (fun i hi => .inr (by simp at hi; omega)); have B1h := (B1g.alloc _).ch K8 (by simp; omega); have B2h := (B2g.alloc _).ch K8 (by simp; omega); have B3h := (B3g.alloc _).ch K8 (by simp; omega))
    | (go_at_call 33; (with_reducible refine (H4.out _).mono ?_); rintro e w7 ⟨rfl, C7⟩; have z7 := (C6.trans C7).size; have B1g := B1f.ch C7 (by simp); have B2g := B2f.ch C7 (by simp); have B3g := B3.ch C7 (by simp); have lt7 := B1g.lt; have lt7b := B2g.lt; have lt7c := B3g.lt)
    | (refine wpList_storeB rfl 26 _ _ rfl w5.heap.size 26 (tgtC tgt0) (tgtC u) rfl rfl (Blk.new _ _ _) I2.out ((tgt_len (t := tgt0) rfl).trans (tgt_len l2).symm) (tgt_one _) ?_; intro w6 B3 K6 Zw6; have C6 := ((C4.trans C5).alloc _).step K6 (fun i hi => .inr (by simp at hi; omega)); have B1f := (B1e.alloc _).ch K6 (by simp; omega); have B2f := (B2e.alloc _).ch K6 (by simp; omega))
    | (go_at_call 19; (with_reducible refine (H3.out _).mono ?_); rintro e w5 ⟨rfl, C5⟩; have z5 := (C4.trans C5).size; have B1e := B1d.ch C5 (by simp); have B2e := B2.ch C5 (by simp); have lt5 := B1e.lt; have lt5b := B2e.lt)
    | (refine wpList_storeB rfl 26 _ _ rfl w3.heap.size 26 (tgtC tgt0) (tgtC t) rfl rfl (Blk.new _ _ _) I1.out ((tgt_len (t := tgt0) rfl).trans (tgt_len l1).symm) (tgt_one _) ?_; intro w4 B2 K4 Zw4; have C4 := ((C2.trans C3).alloc _).step K4 (fun i hi => .inr (by simp at hi; omega)); have B1d := (B1c.alloc _).ch K4 (by simp; omega))
    | (go_at_call 32; (with_reducible refine (H2.out _).mono ?_); rintro e w3 ⟨rfl, C3⟩; have z3 := (C2.trans C3).size; have B1c := B1.ch C3 (by simp); have lt3 := B1c.lt)
    | (refine wpList_storeB rfl 26 _ _ rfl w1.heap.size 26 (tgtC tgt0) (tgtC t) rfl rfl (Blk.new _ _ _) I1.out ((tgt_len (t := tgt0) rfl).trans (tgt_len l1).symm) (tgt_one _) ?_; intro w2 B1 K2 Zw2; have C2 := (C1.alloc _).step K2 (fun i hi => .inr (by simp at hi; omega)))
    | (go_at_call 14; (with_reducible refine (H1.out _).mono ?_); rintro e w1 ⟨rfl, C1⟩; have z1 := C1.size))
  go_ret
  exact ⟨rfl, C8⟩

def tgtX : Tgt := (⟨#[]⟩, false, [1, 2, 3, 4, 0, 0, 0, 0, 0, 0, 0, 0, 0, 0, 0, 0], 80)
set_option maxRecDepth 100000 in
set_option maxHeartbeats 4000000 in
theorem awake18 (w : World) : Calls Tryd.prog 15 #[] w fun e w' => e = .returned (.bool true) ∧ Ch [] w w' := by
  have g1 : ∀ w, Calls Tryd.prog 14 #[.string ⟨#[5]⟩] w fun e w' => e = .returned (.tuple #[.agg (tgtC tgt0).toArray, .int .i64 0, .int .i64 2]) ∧ Ch [] w w' := fun w => parseTP ⟨#[5]⟩ (by decide) w
  have g2 : ∀ w, Calls Tryd.prog 14 #[.string ⟨#[3, 1]⟩] w fun e w' => e = .returned (.tuple #[.agg (tgtC tgt0).toArray, .int .i64 0, .int .i64 0]) ∧ Ch [] w w' := fun w => parseTP ⟨#[3, 1]⟩ (by decide) w
  have g3 : ∀ w, Calls Tryd.prog 14 #[.string ⟨#[1, 1, 2, 3, 4, 0, 80, 122]⟩] w fun e w' => e = .returned (.tuple #[.agg (tgtC tgtX).toArray, .int .i64 7, .int .i64 1]) ∧ Ch [] w w' := fun w => by
    have := parseTP ⟨#[1, 1, 2, 3, 4, 0, 80, 122]⟩ (by decide) w
    rw [show parseT (numsOf ⟨#[1, 1, 2, 3, 4, 0, 80, 122]⟩) = (tgtX, 7, 1) from rfl] at this
    exact this
  have g4 := fun w => rplyZero 5 (by omega) (by omega) w
  rw [show strOfNums [5, 5, 0, 1, 0, 0, 0, 0, 0, 0] = (⟨#[5, 5, 0, 1, 0, 0, 0, 0, 0, 0]⟩ : ByteArray) from rfl] at g4
  have eq1 : ∀ w, (Op.equalIn 10000 26 (.agg (tgtC tgtX).toArray) (.agg #[.string ⟨#[]⟩, .bool false, .int .u8 1, .int .u8 2, .int .u8 3, .int .u8 4, .int .u8 0, .int .u8 0, .int .u8 0, .int .u8 0, .int .u8 0, .int .u8 0, .int .u8 0, .int .u8 0, .int .u8 0, .int .u8 0, .int .u8 0, .int .u8 0, .int .i64 80])).run Tryd.prog w = .ok true w := fun w => tgt_same tgtX rfl w
  have H1 := hid g1
  have H2 := hid g2
  have H3 := hid g3
  have H4 := hid g4
  clear g1 g2 g3 g4
  go_enter Tryd.func15, Tryd.ntmps15
  go_wp2_with (first
    | (refine wpList_load_want rfl 26 _ rfl w5.heap.size 0 rfl (tgtC tgtX) _ B3g.range Tryd.underlying26 rfl (tgt_inf rfl) ?_)
    | (go_at_call 17; (with_reducible refine (H4.out _).mono ?_); rintro e w7 ⟨rfl, C7⟩; have B3g := B3.ch C7 (by simp))
    | (refine wpList_storeB rfl 26 _ _ rfl w5.heap.size 26 (tgtC tgt0) (tgtC tgtX) rfl rfl (Blk.new _ _ _) (tgt_inf rfl) ((tgt_len (t := tgt0) rfl).trans (tgt_len (t := tgtX) rfl).symm) (tgt_one _) ?_; intro w6 B3 K6 Zw6; have C6 := ((C4.trans C5).alloc _).step K6 (fun i hi => .inr (by simp at hi; omega)))
    | (go_at_call 14; (with_reducible refine (H3.out _).mono ?_); rintro e w5 ⟨rfl, C5⟩; have z5 := (C4.trans C5).size)
    | (refine wpList_storeB rfl 26 _ _ rfl w3.heap.size 26 (tgtC tgt0) (tgtC tgt0) rfl rfl (Blk.new _ _ _) (tgt_inf rfl) ((tgt_len (t := tgt0) rfl).trans (tgt_len (t := tgt0) rfl).symm) (tgt_one _) ?_; intro w4 B2 K4 Zw4; have C4 := ((C2.trans C3).alloc _).step K4 (fun i hi => .inr (by simp at hi; omega)))
    | (go_at_call 14; (with_reducible refine (H2.out _).mono ?_); rintro e w3 ⟨rfl, C3⟩; have z3 := (C2.trans C3).size)
    | (refine wpList_storeB rfl 26 _ _ rfl w1.heap.size 26 (tgtC tgt0) (tgtC tgt0) rfl rfl (Blk.new _ _ _) (tgt_inf rfl) ((tgt_len (t := tgt0) rfl).trans (tgt_len (t := tgt0) rfl).symm) (tgt_one _) ?_; intro w2 B1 K2 Zw2; have C2 := (C1.alloc _).step K2 (fun i hi => .inr (by simp at hi; omega)))
    | (go_at_call 14; (with_reducible refine (H1.out _).mono ?_); rintro e w1 ⟨rfl, C1⟩; have z1 := C1.size))
  go_ret
  exact ⟨rfl, C6.trans C7⟩

theorem one_rdAt (w : World) (v : Int) (e : TypeId) (g : Nat) (hg : w.heap.size = g) : RdI .u8 (w.alloc (.cells #[.int .u8 v] e)) (g + 1) (some ⟨g, 0, none⟩) 1 [v] := by
  subst hg
  exact blk_ints (Blk.new w e [.int .u8 v]) 0 1 [v] rfl (fun i hi => by
    obtain rfl : i = 0 := by simpa using hi
    rfl)
theorem one_rd (w : World) (v : Int) (e : TypeId) : RdI .u8 (w.alloc (.cells #[.int .u8 v] e)) (w.heap.size + 1) (some ⟨w.heap.size, 0, none⟩) 1 [v] :=
  blk_ints (Blk.new w e [.int .u8 v]) 0 1 [v] rfl (fun i hi => by
    obtain rfl : i = 0 := by simpa using hi
    rfl)
set_option maxRecDepth 100000 in
set_option maxHeartbeats 4000000 in
theorem replyParses_came {H : Type} {enc : TypeId × Value → H} (W : World) (args : Array Value) (ds : List (DataW H)) (_ : laidMetH Tryd.prog Rows.replyParsesRow.laid W) (h : Came enc Tryd.prog Tryd.f4 W args ds) :
    Calls Tryd.prog 4 args W fun e W' => e = .returned (.bool true) ∧ Below W.heap.size W W' := by
  obtain ⟨v0, v1, v2, v3, v4, d0, d1, d2, d3, d4, rfl, a0, a1, a2, a3, a4⟩ := h.args5 rfl
  obtain ⟨s, rfl, hs⟩ := a0.string Tryd.underlying9
  obtain ⟨x, rfl, hxw⟩ := a1.int Tryd.underlying5
  obtain ⟨y, rfl, hyw⟩ := a2.int Tryd.underlying5
  obtain ⟨A, len, cap, zs, rfl, hl, hc, hb, hr, hz⟩ := a3.ints Tryd.underlying34 Tryd.underlying5 (by kernel_rfl)
  obtain ⟨n, rfl, hn, hn'⟩ := a4.i64 Tryd.underlying3
  obtain ⟨hx0, hx1⟩ := bounds_u8 hxw
  obtain ⟨hy0, hy1⟩ := bounds_u8 hyw
  obtain ⟨S, hS⟩ : ∃ S, strOfNums zs = S := ⟨_, rfl⟩
  have hcb : cap ≤ 140737488351232 := by
    have : Tryd.prog.bytesOf 5 = 1 := by kernel_rfl
    rw [this, Nat.mul_one] at hb; exact hb
  have hS1 : S.size ≤ 140737488351232 := by rw [← hS, strOf_size, hr.1]; omega
  clear h a0 a1 a2 a3 a4 hxw hyw hz hb
  obtain ⟨K, hK, hKs, hK3⟩ : ∃ K : ByteArray, (⟨#[1, 3, 4]⟩ : ByteArray) = K ∧ K.size = 3 ∧ True := ⟨_, rfl, rfl, trivial⟩
  obtain ⟨r, hrr⟩ : ∃ r : Nat, x % 3 = r := ⟨(x % 3).toNat, by omega⟩
  have hr3 : r < 3 := by omega
  have hrK : (r : Int) + 1 ≤ K.size := by omega
  have hrr2 : (r : Int) ≤ r + 1 := by omega
  obtain ⟨k0, hk0⟩ : ∃ k, K.extract r (r + 1) = k := ⟨_, rfl⟩
  have hk0s : k0.size = 1 := by rw [← hk0, ByteArray.size_extract]; omega
  have hsl : ∀ w : World, (Instr.slice 9 (.string K) (some (.int .u8 (r : Int))) (some (.int .u8 ((r : Int) + 1))) none).run Tryd.prog w = .ok (.string k0) w := fun w => by
    rw [← hk0]
    have h0 : (0 : Int) ≤ r := by omega
    simp [Instr.slice, Instr.sliceBounds, run_underlying Tryd.underlying9, Sem.run_bind]
    rw [run_sliceBound w .u8 ((r : Int) + 1) K.size _ (by omega) hrK]
    simp only [Result.andThen_ok]
    rw [run_sliceBound w .u8 (r : Int) _ _ h0 (by omega)]
    simp only [Result.andThen_ok]
    rw [show ((r : Int) + 1).toNat = r + 1 by omega, Int.toNat_natCast]
  obtain ⟨b, hb⟩ : ∃ b, (k0.toList == [3]) = b := ⟨_, rfl⟩
  obtain ⟨X, hX⟩ : ∃ X, strOfNums [x] = X := ⟨_, rfl⟩
  have hXs : X.size = 1 := by rw [← hX, strOf_size]; rfl
  obtain ⟨Y, hY⟩ : ∃ Y, strOfNums [y] = Y := ⟨_, rfl⟩
  have hYs : Y.size = 1 := by rw [← hY, strOf_size]; rfl
  obtain ⟨q, hq⟩ : ∃ q, IntKind.u64.wrap n = q := ⟨_, rfl⟩
  have q01 : 0 ≤ q ∧ q ≤ 18446744073709551615 := by rw [← hq, IntKind.wrap_u64]; omega
  obtain ⟨q0, q1⟩ := q01
  have CT := Ch.refl [] W
  cases b
  · have gm : k0.size + S.size + s.size ≤ maxLen := by unfold maxLen; omega
    have gm2 : k0.size + S.size ≤ maxLen := by unfold maxLen; omega
    have CT := (Ch.refl [] W).alloc (.cells #[.int .u8 x] 5)
    obtain ⟨m, hm⟩ : ∃ m : Nat, q % (1 + (S.size : Int) + s.size + 1) = m := ⟨(q % (1 + (S.size : Int) + s.size + 1)).toNat, by have := Int.emod_nonneg q (show (1 + (S.size : Int) + s.size + 1) ≠ 0 by omega); omega⟩
    have hm1 : (m : Int) ≤ 1 + S.size + s.size := by have := Int.emod_lt_of_pos q (show 0 < (1 + (S.size : Int) + s.size + 1) by omega); omega
    have s5 : (⟨#[5]⟩ : ByteArray).size = 1 := rfl
    have s0 : (⟨#[0]⟩ : ByteArray).size = 1 := rfl
    go_enter Tryd.func4, Tryd.ntmps4
    go_wp2_with (first
      | (refine wpList_strOf rfl 34 9 5 _ rfl Tryd.underlying34 Tryd.underlying5 Tryd.underlying9 _ 1 1 _ [x] rfl (one_rdAt _ x _ _ (by simp)) ?_; rw [hX])
      | (refine wpList_strOf rfl 34 9 5 _ rfl Tryd.underlying34 Tryd.underlying5 Tryd.underlying9 A len cap W.heap.size zs rfl hr ?_; rw [hS])
      | (go_at_call 15; (with_reducible refine (awake18 _).mono ?_); rintro e w1 ⟨rfl, C1⟩; replace CT := CT.trans C1)
      | (go_at_call 16; (with_reducible refine (agrees18 _ (by simp only [ByteArray.size_append, ByteArray.size_extract]; omega) _).mono ?_); rintro e w1 ⟨rfl, C1⟩; replace CT := CT.trans C1)
      | (go_at_call 16; (with_reducible refine (agrees18 _ (by omega) _).mono ?_); rintro e w1 ⟨rfl, C1⟩; replace CT := CT.trans C1))
    go_ret
    exact ⟨rfl, CT.nil_below⟩
  · have CT := ((Ch.refl [] W).alloc (.cells #[.int .u8 y] 5)).alloc (.cells #[.int .u8 x] 5)
    have hr2 := hr.ch ((Ch.refl [] W).alloc (.cells #[.int .u8 y] 5)) (Nat.le_refl _) (by simp)
    obtain ⟨m, hm⟩ : ∃ m : Nat, q % (2 + (S.size : Int) + s.size + 1) = m := ⟨(q % (2 + (S.size : Int) + s.size + 1)).toNat, by have := Int.emod_nonneg q (show (2 + (S.size : Int) + s.size + 1) ≠ 0 by omega); omega⟩
    have hm1 : (m : Int) ≤ 2 + S.size + s.size := by have := Int.emod_lt_of_pos q (show 0 < (2 + (S.size : Int) + s.size + 1) by omega); omega
    have s5 : (⟨#[5]⟩ : ByteArray).size = 1 := rfl
    have s0 : (⟨#[0]⟩ : ByteArray).size = 1 := rfl
    go_enter Tryd.func4, Tryd.ntmps4
    go_wp2_with (first
      | (refine wpList_strOf rfl 34 9 5 _ rfl Tryd.underlying34 Tryd.underlying5 Tryd.underlying9 _ 1 1 _ [x] rfl (one_rdAt _ x _ _ (by simp)) ?_; rw [hX])
      | (refine wpList_strOf rfl 34 9 5 _ rfl Tryd.underlying34 Tryd.underlying5 Tryd.underlying9 A len cap W.heap.size zs rfl hr2 ?_; rw [hS])
      | (refine wpList_strOf rfl 34 9 5 _ rfl Tryd.underlying34 Tryd.underlying5 Tryd.underlying9 _ 1 1 _ [y] rfl (one_rd _ y _) ?_; rw [hY])
      | (go_at_call 15; (with_reducible refine (awake18 _).mono ?_); rintro e w1 ⟨rfl, C1⟩; replace CT := CT.trans C1)
      | (go_at_call 16; (with_reducible refine (agrees18 _ (by simp only [ByteArray.size_append, ByteArray.size_extract]; omega) _).mono ?_); rintro e w1 ⟨rfl, C1⟩; replace CT := CT.trans C1)
      | (go_at_call 16; (with_reducible refine (agrees18 _ (by omega) _).mono ?_); rintro e w1 ⟨rfl, C1⟩; replace CT := CT.trans C1))
    go_ret
    exact ⟨rfl, CT.nil_below⟩
end Go.Proofs.YtiffpjlmgeklkaaDoor
