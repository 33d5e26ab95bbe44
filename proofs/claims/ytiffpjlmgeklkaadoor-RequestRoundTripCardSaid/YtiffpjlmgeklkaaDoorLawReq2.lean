/- The walk of RequestRoundTrip. -/
import Derived.Test.YtiffpjlmgeklkaaDoorLawReq
import Derived.Test.YtiffpjlmgeklkaaDoorReqE
import Derived.Test.YtiffpjlmgeklkaaDoorVTgt
import Derived.Test.YtiffpjlmgeklkaaDoorLawRply2
namespace Go.Proofs.YtiffpjlmgeklkaaDoor
open Go.ChangeShapes Go.WideShapes Go.ChangeAt Go.RowKit

theorem encT_head (t : Tgt) (_hg : GoodT t) (r : List Int) : 1 ≤ (encT' t ++ r).length ∧ (at_ (encT' t ++ r) 0 = 1 ∨ at_ (encT' t ++ r) 0 = 3 ∨ at_ (encT' t ++ r) 0 = 4) := by
  unfold encT' headT
  split
  · exact ⟨by simp, .inr (.inl rfl)⟩
  · split
    · exact ⟨by simp, .inr (.inr rfl)⟩
    · exact ⟨by simp, .inl rfl⟩
theorem parse_req (c : Int) (u : Tgt) (hg : GoodT u) (hok : okT u = true) (hb : backT u = u) (hp : 1 ≤ u.2.2.2) (hn : u.1.size = 0 ∨ namOk (numsOf u.1) = true ∧ canS u.1 = u.1) (r : List Int) :
    parseQ (5 :: c :: 0 :: (encT' u ++ r)) = if c ≠ 1 then (tgt0, 7, 3 + ((encT' u).length : Int), 1) else (u, 0, 3 + ((encT' u).length : Int), 1) := by
  obtain ⟨hl, hh⟩ := encT_head u hg r
  have hpe := parse_enc u hg hok r
  rw [hb] at hpe
  unfold parseQ
  have hd : (5 :: c :: 0 :: (encT' u ++ r)).drop 3 = encT' u ++ r := rfl
  have h3 : at_ (5 :: c :: 0 :: (encT' u ++ r)) 3 = at_ (encT' u ++ r) 0 := rfl
  have h1 : at_ (5 :: c :: 0 :: (encT' u ++ r)) 1 = c := rfl
  rw [hd, hpe, h3, h1, if_neg (by
    rintro (⟨_, g⟩ | ⟨_, g⟩)
    · exact g rfl
    · exact g rfl), if_neg (by simp only [List.length_cons]; omega), if_neg (by omega), if_neg (by simp)]
  by_cases hc : c ≠ 1
  · rw [if_pos hc, if_pos hc]
  · rw [if_neg hc, if_neg hc, if_neg (by
      rintro ⟨g1, g2⟩
      rcases hn with hn | ⟨hn, hn2⟩
      · exact g1 hn
      · rw [hn2, hn] at g2; cases g2), if_neg (by show ¬ u.2.2.2 = 0; omega)]
    rcases hn with hn | ⟨hn, hn2⟩
    · rw [if_neg (by simpa using hn)]
    · split
      · rw [hn2]
      · rfl
theorem encQ_bytes {c : Int} (hc : 0 ≤ c ∧ c ≤ 255) {t : Tgt} (hg : GoodT t) (h : okT t = true) : ∀ x ∈ 5 :: c :: 0 :: encT' t, 0 ≤ x ∧ x ≤ 255 := by
  intro x hx
  rcases List.mem_cons.1 hx with rfl | hx
  · omega
  rcases List.mem_cons.1 hx with rfl | hx
  · omega
  rcases List.mem_cons.1 hx with rfl | hx
  · omega
  exact encT_bytes hg h x hx

set_option maxRecDepth 100000 in
set_option maxHeartbeats 8000000 in
theorem requestRoundTrip_came {H : Type} {enc : TypeId × Value → H} (W : World) (args : Array Value) (ds : List (DataW H)) (_ : laidMetH Tryd.prog Rows.requestRoundTripRow.laid W) (h : Came enc Tryd.prog Tryd.f10 W args ds) :
    Calls Tryd.prog 10 args W fun e W' => e = .returned (.bool true) ∧ Below W.heap.size W W' := by
  obtain ⟨v0, v1, v2, v3, d0, d1, d2, d3, rfl, a0, a1, a2, a3⟩ := h.args4 rfl
  obtain ⟨t, rfl, hg, hns, _⟩ := a0.target
  obtain ⟨n, rfl, hn, hn'⟩ := a1.i64 Tryd.underlying3
  obtain ⟨c, rfl, hcw⟩ := a2.int Tryd.underlying5
  obtain ⟨b, rfl, hbs⟩ := a3.string Tryd.underlying9
  have hcb := bounds_u8 hcw
  clear h a0 a1 a2 a3 hcw
  have h1 := reqEnc c t hg (by omega)
  have h2 := refEncReq c t hg (by omega)
  generalize encReq c t = o at h1 h2
  have g1 : ∀ w, Calls Tryd.prog 26 #[.int .u8 c, .agg (tgtC t).toArray] w fun e w' => e = .returned (.tuple #[.string (strOfNums (o.getD [])), .bool o.isSome]) ∧ Ch [] w w' := h1
  have g2 : ∀ w, Calls Tryd.prog 25 #[.int .u8 c, .agg (tgtC t).toArray] w fun e w' => e = .returned (.tuple #[.string (strOfNums (o.getD [])), .bool o.isSome]) ∧ Ch [] w w' := h2
  generalize strOfNums (o.getD []) = X at g1 g2
  generalize o.isSome = y at g1 g2
  have H1 := hid g1
  have H2 := hid g2
  have I1 := hid (tgt_inf hg.1)
  clear h1 h2 g1 g2
  have B0 : Blk (W.alloc (.cells (tgtC t).toArray 26)) W.heap.size 26 (tgtC t) := Blk.new W _ _
  have C0 : Ch [] W (W.alloc (.cells (tgtC t).toArray 26)) := (Ch.refl _ _).alloc _
  generalize tgtC t = cs at H1 H2 I1 B0 C0 ⊢
  have HB : Hid (∀ u : Tgt, GoodT u → okT u = true → backT u = u → 1 ≤ u.2.2.2 → (u.1.size = 0 ∨ Nm u.1 ∧ u.2.1 = false ∧ u.2.2.1 = zeros) → ∃ E : ByteArray, E.size ≤ 262 ∧ (∀ w, Calls Tryd.prog 26 #[.int .u8 c, .agg (tgtC u).toArray] w fun e w' => e = .returned (.tuple #[.string E, .bool true]) ∧ Ch [] w w') ∧ (∀ w, Calls Tryd.prog 24 #[.string (E ++ b)] w fun e w' => e = .returned (rqV (if c ≠ 1 then (tgt0, 7, (E.size : Int), 1) else (u, 0, (E.size : Int), 1))) ∧ Ch [] w w')) := by
    intro u hu ok hback hp hnm
    have hns2 : u.1.size ≤ 255 := by
      have ok2 := ok
      simp only [okT, Bool.and_eq_true, decide_eq_true_eq] at ok2
      exact ok2.1.1.1
    have q1 := reqEnc c u hu (by omega)
    have hr : encReq c u = some (5 :: c :: 0 :: encT' u) := by unfold encReq; rw [if_pos ok]
    rw [hr] at q1
    have hE : (strOfNums (5 :: c :: 0 :: encT' u)).size = 3 + (encT' u).length := by rw [strOf_size]; simp only [List.length_cons]; omega
    have hle := encT_len hu ok
    refine ⟨strOfNums (5 :: c :: 0 :: encT' u), by omega, q1, fun w => ?_⟩
    have q2 := reqP (strOfNums (5 :: c :: 0 :: encT' u) ++ b) (by rw [ByteArray.size_append]; omega) w
    rw [nums_app, strOf_bytes _ (encQ_bytes hcb hu ok), show (5 :: c :: 0 :: encT' u) ++ numsOf b = 5 :: c :: 0 :: (encT' u ++ numsOf b) from rfl, parse_req c u hu ok hback hp (hnm.imp id (fun h => ⟨h.1.2.1, h.1.can⟩))] at q2
    rw [hE, show ((3 + (encT' u).length : Nat) : Int) = 3 + ((encT' u).length : Int) by omega]
    exact q2
  have eq0 : ∀ w, (Op.equalIn 10000 26 (.agg (tgtC tgt0).toArray) (.agg #[.string ⟨#[]⟩, .bool false, .int .u8 0, .int .u8 0, .int .u8 0, .int .u8 0, .int .u8 0, .int .u8 0, .int .u8 0, .int .u8 0, .int .u8 0, .int .u8 0, .int .u8 0, .int .u8 0, .int .u8 0, .int .u8 0, .int .u8 0, .int .u8 0, .int .i64 0])).run Tryd.prog w = .ok true w := fun w => tgt_same tgt0 rfl w
  have I0 := hid (tgt_inf (t := tgt0) rfl)
  by_cases hc : c = 1
  case pos =>
    subst hc
    go_enter Tryd.func10, Tryd.ntmps10
    go_wp2_with (first
      | (refine wpList_loadB rfl 26 _ rfl W.heap.size 26 cs _ rfl B0 Tryd.underlying26 rfl I1.out ?_)
      | (refine wpList_loadB rfl 26 _ rfl W.heap.size 26 cs _ rfl B1 Tryd.underlying26 rfl I1.out ?_)
      | (refine wpList_loadB rfl 26 _ rfl w3.heap.size 26 (tgtC u) _ rfl B4 Tryd.underlying26 rfl I2.out ?_)
      | (refine wpList_load_want rfl 26 _ rfl w6.heap.size 0 rfl (tgtC u) _ B9.range Tryd.underlying26 rfl I2.out ?_)
      | (refine wpList_load_want rfl 26 _ rfl w3.heap.size 0 rfl (tgtC u) _ B4e.range Tryd.underlying26 rfl I2.out ?_)
      | (refine wpList_load_want rfl 26 _ rfl w3.heap.size 0 rfl (tgtC u) _ B4c.range Tryd.underlying26 rfl I2.out ?_)
      | (refine wpList_storeB rfl 26 _ _ rfl w6.heap.size 26 (tgtC tgt0) (tgtC u) rfl rfl (Blk.new _ _ _) I2.out ((tgt_len (t := tgt0) rfl).trans (tgt_len lu).symm) (tgt_one _) ?_; intro w7 B7 K7 Z7; have C7 := ((C5.trans C6).alloc _).step K7 (fun i hi => .inr (by simp at hi; omega)); have B4c := (B4b.alloc _).ch K7 (by simp; omega))
      | (refine wpList_storeB rfl 26 _ _ rfl w3.heap.size 26 (tgtC tgt0) (tgtC u) rfl rfl (Blk.new _ _ _) I2.out ((tgt_len (t := tgt0) rfl).trans (tgt_len lu).symm) (tgt_one _) ?_; intro w4 B4 K4 Z4; have C4 := ((C2.trans C3).alloc _).step K4 (fun i hi => .inr (by simp at hi; omega)))
      | (go_at_call 20; (with_reducible refine (awake19 _).mono ?_); rintro e w9 ⟨rfl, C9⟩; have B9 := B8.ch C9 (by simp); have B4e := B4d.ch C9 (by simp))
      | (go_at_call 27; (with_reducible refine (E4.out _).mono ?_); rintro e w8 ⟨rfl, C8⟩; have B8 := B7.ch C8 (by simp); have B4d := B4c.ch C8 (by simp))
      | (go_at_call 24; (with_reducible refine (E3.out _).mono ?_); rintro e w6 ⟨rfl, C6⟩; have B4b := (B4.ch C4b (by simp)).ch C6 (by simp); have lt6 := B4b.lt; have z6 := (C5.trans C6).size)
      | (go_at_call 26; (with_reducible refine (E2.out _).mono ?_); rintro e w5 ⟨rfl, C4b⟩; have C5 := C4.trans C4b)
      | (go_at_call 13; (with_reducible refine (genTargetN _ _).mono ?_); rintro e w3 ⟨⟨u, rfl, hu, hok, hback, hp1, hnm⟩, C3⟩; obtain ⟨E, hEs, q2, q3⟩ := HB.out u hu hok hback hp1 hnm; have E2 := hid q2; have E3 : Hid (∀ w, Calls Tryd.prog 24 #[.string (E ++ b)] w fun e w' => e = .returned (.tuple #[.agg (tgtC u).toArray, .int .i64 0, .int .i64 E.size, .int .i64 1]) ∧ Ch [] w w') := q3; have E4 := hid (fun w => validT u hu hok hp1 hnm w); have I2 := hid (tgt_inf hu.1); have lu := hu.1; have eqs := fun w => tgt_same u hu.1 w; clear q2 q3 hok hback hu hp1 hnm; have z3 := (C2.trans C3).size; have m1 : E.size + b.size ≤ maxLen := (by unfold maxLen; omega))
      | (go_at_call 25; (with_reducible refine (H2.out _).mono ?_); rintro e w2 ⟨rfl, C1b⟩; have C2 := C1.trans C1b)
      | (go_at_call 26; (with_reducible refine (H1.out _).mono ?_); rintro e w1 ⟨rfl, C1a⟩; have C1 := C0.trans C1a; have B1 := B0.ch C1a (by simp)))
    go_ret
    exact ⟨rfl, ((C7.trans C8).trans C9).nil_below⟩
  · have hcn : (c == 1) = false := by simpa using hc
    have hcn' : (c != 1) = true := by simpa using hc
    have HC := hid hc
    clear hc
    go_enter Tryd.func10, Tryd.ntmps10
    go_wp2_with (first
      | (refine wpList_loadB rfl 26 _ rfl W.heap.size 26 cs _ rfl B0 Tryd.underlying26 rfl I1.out ?_)
      | (refine wpList_loadB rfl 26 _ rfl W.heap.size 26 cs _ rfl B1 Tryd.underlying26 rfl I1.out ?_)
      | (refine wpList_loadB rfl 26 _ rfl w3.heap.size 26 (tgtC u) _ rfl B4 Tryd.underlying26 rfl I2.out ?_)
      | (refine wpList_load_want rfl 26 _ rfl w6.heap.size 0 rfl (tgtC tgt0) _ B9.range Tryd.underlying26 rfl I0.out ?_)
      | (refine wpList_load_want rfl 26 _ rfl w3.heap.size 0 rfl (tgtC u) _ B4c.range Tryd.underlying26 rfl I2.out ?_)
      | (refine wpList_storeB rfl 26 _ _ rfl w6.heap.size 26 (tgtC tgt0) (tgtC tgt0) rfl rfl (Blk.new _ _ _) I0.out rfl (tgt_one _) ?_; intro w7 B7 K7 Z7; have C7 := ((C5.trans C6).alloc _).step K7 (fun i hi => .inr (by simp at hi; omega)); have B4c := (B4b.alloc _).ch K7 (by simp; omega))
      | (refine wpList_storeB rfl 26 _ _ rfl w3.heap.size 26 (tgtC tgt0) (tgtC u) rfl rfl (Blk.new _ _ _) I2.out ((tgt_len (t := tgt0) rfl).trans (tgt_len lu).symm) (tgt_one _) ?_; intro w4 B4 K4 Z4; have C4 := ((C2.trans C3).alloc _).step K4 (fun i hi => .inr (by simp at hi; omega)))
      | (go_at_call 20; (with_reducible refine (awake19 _).mono ?_); rintro e w9 ⟨rfl, C9⟩; have B9 := B8.ch C9 (by simp))
      | (go_at_call 27; (with_reducible refine (E4.out _).mono ?_); rintro e w8 ⟨rfl, C8⟩; have B8 := B7.ch C8 (by simp))
      | (go_at_call 24; (with_reducible refine (E3.out _).mono ?_); rintro e w6 ⟨rfl, C6⟩; have B4b := (B4.ch C4b (by simp)).ch C6 (by simp); have lt6 := B4b.lt; have z6 := (C5.trans C6).size)
      | (go_at_call 26; (with_reducible refine (E2.out _).mono ?_); rintro e w5 ⟨rfl, C4b⟩; have C5 := C4.trans C4b)
      | (go_at_call 13; (with_reducible refine (genTargetN _ _).mono ?_); rintro e w3 ⟨⟨u, rfl, hu, hok, hback, hp1, hnm⟩, C3⟩; obtain ⟨E, hEs, q2, q3⟩ := HB.out u hu hok hback hp1 hnm; rw [if_pos HC.out] at q3; have E2 := hid q2; have E3 : Hid (∀ w, Calls Tryd.prog 24 #[.string (E ++ b)] w fun e w' => e = .returned (.tuple #[.agg (tgtC tgt0).toArray, .int .i64 7, .int .i64 E.size, .int .i64 1]) ∧ Ch [] w w') := q3; have E4 := hid (fun w => validT u hu hok hp1 hnm w); have I2 := hid (tgt_inf hu.1); have lu := hu.1; clear q2 q3 hok hback hu hp1 hnm; have z3 := (C2.trans C3).size; have m1 : E.size + b.size ≤ maxLen := (by unfold maxLen; omega))
      | (go_at_call 25; (with_reducible refine (H2.out _).mono ?_); rintro e w2 ⟨rfl, C1b⟩; have C2 := C1.trans C1b)
      | (go_at_call 26; (with_reducible refine (H1.out _).mono ?_); rintro e w1 ⟨rfl, C1a⟩; have C1 := C0.trans C1a; have B1 := B0.ch C1a (by simp)))
    go_ret
    exact ⟨rfl, ((C7.trans C8).trans C9).nil_below⟩
end Go.Proofs.YtiffpjlmgeklkaaDoor
