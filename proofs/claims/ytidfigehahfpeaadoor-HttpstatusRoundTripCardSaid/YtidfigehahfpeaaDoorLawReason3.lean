/- The walk of ReasonReplies. -/
import Derived.Test.YtidfigehahfpeaaDoorLawReason
import Derived.Test.YtidfigehahfpeaaDoorHttp
import Derived.Test.YtidfigehahfpeaaDoorRefReply
namespace Go.Proofs.YtidfigehahfpeaaDoor
open Go.ChangeShapes Go.WideShapes Go.ChangeAt Go.RowKit

set_option maxRecDepth 100000 in
theorem refEncR4 (code : Int) (bs : List Int) (port : Int) (h0 : 0 ≤ code) (h1 : code ≤ 255) (hl : bs.length = 16) (hv : (bs.drop 4).all (· == 0) = true) (hp : 0 ≤ port ∧ port < 65536) (w : World) :
    Calls Tryd.prog 53 #[.int .i64 code, .agg (targC ⟨#[]⟩ false bs port).toArray] w fun e w' => e = .returned (.string (strOfNums (5 :: code :: 0 :: 1 :: (bs.take 4 ++ [port / 256, port % 256])))) ∧ Ch [] w w' := by
  have hB : Blk (w.alloc (.cells (targC ⟨#[]⟩ false bs port).toArray 62)) w.heap.size 62 (targC ⟨#[]⟩ false bs port) := Blk.new w _ _
  have hC : Ch [] w (w.alloc (.cells (targC ⟨#[]⟩ false bs port).toArray 62)) := (Ch.refl _ _).alloc _
  have HLD : Hid ((w.alloc (.cells (targC ⟨#[]⟩ false bs port).toArray 62)).rangeAt w.heap.size 0 (targC ⟨#[]⟩ false bs port)) := fun j v hj => by
    rw [hB.cell, Nat.zero_add]; exact hj
  have HLI : Hid ((Tryd.prog.info? 62).map (·.size) = some (targC ⟨#[]⟩ false bs port).length) := by
    show _ = _
    rw [show (targC ⟨#[]⟩ false bs port).length = 19 by unfold targC addrC; simp [hl]]; kernel_rfl
  have HV := hid hv
  have HE := fun w => refEncT4 bs port hl HV.out hp w
  generalize targC ⟨#[]⟩ false bs port = cs at hB hC HLD HLI HE ⊢
  obtain ⟨S, hS⟩ : ∃ S, 1 :: (bs.take 4 ++ [port / 256, port % 256]) = S := ⟨_, rfl⟩
  have hSl : S.length ≤ 7 := by rw [← hS, List.length_cons, List.length_append, List.length_take]; simp; omega
  have hs : (strOfNums S).size ≤ 7 := by rw [strOf_size]; exact hSl
  have h3 : (strOfNums [5, code, 0]).size ≤ 3 := by rw [strOf_size]; simp
  rw [hS] at HE ⊢
  clear hv hS
  have hrunB : ∀ w2 : World, (convert 31 9 (.slice (some ⟨w2.heap.size, 0, none⟩) 3 3)).run Tryd.prog (w2.alloc (.cells #[.int .u8 5, .int .u8 code, .int .u8 0] 5)) = .ok (.string (strOfNums [5, code, 0])) (w2.alloc (.cells #[.int .u8 5, .int .u8 code, .int .u8 0] 5)) := fun w2 =>
    run_strOf 31 9 5 Tryd.underlying31 Tryd.underlying5 Tryd.underlying9 _ 3 3 _ [5, code, 0] (blk_ints (Blk.new w2 5 [.int .u8 5, .int .u8 code, .int .u8 0]) 0 3 _ rfl (fun i hi => by
      rcases (show i = 0 ∨ i = 1 ∨ i = 2 by simp at hi; omega) with rfl | rfl | rfl <;> rfl))
  go_enter Tryd.func53, Tryd.ntmps53
  go_wp2_with (first
    | (refine wpList_load_want rfl 62 _ rfl w.heap.size 0 rfl cs _ HLD.out Tryd.underlying62 rfl HLI.out ?_)
    | (go_at_call 64; (with_reducible refine (HE _).mono ?_); rintro e w2 ⟨rfl, C2⟩))
  go_ret
  exact ⟨by rw [strOf_append]; rfl, (hC.trans C2).alloc _⟩

theorem refRplyZero (code : Int) (h0 : 0 ≤ code) (h1 : code ≤ 255) (w : World) :
    Calls Tryd.prog 53 #[.int .i64 code, .agg #[.string ⟨#[]⟩, .bool false, .int .u8 0, .int .u8 0, .int .u8 0, .int .u8 0, .int .u8 0, .int .u8 0, .int .u8 0, .int .u8 0, .int .u8 0, .int .u8 0, .int .u8 0, .int .u8 0, .int .u8 0, .int .u8 0, .int .u8 0, .int .u8 0, .int .i64 0]] w fun e w' => e = .returned (.string (strOfNums [5, code, 0, 1, 0, 0, 0, 0, 0, 0])) ∧ Ch [] w w' :=
  refEncR4 code (List.replicate 16 0) 0 h0 h1 rfl rfl (by omega) w

def rplS (proto v : Int) : ByteArray := if proto = 1 then strOfNums [5, sockOf v, 0, 1, 0, 0, 0, 0, 0, 0] else if proto = 2 then fmtS (httpOf v) else ⟨#[]⟩
theorem rsnReply (proto v : Int) (s : ByteArray) (hs : rplS proto v = s) (w : World) (ht : Tab w) : Calls Tryd.prog 36 #[.int .i64 proto, .int .i64 v] w fun e w' => e = .returned (.string s) ∧ Ch [] w w' := by
  subst hs
  unfold rplS
  by_cases h1 : proto = 1
  · subst h1; exact rsnReply5 v _ rfl w
  · by_cases h2 : proto = 2
    · subst h2
      go_enter Tryd.func36, Tryd.ntmps36
      go_wp2_with (first
        | (go_at_call 34; (with_reducible refine (rsnHttp _ _).mono ?_); rintro e w' ⟨rfl, rfl⟩)
        | (go_at_call 15; (with_reducible refine (fmtP _ _ ht).mono ?_); rintro e w2 ⟨rfl, C2⟩))
      go_ret
      exact ⟨rfl, C2⟩
    · rw [if_neg h1, if_neg h2]
      go_enter Tryd.func36, Tryd.ntmps36
      go_wp2
      go_ret
      exact ⟨rfl, Ch.refl _ _⟩
theorem refReply (proto v : Int) (s : ByteArray) (hs : rplS proto v = s) (w : World) : Calls Tryd.prog 37 #[.int .i64 proto, .int .i64 v] w fun e w' => e = .returned (.string s) ∧ Ch [] w w' := by
  subst hs
  unfold rplS
  by_cases h1 : proto = 1
  · subst h1
    obtain ⟨code, hc⟩ : ∃ c, sockOf v = c := ⟨_, rfl⟩
    have hr := sockOf_rng v
    rw [hc] at hr
    obtain ⟨r0, r1⟩ := hr
    rw [hc]
    have HC := hid hc
    clear hc
    go_enter Tryd.func37, Tryd.ntmps37
    go_wp2_with (first
      | (go_at_call 33; (with_reducible refine (refSocks _ _).mono ?_); rw [HC.out]; rintro e w2 ⟨rfl, C2⟩)
      | (go_at_call 53; (with_reducible refine (refRplyZero code (by omega) (by omega) _).mono ?_); rintro e w3 ⟨rfl, C3⟩))
    go_ret
    exact ⟨rfl, C2.trans C3⟩
  · by_cases h2 : proto = 2
    · subst h2
      go_enter Tryd.func37, Tryd.ntmps37
      go_wp2_with (first
        | (go_at_call 35; (with_reducible refine (refHttp _ _).mono ?_); rintro e w2 ⟨rfl, C2⟩)
        | (go_at_call 16; (with_reducible refine (fmtR _ _).mono ?_); rintro e w3 ⟨rfl, C3⟩))
      go_ret
      exact ⟨rfl, C2.trans C3⟩
    · rw [if_neg h1, if_neg h2]
      go_enter Tryd.func37, Tryd.ntmps37
      go_wp2
      go_ret
      exact ⟨rfl, Ch.refl _ _⟩

theorem rplS_facts : ∀ i : Fin 14, ((rplS 1 (i : Nat)).data.toList.isEmpty = false ∧ (rplS 2 (i : Nat)).data.toList.isEmpty = false) ∧ (((rplS 1 (i : Nat)).data.toList = (rplS 1 0).data.toList) ↔ i = 0) ∧ (((rplS 2 (i : Nat)).data.toList = (rplS 2 0).data.toList) ↔ i = 0) := by decide +kernel
theorem rplS_none (p k : Int) (hp : p = 0 ∨ p = 3) : rplS p k = ⟨#[]⟩ := by unfold rplS; rw [if_neg (by omega), if_neg (by omega)]

theorem tab_of {W : World} {l : List (String × DataW Unit)} (h : laidMetH Tryd.prog l W) (hk : (l.filter fun x => x.1 == "internal/strconv.uint64pow10") = [("internal/strconv.uint64pow10", Lib.tabData .u64 Lib.pow10Tab)]) : Tab W := by
  have h2 := laidMetH.filter (fun x => x.1 == "internal/strconv.uint64pow10") h
  rw [hk, MakeChecks.laidMetH_plain _ _ _ (by kernel_rfl)] at h2
  exact Lib.tabIs_of_head (g := 1) (t := 90) (e := 80) (n := 20) (by kernel_rfl) (by kernel_rfl) Tryd.underlying90 Tryd.underlying80 (by kernel_rfl) (by kernel_rfl) h2

set_option maxRecDepth 100000 in
set_option maxHeartbeats 4000000 in
theorem reasonReplies_came {H : Type} {enc : TypeId × Value → H} (W : World) (args : Array Value) (ds : List (DataW H)) (hL : laidMetH Tryd.prog Rows.reasonRepliesRow.laid W) (h : Came enc Tryd.prog Tryd.f11 W args ds) :
    Calls Tryd.prog 11 args W fun e W' => e = .returned (.bool true) ∧ Below W.heap.size W W' := by
  obtain ⟨v0, v1, d0, d1, rfl, a0, a1⟩ := h.args2 rfl
  obtain ⟨x, rfl, hx, hx'⟩ := a0.i64 Tryd.underlying3
  obtain ⟨y, rfl, hy, hy'⟩ := a1.i64 Tryd.underlying3
  have HT := hid (tab_of hL (by rfl))
  clear h a0 a1 hL
  obtain ⟨q, hq⟩ : ∃ q, IntKind.u64.wrap x = q := ⟨_, rfl⟩
  have q01 : 0 ≤ q ∧ q ≤ 18446744073709551615 := by rw [← hq, IntKind.wrap_u64]; omega
  obtain ⟨q0, q1⟩ := q01
  obtain ⟨u, hu⟩ : ∃ u, IntKind.u64.wrap y = u := ⟨_, rfl⟩
  have u01 : 0 ≤ u ∧ u ≤ 18446744073709551615 := by rw [← hu, IntKind.wrap_u64]; omega
  obtain ⟨u0, u1⟩ := u01
  obtain ⟨k, hk⟩ : ∃ k : Nat, u % 14 = k := ⟨(u % 14).toNat, by omega⟩
  have hk14 : k < 14 := by omega
  obtain ⟨S0, hS0⟩ : ∃ s, rplS x y = s := ⟨_, rfl⟩
  have H0 := hid hS0
  clear hS0
  rcases (show q % 4 = 0 ∨ q % 4 = 3 ∨ q % 4 = 1 ∨ q % 4 = 2 by omega) with hp | hp | hp | hp
  · obtain ⟨S1, hS1, he1⟩ : ∃ s, rplS 0 k = s ∧ s.toList.isEmpty = true := ⟨_, rfl, by rw [rplS_none 0 k (by omega)]; decide +kernel⟩
    have H1 := hid hS1
    clear hS1
    go_enter Tryd.func11, Tryd.ntmps11
    go_wp2_with (first
        | (go_at_call 36; (with_reducible refine (rsnReply 0 k S1 H1.out w5 T5).mono ?_); rintro e w6 ⟨rfl, C6⟩; have T6 := T5.ch C6)
        | (go_at_call 36; (with_reducible refine (rsnReply 0 k S1 H1.out w3 T3).mono ?_); rintro e w4 ⟨rfl, C4⟩; have T4 := T3.ch C4)
        | (go_at_call 36; (with_reducible refine (rsnReply x y S0 H0.out w1 T1).mono ?_); rintro e w2 ⟨rfl, C2⟩; have T2 := T1.ch C2)
        | (go_at_call 37; (with_reducible refine (refReply 0 k S1 H1.out w4).mono ?_); rintro e w5 ⟨rfl, C5⟩; have T5 := T4.ch C5)
        | (go_at_call 37; (with_reducible refine (refReply x y S0 H0.out w2).mono ?_); rintro e w3 ⟨rfl, C3⟩; have T3 := T2.ch C3)
        | (go_at_call 31; (with_reducible refine (rsnAwake _).mono ?_); rintro e w1 ⟨rfl, hb1⟩; have T1 := HT.out.below hb1))
    go_ret
    exact ⟨rfl, hb1.trans (((C2.trans C3).trans (C4.trans (C5.trans C6))).nil_below.mono hb1.size)⟩
  · obtain ⟨S1, hS1, he1⟩ : ∃ s, rplS 3 k = s ∧ s.toList.isEmpty = true := ⟨_, rfl, by rw [rplS_none 3 k (by omega)]; decide +kernel⟩
    have H1 := hid hS1
    clear hS1
    go_enter Tryd.func11, Tryd.ntmps11
    go_wp2_with (first
        | (go_at_call 36; (with_reducible refine (rsnReply 3 k S1 H1.out w5 T5).mono ?_); rintro e w6 ⟨rfl, C6⟩; have T6 := T5.ch C6)
        | (go_at_call 36; (with_reducible refine (rsnReply 3 k S1 H1.out w3 T3).mono ?_); rintro e w4 ⟨rfl, C4⟩; have T4 := T3.ch C4)
        | (go_at_call 36; (with_reducible refine (rsnReply x y S0 H0.out w1 T1).mono ?_); rintro e w2 ⟨rfl, C2⟩; have T2 := T1.ch C2)
        | (go_at_call 37; (with_reducible refine (refReply 3 k S1 H1.out w4).mono ?_); rintro e w5 ⟨rfl, C5⟩; have T5 := T4.ch C5)
        | (go_at_call 37; (with_reducible refine (refReply x y S0 H0.out w2).mono ?_); rintro e w3 ⟨rfl, C3⟩; have T3 := T2.ch C3)
        | (go_at_call 31; (with_reducible refine (rsnAwake _).mono ?_); rintro e w1 ⟨rfl, hb1⟩; have T1 := HT.out.below hb1))
    go_ret
    exact ⟨rfl, hb1.trans (((C2.trans C3).trans (C4.trans (C5.trans C6))).nil_below.mono hb1.size)⟩
  · have hf := rplS_facts ⟨k, hk14⟩
    obtain ⟨S1, hS1⟩ : ∃ s, rplS 1 k = s := ⟨_, rfl⟩
    obtain ⟨S2, hS2⟩ : ∃ s, rplS 1 0 = s := ⟨_, rfl⟩
    have he1 : S1.toList.isEmpty = false := by rw [← hS1, ByteArray.toList_eq]; exact hf.1.1
    have hiff : S1.toList = S2.toList ↔ k = 0 := by
      rw [← hS1, ← hS2, ByteArray.toList_eq, ByteArray.toList_eq]
      exact hf.2.1.trans (by simp [Fin.ext_iff])
    have H1 := hid hS1
    have H2 := hid hS2
    clear hS1 hS2 hf
    by_cases hk0 : k = 0
    · have he2 : (S1.toList == S2.toList) = true := by simpa using hiff.2 hk0
      have hkb : ((k : Int) == 0) = true := by rw [hk0]; rfl
      clear hiff hk0
      go_enter Tryd.func11, Tryd.ntmps11
      go_wp2_with (first
        | (go_at_call 36; (with_reducible refine (rsnReply 1 0 S2 H2.out w7 T7).mono ?_); rintro e w8 ⟨rfl, C8⟩)
        | (go_at_call 36; (with_reducible refine (rsnReply 1 k S1 H1.out w6 T6).mono ?_); rintro e w7 ⟨rfl, C7⟩; have T7 := T6.ch C7)
        | (go_at_call 36; (with_reducible refine (rsnReply 1 k S1 H1.out w5 T5).mono ?_); rintro e w6 ⟨rfl, C6⟩; have T6 := T5.ch C6)
        | (go_at_call 36; (with_reducible refine (rsnReply 1 k S1 H1.out w3 T3).mono ?_); rintro e w4 ⟨rfl, C4⟩; have T4 := T3.ch C4)
        | (go_at_call 36; (with_reducible refine (rsnReply x y S0 H0.out w1 T1).mono ?_); rintro e w2 ⟨rfl, C2⟩; have T2 := T1.ch C2)
        | (go_at_call 37; (with_reducible refine (refReply 1 k S1 H1.out w4).mono ?_); rintro e w5 ⟨rfl, C5⟩; have T5 := T4.ch C5)
        | (go_at_call 37; (with_reducible refine (refReply x y S0 H0.out w2).mono ?_); rintro e w3 ⟨rfl, C3⟩; have T3 := T2.ch C3)
        | (go_at_call 31; (with_reducible refine (rsnAwake _).mono ?_); rintro e w1 ⟨rfl, hb1⟩; have T1 := HT.out.below hb1))
      go_ret
      exact ⟨rfl, hb1.trans (((C2.trans C3).trans (C4.trans (C5.trans (C6.trans (C7.trans C8))))).nil_below.mono hb1.size)⟩
    · have he2 : (S1.toList == S2.toList) = false := by
        rw [Bool.eq_false_iff]
        intro e
        exact hk0 (hiff.1 (by simpa using e))
      have hkb : ((k : Int) == 0) = false := by simpa using hk0
      clear hiff hk0
      go_enter Tryd.func11, Tryd.ntmps11
      go_wp2_with (first
        | (go_at_call 36; (with_reducible refine (rsnReply 1 0 S2 H2.out w7 T7).mono ?_); rintro e w8 ⟨rfl, C8⟩)
        | (go_at_call 36; (with_reducible refine (rsnReply 1 k S1 H1.out w6 T6).mono ?_); rintro e w7 ⟨rfl, C7⟩; have T7 := T6.ch C7)
        | (go_at_call 36; (with_reducible refine (rsnReply 1 k S1 H1.out w5 T5).mono ?_); rintro e w6 ⟨rfl, C6⟩; have T6 := T5.ch C6)
        | (go_at_call 36; (with_reducible refine (rsnReply 1 k S1 H1.out w3 T3).mono ?_); rintro e w4 ⟨rfl, C4⟩; have T4 := T3.ch C4)
        | (go_at_call 36; (with_reducible refine (rsnReply x y S0 H0.out w1 T1).mono ?_); rintro e w2 ⟨rfl, C2⟩; have T2 := T1.ch C2)
        | (go_at_call 37; (with_reducible refine (refReply 1 k S1 H1.out w4).mono ?_); rintro e w5 ⟨rfl, C5⟩; have T5 := T4.ch C5)
        | (go_at_call 37; (with_reducible refine (refReply x y S0 H0.out w2).mono ?_); rintro e w3 ⟨rfl, C3⟩; have T3 := T2.ch C3)
        | (go_at_call 31; (with_reducible refine (rsnAwake _).mono ?_); rintro e w1 ⟨rfl, hb1⟩; have T1 := HT.out.below hb1))
      go_ret
      exact ⟨rfl, hb1.trans (((C2.trans C3).trans (C4.trans (C5.trans (C6.trans (C7.trans C8))))).nil_below.mono hb1.size)⟩
  · have hf := rplS_facts ⟨k, hk14⟩
    obtain ⟨S1, hS1⟩ : ∃ s, rplS 2 k = s := ⟨_, rfl⟩
    obtain ⟨S2, hS2⟩ : ∃ s, rplS 2 0 = s := ⟨_, rfl⟩
    have he1 : S1.toList.isEmpty = false := by rw [← hS1, ByteArray.toList_eq]; exact hf.1.2
    have hiff : S1.toList = S2.toList ↔ k = 0 := by
      rw [← hS1, ← hS2, ByteArray.toList_eq, ByteArray.toList_eq]
      exact hf.2.2.trans (by simp [Fin.ext_iff])
    have H1 := hid hS1
    have H2 := hid hS2
    clear hS1 hS2 hf
    by_cases hk0 : k = 0
    · have he2 : (S1.toList == S2.toList) = true := by simpa using hiff.2 hk0
      have hkb : ((k : Int) == 0) = true := by rw [hk0]; rfl
      clear hiff hk0
      go_enter Tryd.func11, Tryd.ntmps11
      go_wp2_with (first
        | (go_at_call 36; (with_reducible refine (rsnReply 2 0 S2 H2.out w7 T7).mono ?_); rintro e w8 ⟨rfl, C8⟩)
        | (go_at_call 36; (with_reducible refine (rsnReply 2 k S1 H1.out w6 T6).mono ?_); rintro e w7 ⟨rfl, C7⟩; have T7 := T6.ch C7)
        | (go_at_call 36; (with_reducible refine (rsnReply 2 k S1 H1.out w5 T5).mono ?_); rintro e w6 ⟨rfl, C6⟩; have T6 := T5.ch C6)
        | (go_at_call 36; (with_reducible refine (rsnReply 2 k S1 H1.out w3 T3).mono ?_); rintro e w4 ⟨rfl, C4⟩; have T4 := T3.ch C4)
        | (go_at_call 36; (with_reducible refine (rsnReply x y S0 H0.out w1 T1).mono ?_); rintro e w2 ⟨rfl, C2⟩; have T2 := T1.ch C2)
        | (go_at_call 37; (with_reducible refine (refReply 2 k S1 H1.out w4).mono ?_); rintro e w5 ⟨rfl, C5⟩; have T5 := T4.ch C5)
        | (go_at_call 37; (with_reducible refine (refReply x y S0 H0.out w2).mono ?_); rintro e w3 ⟨rfl, C3⟩; have T3 := T2.ch C3)
        | (go_at_call 31; (with_reducible refine (rsnAwake _).mono ?_); rintro e w1 ⟨rfl, hb1⟩; have T1 := HT.out.below hb1))
      go_ret
      exact ⟨rfl, hb1.trans (((C2.trans C3).trans (C4.trans (C5.trans (C6.trans (C7.trans C8))))).nil_below.mono hb1.size)⟩
    · have he2 : (S1.toList == S2.toList) = false := by
        rw [Bool.eq_false_iff]
        intro e
        exact hk0 (hiff.1 (by simpa using e))
      have hkb : ((k : Int) == 0) = false := by simpa using hk0
      clear hiff hk0
      go_enter Tryd.func11, Tryd.ntmps11
      go_wp2_with (first
        | (go_at_call 36; (with_reducible refine (rsnReply 2 0 S2 H2.out w7 T7).mono ?_); rintro e w8 ⟨rfl, C8⟩)
        | (go_at_call 36; (with_reducible refine (rsnReply 2 k S1 H1.out w6 T6).mono ?_); rintro e w7 ⟨rfl, C7⟩; have T7 := T6.ch C7)
        | (go_at_call 36; (with_reducible refine (rsnReply 2 k S1 H1.out w5 T5).mono ?_); rintro e w6 ⟨rfl, C6⟩; have T6 := T5.ch C6)
        | (go_at_call 36; (with_reducible refine (rsnReply 2 k S1 H1.out w3 T3).mono ?_); rintro e w4 ⟨rfl, C4⟩; have T4 := T3.ch C4)
        | (go_at_call 36; (with_reducible refine (rsnReply x y S0 H0.out w1 T1).mono ?_); rintro e w2 ⟨rfl, C2⟩; have T2 := T1.ch C2)
        | (go_at_call 37; (with_reducible refine (refReply 2 k S1 H1.out w4).mono ?_); rintro e w5 ⟨rfl, C5⟩; have T5 := T4.ch C5)
        | (go_at_call 37; (with_reducible refine (refReply x y S0 H0.out w2).mono ?_); rintro e w3 ⟨rfl, C3⟩; have T3 := T2.ch C3)
        | (go_at_call 31; (with_reducible refine (rsnAwake _).mono ?_); rintro e w1 ⟨rfl, hb1⟩; have T1 := HT.out.below hb1))
      go_ret
      exact ⟨rfl, hb1.trans (((C2.trans C3).trans (C4.trans (C5.trans (C6.trans (C7.trans C8))))).nil_below.mono hb1.size)⟩
end Go.Proofs.YtidfigehahfpeaaDoor
