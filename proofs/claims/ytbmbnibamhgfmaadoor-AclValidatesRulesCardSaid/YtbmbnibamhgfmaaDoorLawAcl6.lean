/- The walk of AclValidatesRules (printed by mk_lawacl6.py). -/
import Derived.Test.YtbmbnibamhgfmaaDoorLawAcl0
import Derived.Test.YtbmbnibamhgfmaaDoorAclU
import Derived.Test.YtbmbnibamhgfmaaDoorML
import Derived.Test.YtbmbnibamhgfmaaDoorAclZ
import Derived.Test.YtbmbnibamhgfmaaDoorMD
import Derived.Test.YtbmbnibamhgfmaaDoorRows
import Derived.Deep.DeepCutAuto
import Derived.Deep.CutRange
namespace Go.Proofs.YtbmbnibamhgfmaaDoor
open Go.ChangeShapes Go.WideShapes Go.ChangeAt Go.RowKit

theorem dR_good : GoodR dR := ⟨⟨rfl, show ∀ x ∈ zeros, 0 ≤ x ∧ x ≤ 255 by decide⟩, by decide⟩
theorem rep_valid (m : Nat) : (List.replicate m dR).all validR = true := List.all_eq_true.2 fun r hr => by rw [List.eq_of_mem_replicate hr]; decide +kernel
set_option maxRecDepth 100000 in
set_option maxHeartbeats 16000000 in
theorem aclValidatesRules_came {H : Type} {enc : TypeId × Value → H} (W : World) (args : Array Value) (ds : List (DataW H)) (_ : laidMetH Tryd.prog Rows.aclValidatesRulesRow.laid W) (h : Came enc Tryd.prog Tryd.f5 W args ds) :
    Calls Tryd.prog 5 args W fun e W' => e = .returned (.bool true) ∧ Below W.heap.size W W' := by
  obtain ⟨v0, v1, d0, d1, rfl, a0, a1⟩ := h.args2 rfl
  obtain ⟨num, rfl, _, _⟩ := a1.i64 Tryd.underlying3
  obtain ⟨A, n, cap, l, rfl, hn1, hn2, hrl, hnl, hnm, hgl⟩ := a0.rules
  unfold maxLen at hn2
  have hrE := hrl.rangeE (fun p hp => rul_len (hgl p hp).1.1) (by decide)
  have HRE := hid hrE.2
  have HNL := hid hnl
  have HGL := hid hgl
  have HN1 : Hid (∀ w', Ch [] W w' → Calls Tryd.prog 27 #[.slice A n cap] w' (AclRes l w')) := fun w' hc => aclNew w' A n cap W.heap.size l (hrl.ch hc (Nat.le_refl _) (by simp)) hc.size hnm hgl
  have HR1 : Hid (∀ w', Ch [] W w' → Calls Tryd.prog 28 #[.slice A n cap] w' fun e w'' => e = .returned (.bool (decide (n ≤ 32) && l.all validR)) ∧ Ch [] w' w'') := fun w' hc => refRules w' A n cap W.heap.size l (hrl.ch hc (Nat.le_refl _) (by simp)) hc.size hnm hgl
  obtain ⟨m0, m1⟩ := modI_rng num 40 (by omega)
  obtain ⟨m, hm⟩ : ∃ m : Nat, modI num 40 = m := ⟨(modI num 40).toNat, by omega⟩
  have HMD : Hid (∀ w, Calls Tryd.prog 9 #[.int .i64 num, .int .i64 40] w fun e w' => e = .returned (.int .i64 m) ∧ w = w') := fun w => by rw [← hm]; exact genMod num 40 w (by omega) (by omega)
  have hm40 : m < 40 := by omega
  clear hm m0 m1
  obtain ⟨iR, hi1, hi2⟩ := Option.map_eq_some_iff.1 rul_infoZ
  simp only [Prod.mk.injEq] at hi2
  obtain ⟨hz, hs, hb72⟩ := hi2
  have HIR := hid (And.intro hi1 (And.intro hz (And.intro hs hb72)))
  have HBM : Hid (iR.bytes * m ≤ 281474976710656) := by show _ ≤ _; rw [hb72]; omega
  have HMM : Hid (m ≤ maxLen) := by show _ ≤ _; unfold maxLen; omega
  have HMK : Hid (∀ (w : World) (B g : Nat), w.ownsRow B 61 22 (.slice (some ⟨g, 0, none⟩) m m) m (madeCells (Value.agg #[.bool false, .string ⟨#[]⟩, .bool false, .int .u8 0, .int .u8 0, .int .u8 0, .int .u8 0, .int .u8 0, .int .u8 0, .int .u8 0, .int .u8 0, .int .u8 0, .int .u8 0, .int .u8 0, .int .u8 0, .int .u8 0, .int .u8 0, .int .u8 0, .int .u8 0, .int .i64 0, .int .i64 0, .int .i64 0]).cells (m * 22)).toList → Own w B 61 22 (some ⟨g, 0, none⟩) m m ((List.replicate m dR).flatMap rulC)) := fun w B g ho => by rw [← rul_made]; exact ho
  clear h a0 a1 hrl hgl hnl hrE hi1 hz hs hb72
  have CX := Ch.refl [] W
  go_enter Tryd.func5, Tryd.ntmps5
  go_wp2_with fail
  go_loopw [5] (fun i wr => ∃ k : Nat, i = .int .i64 k ∧ k ≤ n ∧ k ≤ 40 ∧ Ch [] W wr) (fun i _ => 40 - (intOf i).toNat)
  case atStart => exact ⟨0, rfl, by omega, by omega, CX⟩
  case round =>
    clear CX
    obtain ⟨k, rfl, hk, hk4, CX⟩ := hrel
    by_cases hlt : k < n
    · by_cases h40 : k < 40
      · as_aux_lemma =>
        obtain ⟨b, off, rfl, hb, hr⟩ := HRE.out (by omega)
        obtain ⟨r, hr0⟩ : ∃ r, l[k]? = some r := ⟨_, List.getElem?_eq_getElem (by rw [HNL.out]; exact hlt)⟩
        have hgr := HGL.out r (List.mem_of_getElem? hr0)
        have HR : Hid (∀ w', Ch [] wr w' → w'.rangeAt b (off + k * 22) (rulC r)) := fun w' c => range_ch (hr k r hr0) (CX.trans c) hb (by simp)
        have HI := hid (rul_inf (r := r) hgr.1.1)
        have H1 := hid (aclValid r hgr)
        have H2 := hid (refRule r hgr)
        have H3 := hid (genRuleD r hgr)
        have H4 : Hid (∀ w, Calls Tryd.prog 24 #[.agg (rulC (genR r)).toArray] w fun e w' => e = .returned (.bool true) ∧ Ch [] w w') := fun w => by
          have := aclValid (genR r) (genR_ok hgr).2 w
          rwa [(genR_ok hgr).1] at this
        generalize rulC (genR r) = rg at H3 H4
        generalize validR r = v at H1 H2
        generalize rulC r = rc at HR HI H1 H2 H3
        have nv : (v != v) = false := by simp
        have hi0 : (0 : Int) ≤ k := by omega
        have hi1 : (k : Int) < n := by omega
        have hi2 : (k : Int) < 40 := by omega
        clear hr hr0 hgr HN1 HR1 HMD HIR HBM HMM HMK HRE HGL HNL hm40
        go_upto_region 4 with fail
        refine wp_region_quietA (wr) (by kernel_rfl) (by kernel_rfl) (Ch.refl _ _) ?_
        repeat (first
          | (go_big_quiet_want; refine quiet_rowA 61 _ rfl b (off + k * 22) rfl rc _ HR.out Tryd.underlying61 rfl HI.out ?_; simp only [Act.put, List.setIfInBounds_toArray, List.set_cons_succ, List.set_cons_zero]; go_big_quiet_on)
          | go_big_quiet_step (first
            | (go_at_call 24; with_reducible exact after_of (H1.out _))
            | (go_at_call 25; with_reducible exact after_of (H2.out _))
            | (go_at_call 26; with_reducible exact after_of (H3.out _))
            | (go_at_call 24; with_reducible exact after_of (H4.out _))))
        refine wpQuiet_nil ?_
        intro wq hwq
        go_wp2_with fail
        go_roundw
        case rel => exact ⟨k + 1, by go_num, by omega, by omega, CX.trans hwq⟩
        case measure => simp [intOf]; omega
      · have hi1 : (k : Int) < n := by omega
        have hi2 : ¬ (k : Int) < 40 := by omega
        clear HRE HGL
        by_cases hv : l.length ≤ 32 ∧ l.all validR = true
        · have HNW : Hid (∀ w', Ch [] W w' → Calls Tryd.prog 27 #[.slice A n cap] w' fun e w'' => (∃ g, e = .returned (.tuple #[.pointer (some ⟨g, 0, none⟩), .int .i64 0])) ∧ Ch [] w' w'') := fun w' hc => (HN1.out w' hc).mono fun e w'' h => ⟨by
            rcases h.1 with ⟨_, g, he, _⟩ | ⟨hb, _⟩
            · exact ⟨g, he⟩
            · exact absurd hv hb, h.2⟩
          have HRF : Hid (∀ w', Ch [] W w' → Calls Tryd.prog 28 #[.slice A n cap] w' fun e w'' => e = .returned (.bool true) ∧ Ch [] w' w'') := fun w' hc => by
            have hb : (decide (n ≤ 32) && l.all validR) = true := by
              rw [← HNL.out]
              simp [hv]
            have := HR1.out w' hc
            rwa [hb] at this
          clear hv HN1 HR1
          by_cases hm : m ≤ 32
          · as_aux_lemma =>
            have HN2 : Hid (∀ w A cap B, Rd w B 22 A m ((List.replicate m dR).flatMap rulC) → B ≤ w.heap.size → Calls Tryd.prog 27 #[.slice A m cap] w fun e w' => (∃ g, e = .returned (.tuple #[.pointer (some ⟨g, 0, none⟩), .int .i64 0])) ∧ Ch [] w w') := fun w A cap B h hB => (aclNew w A m cap B _ h hB (by omega) (fun r hr => by rw [List.eq_of_mem_replicate hr]; exact dR_good)).mono fun e w' h => ⟨by
              rcases h.1 with ⟨_, g, he, _⟩ | ⟨hb, _⟩
              · exact ⟨g, he⟩
              · exact absurd ⟨by rw [List.length_replicate]; exact hm, rep_valid m⟩ hb, h.2⟩
            have hmi : (m : Int) ≤ 32 := by omega
            have hmd : decide ((m : Int) ≤ 32) = true := by simpa using hmi
            clear hm
            go_wp2_with (first
              | go_big_skip
              | (go_at_call 27; (with_reducible refine (HNW.out _ CX).mono ?_); rintro e w1 ⟨⟨g1, rfl⟩, C1⟩; replace CX := CX.trans C1; clear C1)
              | (go_at_call 28; (with_reducible refine (HRF.out _ CX).mono ?_); rintro e w2 ⟨rfl, C2⟩; replace CX := CX.trans C2; clear C2)
              | (go_at_call 9; (with_reducible refine (HMD.out _).mono ?_); rintro e w3 ⟨rfl, rfl⟩)
              | (at_make; (refine wpList_make_full _ rfl _ _ _ rfl _ 61 iR (.agg #[.bool false, .string ⟨#[]⟩, .bool false, .int .u8 0, .int .u8 0, .int .u8 0, .int .u8 0, .int .u8 0, .int .u8 0, .int .u8 0, .int .u8 0, .int .u8 0, .int .u8 0, .int .u8 0, .int .u8 0, .int .u8 0, .int .u8 0, .int .u8 0, .int .u8 0, .int .i64 0, .int .i64 0, .int .i64 0]) 22 Tryd.underlying44 HIR.out.1 HIR.out.2.1 HIR.out.2.2.1 .i64 .i64 _ _ m rfl rfl rfl rfl HBM.out HMM.out (Nat.le_refl _) ?_; intro w4 own4 gr4; have own := HMK.out w4 _ _ own4; have C3 := Ch.grown gr4; replace CX := CX.trans C3; clear C3 gr4 own4))
              | (go_at_call 27; (with_reducible refine (HN2.out _ _ _ _ own.rd (Nat.le_refl _)).mono ?_); rintro e w5 ⟨⟨g2, rfl⟩, C4⟩; replace CX := CX.trans C4; clear C4)
              | (go_at_call 29; (with_reducible refine (awake12 _).mono ?_); rintro e w6 ⟨rfl, C5⟩; replace CX := CX.trans C5; clear C5))
            go_ret
            exact ⟨rfl, CX.nil_below⟩
          · as_aux_lemma =>
            have HN2 : Hid (∀ w A cap B, Rd w B 22 A m ((List.replicate m dR).flatMap rulC) → B ≤ w.heap.size → Calls Tryd.prog 27 #[.slice A m cap] w fun e w' => e = .returned (.tuple #[.pointer none, .int .i64 1]) ∧ Ch [] w w') := fun w A cap B h hB => (aclNew w A m cap B _ h hB (by omega) (fun r hr => by rw [List.eq_of_mem_replicate hr]; exact dR_good)).mono fun e w' h => ⟨by
              rcases h.1 with ⟨⟨hb, _⟩, _⟩ | ⟨_, he⟩
              · rw [List.length_replicate] at hb; exact absurd hb hm
              · exact he, h.2⟩
            have hmi : ¬ (m : Int) ≤ 32 := by omega
            have hmd : decide ((m : Int) ≤ 32) = false := by simpa using hmi
            clear hm
            go_wp2_with (first
              | go_big_skip
              | (go_at_call 27; (with_reducible refine (HNW.out _ CX).mono ?_); rintro e w1 ⟨⟨g1, rfl⟩, C1⟩; replace CX := CX.trans C1; clear C1)
              | (go_at_call 28; (with_reducible refine (HRF.out _ CX).mono ?_); rintro e w2 ⟨rfl, C2⟩; replace CX := CX.trans C2; clear C2)
              | (go_at_call 9; (with_reducible refine (HMD.out _).mono ?_); rintro e w3 ⟨rfl, rfl⟩)
              | (at_make; (refine wpList_make_full _ rfl _ _ _ rfl _ 61 iR (.agg #[.bool false, .string ⟨#[]⟩, .bool false, .int .u8 0, .int .u8 0, .int .u8 0, .int .u8 0, .int .u8 0, .int .u8 0, .int .u8 0, .int .u8 0, .int .u8 0, .int .u8 0, .int .u8 0, .int .u8 0, .int .u8 0, .int .u8 0, .int .u8 0, .int .u8 0, .int .i64 0, .int .i64 0, .int .i64 0]) 22 Tryd.underlying44 HIR.out.1 HIR.out.2.1 HIR.out.2.2.1 .i64 .i64 _ _ m rfl rfl rfl rfl HBM.out HMM.out (Nat.le_refl _) ?_; intro w4 own4 gr4; have own := HMK.out w4 _ _ own4; have C3 := Ch.grown gr4; replace CX := CX.trans C3; clear C3 gr4 own4))
              | (go_at_call 27; (with_reducible refine (HN2.out _ _ _ _ own.rd (Nat.le_refl _)).mono ?_); rintro e w5 ⟨rfl, C4⟩; replace CX := CX.trans C4; clear C4)
              | (go_at_call 29; (with_reducible refine (awake12 _).mono ?_); rintro e w6 ⟨rfl, C5⟩; replace CX := CX.trans C5; clear C5))
            go_ret
            exact ⟨rfl, CX.nil_below⟩
        · have HNW : Hid (∀ w', Ch [] W w' → Calls Tryd.prog 27 #[.slice A n cap] w' fun e w'' => e = .returned (.tuple #[.pointer none, .int .i64 1]) ∧ Ch [] w' w'') := fun w' hc => (HN1.out w' hc).mono fun e w'' h => ⟨by
            rcases h.1 with ⟨hb, _⟩ | ⟨_, he⟩
            · exact absurd hb hv
            · exact he, h.2⟩
          have HRF : Hid (∀ w', Ch [] W w' → Calls Tryd.prog 28 #[.slice A n cap] w' fun e w'' => e = .returned (.bool false) ∧ Ch [] w' w'') := fun w' hc => by
            have hb : (decide (n ≤ 32) && l.all validR) = false := by
              rw [← HNL.out]
              cases hx : l.all validR
              · simp
              · simp [hx] at hv ⊢; omega
            have := HR1.out w' hc
            rwa [hb] at this
          clear hv HN1 HR1
          by_cases hm : m ≤ 32
          · as_aux_lemma =>
            have HN2 : Hid (∀ w A cap B, Rd w B 22 A m ((List.replicate m dR).flatMap rulC) → B ≤ w.heap.size → Calls Tryd.prog 27 #[.slice A m cap] w fun e w' => (∃ g, e = .returned (.tuple #[.pointer (some ⟨g, 0, none⟩), .int .i64 0])) ∧ Ch [] w w') := fun w A cap B h hB => (aclNew w A m cap B _ h hB (by omega) (fun r hr => by rw [List.eq_of_mem_replicate hr]; exact dR_good)).mono fun e w' h => ⟨by
              rcases h.1 with ⟨_, g, he, _⟩ | ⟨hb, _⟩
              · exact ⟨g, he⟩
              · exact absurd ⟨by rw [List.length_replicate]; exact hm, rep_valid m⟩ hb, h.2⟩
            have hmi : (m : Int) ≤ 32 := by omega
            have hmd : decide ((m : Int) ≤ 32) = true := by simpa using hmi
            clear hm
            go_wp2_with (first
              | go_big_skip
              | (go_at_call 27; (with_reducible refine (HNW.out _ CX).mono ?_); rintro e w1 ⟨rfl, C1⟩; replace CX := CX.trans C1; clear C1)
              | (go_at_call 28; (with_reducible refine (HRF.out _ CX).mono ?_); rintro e w2 ⟨rfl, C2⟩; replace CX := CX.trans C2; clear C2)
              | (go_at_call 9; (with_reducible refine (HMD.out _).mono ?_); rintro e w3 ⟨rfl, rfl⟩)
              | (at_make; (refine wpList_make_full _ rfl _ _ _ rfl _ 61 iR (.agg #[.bool false, .string ⟨#[]⟩, .bool false, .int .u8 0, .int .u8 0, .int .u8 0, .int .u8 0, .int .u8 0, .int .u8 0, .int .u8 0, .int .u8 0, .int .u8 0, .int .u8 0, .int .u8 0, .int .u8 0, .int .u8 0, .int .u8 0, .int .u8 0, .int .u8 0, .int .i64 0, .int .i64 0, .int .i64 0]) 22 Tryd.underlying44 HIR.out.1 HIR.out.2.1 HIR.out.2.2.1 .i64 .i64 _ _ m rfl rfl rfl rfl HBM.out HMM.out (Nat.le_refl _) ?_; intro w4 own4 gr4; have own := HMK.out w4 _ _ own4; have C3 := Ch.grown gr4; replace CX := CX.trans C3; clear C3 gr4 own4))
              | (go_at_call 27; (with_reducible refine (HN2.out _ _ _ _ own.rd (Nat.le_refl _)).mono ?_); rintro e w5 ⟨⟨g2, rfl⟩, C4⟩; replace CX := CX.trans C4; clear C4)
              | (go_at_call 29; (with_reducible refine (awake12 _).mono ?_); rintro e w6 ⟨rfl, C5⟩; replace CX := CX.trans C5; clear C5))
            go_ret
            exact ⟨rfl, CX.nil_below⟩
          · as_aux_lemma =>
            have HN2 : Hid (∀ w A cap B, Rd w B 22 A m ((List.replicate m dR).flatMap rulC) → B ≤ w.heap.size → Calls Tryd.prog 27 #[.slice A m cap] w fun e w' => e = .returned (.tuple #[.pointer none, .int .i64 1]) ∧ Ch [] w w') := fun w A cap B h hB => (aclNew w A m cap B _ h hB (by omega) (fun r hr => by rw [List.eq_of_mem_replicate hr]; exact dR_good)).mono fun e w' h => ⟨by
              rcases h.1 with ⟨⟨hb, _⟩, _⟩ | ⟨_, he⟩
              · rw [List.length_replicate] at hb; exact absurd hb hm
              · exact he, h.2⟩
            have hmi : ¬ (m : Int) ≤ 32 := by omega
            have hmd : decide ((m : Int) ≤ 32) = false := by simpa using hmi
            clear hm
            go_wp2_with (first
              | go_big_skip
              | (go_at_call 27; (with_reducible refine (HNW.out _ CX).mono ?_); rintro e w1 ⟨rfl, C1⟩; replace CX := CX.trans C1; clear C1)
              | (go_at_call 28; (with_reducible refine (HRF.out _ CX).mono ?_); rintro e w2 ⟨rfl, C2⟩; replace CX := CX.trans C2; clear C2)
              | (go_at_call 9; (with_reducible refine (HMD.out _).mono ?_); rintro e w3 ⟨rfl, rfl⟩)
              | (at_make; (refine wpList_make_full _ rfl _ _ _ rfl _ 61 iR (.agg #[.bool false, .string ⟨#[]⟩, .bool false, .int .u8 0, .int .u8 0, .int .u8 0, .int .u8 0, .int .u8 0, .int .u8 0, .int .u8 0, .int .u8 0, .int .u8 0, .int .u8 0, .int .u8 0, .int .u8 0, .int .u8 0, .int .u8 0, .int .u8 0, .int .u8 0, .int .i64 0, .int .i64 0, .int .i64 0]) 22 Tryd.underlying44 HIR.out.1 HIR.out.2.1 HIR.out.2.2.1 .i64 .i64 _ _ m rfl rfl rfl rfl HBM.out HMM.out (Nat.le_refl _) ?_; intro w4 own4 gr4; have own := HMK.out w4 _ _ own4; have C3 := Ch.grown gr4; replace CX := CX.trans C3; clear C3 gr4 own4))
              | (go_at_call 27; (with_reducible refine (HN2.out _ _ _ _ own.rd (Nat.le_refl _)).mono ?_); rintro e w5 ⟨rfl, C4⟩; replace CX := CX.trans C4; clear C4)
              | (go_at_call 29; (with_reducible refine (awake12 _).mono ?_); rintro e w6 ⟨rfl, C5⟩; replace CX := CX.trans C5; clear C5))
            go_ret
            exact ⟨rfl, CX.nil_below⟩
    · have hi1 : ¬ (k : Int) < n := by omega
      clear HRE HGL
      by_cases hv : l.length ≤ 32 ∧ l.all validR = true
      · have HNW : Hid (∀ w', Ch [] W w' → Calls Tryd.prog 27 #[.slice A n cap] w' fun e w'' => (∃ g, e = .returned (.tuple #[.pointer (some ⟨g, 0, none⟩), .int .i64 0])) ∧ Ch [] w' w'') := fun w' hc => (HN1.out w' hc).mono fun e w'' h => ⟨by
          rcases h.1 with ⟨_, g, he, _⟩ | ⟨hb, _⟩
          · exact ⟨g, he⟩
          · exact absurd hv hb, h.2⟩
        have HRF : Hid (∀ w', Ch [] W w' → Calls Tryd.prog 28 #[.slice A n cap] w' fun e w'' => e = .returned (.bool true) ∧ Ch [] w' w'') := fun w' hc => by
          have hb : (decide (n ≤ 32) && l.all validR) = true := by
            rw [← HNL.out]
            simp [hv]
          have := HR1.out w' hc
          rwa [hb] at this
        clear hv HN1 HR1
        by_cases hm : m ≤ 32
        · as_aux_lemma =>
          have HN2 : Hid (∀ w A cap B, Rd w B 22 A m ((List.replicate m dR).flatMap rulC) → B ≤ w.heap.size → Calls Tryd.prog 27 #[.slice A m cap] w fun e w' => (∃ g, e = .returned (.tuple #[.pointer (some ⟨g, 0, none⟩), .int .i64 0])) ∧ Ch [] w w') := fun w A cap B h hB => (aclNew w A m cap B _ h hB (by omega) (fun r hr => by rw [List.eq_of_mem_replicate hr]; exact dR_good)).mono fun e w' h => ⟨by
            rcases h.1 with ⟨_, g, he, _⟩ | ⟨hb, _⟩
            · exact ⟨g, he⟩
            · exact absurd ⟨by rw [List.length_replicate]; exact hm, rep_valid m⟩ hb, h.2⟩
          have hmi : (m : Int) ≤ 32 := by omega
          have hmd : decide ((m : Int) ≤ 32) = true := by simpa using hmi
          clear hm
          go_wp2_with (first
            | go_big_skip
            | (go_at_call 27; (with_reducible refine (HNW.out _ CX).mono ?_); rintro e w1 ⟨⟨g1, rfl⟩, C1⟩; replace CX := CX.trans C1; clear C1)
            | (go_at_call 28; (with_reducible refine (HRF.out _ CX).mono ?_); rintro e w2 ⟨rfl, C2⟩; replace CX := CX.trans C2; clear C2)
            | (go_at_call 9; (with_reducible refine (HMD.out _).mono ?_); rintro e w3 ⟨rfl, rfl⟩)
            | (at_make; (refine wpList_make_full _ rfl _ _ _ rfl _ 61 iR (.agg #[.bool false, .string ⟨#[]⟩, .bool false, .int .u8 0, .int .u8 0, .int .u8 0, .int .u8 0, .int .u8 0, .int .u8 0, .int .u8 0, .int .u8 0, .int .u8 0, .int .u8 0, .int .u8 0, .int .u8 0, .int .u8 0, .int .u8 0, .int .u8 0, .int .u8 0, .int .i64 0, .int .i64 0, .int .i64 0]) 22 Tryd.underlying44 HIR.out.1 HIR.out.2.1 HIR.out.2.2.1 .i64 .i64 _ _ m rfl rfl rfl rfl HBM.out HMM.out (Nat.le_refl _) ?_; intro w4 own4 gr4; have own := HMK.out w4 _ _ own4; have C3 := Ch.grown gr4; replace CX := CX.trans C3; clear C3 gr4 own4))
            | (go_at_call 27; (with_reducible refine (HN2.out _ _ _ _ own.rd (Nat.le_refl _)).mono ?_); rintro e w5 ⟨⟨g2, rfl⟩, C4⟩; replace CX := CX.trans C4; clear C4)
            | (go_at_call 29; (with_reducible refine (awake12 _).mono ?_); rintro e w6 ⟨rfl, C5⟩; replace CX := CX.trans C5; clear C5))
          go_ret
          exact ⟨rfl, CX.nil_below⟩
        · as_aux_lemma =>
          have HN2 : Hid (∀ w A cap B, Rd w B 22 A m ((List.replicate m dR).flatMap rulC) → B ≤ w.heap.size → Calls Tryd.prog 27 #[.slice A m cap] w fun e w' => e = .returned (.tuple #[.pointer none, .int .i64 1]) ∧ Ch [] w w') := fun w A cap B h hB => (aclNew w A m cap B _ h hB (by omega) (fun r hr => by rw [List.eq_of_mem_replicate hr]; exact dR_good)).mono fun e w' h => ⟨by
            rcases h.1 with ⟨⟨hb, _⟩, _⟩ | ⟨_, he⟩
            · rw [List.length_replicate] at hb; exact absurd hb hm
            · exact he, h.2⟩
          have hmi : ¬ (m : Int) ≤ 32 := by omega
          have hmd : decide ((m : Int) ≤ 32) = false := by simpa using hmi
          clear hm
          go_wp2_with (first
            | go_big_skip
            | (go_at_call 27; (with_reducible refine (HNW.out _ CX).mono ?_); rintro e w1 ⟨⟨g1, rfl⟩, C1⟩; replace CX := CX.trans C1; clear C1)
            | (go_at_call 28; (with_reducible refine (HRF.out _ CX).mono ?_); rintro e w2 ⟨rfl, C2⟩; replace CX := CX.trans C2; clear C2)
            | (go_at_call 9; (with_reducible refine (HMD.out _).mono ?_); rintro e w3 ⟨rfl, rfl⟩)
            | (at_make; (refine wpList_make_full _ rfl _ _ _ rfl _ 61 iR (.agg #[.bool false, .string ⟨#[]⟩, .bool false, .int .u8 0, .int .u8 0, .int .u8 0, .int .u8 0, .int .u8 0, .int .u8 0, .int .u8 0, .int .u8 0, .int .u8 0, .int .u8 0, .int .u8 0, .int .u8 0, .int .u8 0, .int .u8 0, .int .u8 0, .int .u8 0, .int .i64 0, .int .i64 0, .int .i64 0]) 22 Tryd.underlying44 HIR.out.1 HIR.out.2.1 HIR.out.2.2.1 .i64 .i64 _ _ m rfl rfl rfl rfl HBM.out HMM.out (Nat.le_refl _) ?_; intro w4 own4 gr4; have own := HMK.out w4 _ _ own4; have C3 := Ch.grown gr4; replace CX := CX.trans C3; clear C3 gr4 own4))
            | (go_at_call 27; (with_reducible refine (HN2.out _ _ _ _ own.rd (Nat.le_refl _)).mono ?_); rintro e w5 ⟨rfl, C4⟩; replace CX := CX.trans C4; clear C4)
            | (go_at_call 29; (with_reducible refine (awake12 _).mono ?_); rintro e w6 ⟨rfl, C5⟩; replace CX := CX.trans C5; clear C5))
          go_ret
          exact ⟨rfl, CX.nil_below⟩
      · have HNW : Hid (∀ w', Ch [] W w' → Calls Tryd.prog 27 #[.slice A n cap] w' fun e w'' => e = .returned (.tuple #[.pointer none, .int .i64 1]) ∧ Ch [] w' w'') := fun w' hc => (HN1.out w' hc).mono fun e w'' h => ⟨by
          rcases h.1 with ⟨hb, _⟩ | ⟨_, he⟩
          · exact absurd hb hv
          · exact he, h.2⟩
        have HRF : Hid (∀ w', Ch [] W w' → Calls Tryd.prog 28 #[.slice A n cap] w' fun e w'' => e = .returned (.bool false) ∧ Ch [] w' w'') := fun w' hc => by
          have hb : (decide (n ≤ 32) && l.all validR) = false := by
            rw [← HNL.out]
            cases hx : l.all validR
            · simp
            · simp [hx] at hv ⊢; omega
          have := HR1.out w' hc
          rwa [hb] at this
        clear hv HN1 HR1
        by_cases hm : m ≤ 32
        · as_aux_lemma =>
          have HN2 : Hid (∀ w A cap B, Rd w B 22 A m ((List.replicate m dR).flatMap rulC) → B ≤ w.heap.size → Calls Tryd.prog 27 #[.slice A m cap] w fun e w' => (∃ g, e = .returned (.tuple #[.pointer (some ⟨g, 0, none⟩), .int .i64 0])) ∧ Ch [] w w') := fun w A cap B h hB => (aclNew w A m cap B _ h hB (by omega) (fun r hr => by rw [List.eq_of_mem_replicate hr]; exact dR_good)).mono fun e w' h => ⟨by
            rcases h.1 with ⟨_, g, he, _⟩ | ⟨hb, _⟩
            · exact ⟨g, he⟩
            · exact absurd ⟨by rw [List.length_replicate]; exact hm, rep_valid m⟩ hb, h.2⟩
          have hmi : (m : Int) ≤ 32 := by omega
          have hmd : decide ((m : Int) ≤ 32) = true := by simpa using hmi
          clear hm
          go_wp2_with (first
            | go_big_skip
            | (go_at_call 27; (with_reducible refine (HNW.out _ CX).mono ?_); rintro e w1 ⟨rfl, C1⟩; replace CX := CX.trans C1; clear C1)
            | (go_at_call 28; (with_reducible refine (HRF.out _ CX).mono ?_); rintro e w2 ⟨rfl, C2⟩; replace CX := CX.trans C2; clear C2)
            | (go_at_call 9; (with_reducible refine (HMD.out _).mono ?_); rintro e w3 ⟨rfl, rfl⟩)
            | (at_make; (refine wpList_make_full _ rfl _ _ _ rfl _ 61 iR (.agg #[.bool false, .string ⟨#[]⟩, .bool false, .int .u8 0, .int .u8 0, .int .u8 0, .int .u8 0, .int .u8 0, .int .u8 0, .int .u8 0, .int .u8 0, .int .u8 0, .int .u8 0, .int .u8 0, .int .u8 0, .int .u8 0, .int .u8 0, .int .u8 0, .int .u8 0, .int .i64 0, .int .i64 0, .int .i64 0]) 22 Tryd.underlying44 HIR.out.1 HIR.out.2.1 HIR.out.2.2.1 .i64 .i64 _ _ m rfl rfl rfl rfl HBM.out HMM.out (Nat.le_refl _) ?_; intro w4 own4 gr4; have own := HMK.out w4 _ _ own4; have C3 := Ch.grown gr4; replace CX := CX.trans C3; clear C3 gr4 own4))
            | (go_at_call 27; (with_reducible refine (HN2.out _ _ _ _ own.rd (Nat.le_refl _)).mono ?_); rintro e w5 ⟨⟨g2, rfl⟩, C4⟩; replace CX := CX.trans C4; clear C4)
            | (go_at_call 29; (with_reducible refine (awake12 _).mono ?_); rintro e w6 ⟨rfl, C5⟩; replace CX := CX.trans C5; clear C5))
          go_ret
          exact ⟨rfl, CX.nil_below⟩
        · as_aux_lemma =>
          have HN2 : Hid (∀ w A cap B, Rd w B 22 A m ((List.replicate m dR).flatMap rulC) → B ≤ w.heap.size → Calls Tryd.prog 27 #[.slice A m cap] w fun e w' => e = .returned (.tuple #[.pointer none, .int .i64 1]) ∧ Ch [] w w') := fun w A cap B h hB => (aclNew w A m cap B _ h hB (by omega) (fun r hr => by rw [List.eq_of_mem_replicate hr]; exact dR_good)).mono fun e w' h => ⟨by
            rcases h.1 with ⟨⟨hb, _⟩, _⟩ | ⟨_, he⟩
            · rw [List.length_replicate] at hb; exact absurd hb hm
            · exact he, h.2⟩
          have hmi : ¬ (m : Int) ≤ 32 := by omega
          have hmd : decide ((m : Int) ≤ 32) = false := by simpa using hmi
          clear hm
          go_wp2_with (first
            | go_big_skip
            | (go_at_call 27; (with_reducible refine (HNW.out _ CX).mono ?_); rintro e w1 ⟨rfl, C1⟩; replace CX := CX.trans C1; clear C1)
            | (go_at_call 28; (with_reducible refine (HRF.out _ CX).mono ?_); rintro e w2 ⟨rfl, C2⟩; replace CX := CX.trans C2; clear C2)
            | (go_at_call 9; (with_reducible refine (HMD.out _).mono ?_); rintro e w3 ⟨rfl, rfl⟩)
            | (at_make; (refine wpList_make_full _ rfl _ _ _ rfl _ 61 iR (.agg #[.bool false, .string ⟨#[]⟩, .bool false, .int .u8 0, .int .u8 0, .int .u8 0, .int .u8 0, .int .u8 0, .int .u8 0, .int .u8 0, .int .u8 0, .int .u8 0, .int .u8 0, .int .u8 0, .int .u8 0, .int .u8 0, .int .u8 0, .int .u8 0, .int .u8 0, .int .i64 0, .int .i64 0, .int .i64 0]) 22 Tryd.underlying44 HIR.out.1 HIR.out.2.1 HIR.out.2.2.1 .i64 .i64 _ _ m rfl rfl rfl rfl HBM.out HMM.out (Nat.le_refl _) ?_; intro w4 own4 gr4; have own := HMK.out w4 _ _ own4; have C3 := Ch.grown gr4; replace CX := CX.trans C3; clear C3 gr4 own4))
            | (go_at_call 27; (with_reducible refine (HN2.out _ _ _ _ own.rd (Nat.le_refl _)).mono ?_); rintro e w5 ⟨rfl, C4⟩; replace CX := CX.trans C4; clear C4)
            | (go_at_call 29; (with_reducible refine (awake12 _).mono ?_); rintro e w6 ⟨rfl, C5⟩; replace CX := CX.trans C5; clear C5))
          go_ret
          exact ⟨rfl, CX.nil_below⟩
end Go.Proofs.YtbmbnibamhgfmaaDoor
