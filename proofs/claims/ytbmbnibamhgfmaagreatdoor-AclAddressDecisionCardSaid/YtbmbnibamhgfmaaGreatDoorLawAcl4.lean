/- The walk of AclAddressDecision (printed by mk_lawacl1.py). -/
import Derived.Test.YtbmbnibamhgfmaaGreatDoorLawAcl0
import Derived.Test.YtbmbnibamhgfmaaGreatDoorML
import Derived.Test.YtbmbnibamhgfmaaGreatDoorMD
import Derived.Test.YtbmbnibamhgfmaaGreatDoorRows
import Derived.Deep.DeepCutAuto
import Derived.Deep.CutRange
namespace Go.Proofs.YtbmbnibamhgfmaaGreatDoor
open Go.ChangeShapes Go.WideShapes Go.ChangeAt Go.RowKit

set_option maxRecDepth 100000 in
set_option maxHeartbeats 16000000 in
theorem aclAddressDecision_came {H : Type} {enc : TypeId × Value → H} (W : World) (args : Array Value) (ds : List (DataW H)) (_ : laidMetH Tryz.prog Rows.aclAddressDecisionRow.laid W) (h : Came enc Tryz.prog Tryz.f3 W args ds) :
    Calls Tryz.prog 3 args W fun e W' => e = .returned (.bool true) ∧ Below W.heap.size W W' := by
  obtain ⟨v0, v1, v2, v3, d0, d1, d2, d3, rfl, a0, a1, a2, a3⟩ := h.args4 rfl
  obtain ⟨all, rfl⟩ := a3.bool Tryz.underlying4
  obtain ⟨Aa, na, capa, la, rfl, hna1, hna2, hrla, hnla, hgla⟩ := a1.addrsL
  obtain ⟨Ap, np, capp, zs, rfl, hnp1, hnp2, _, hrp, _⟩ := a2.ints Tryz.underlying24 Tryz.underlying3 (by kernel_rfl)
  unfold maxLen at hna2 hnp2
  obtain ⟨A, n, cap, l, rfl, hn1, hn2, hrl, hnl, hnm, hgl⟩ := a0.rules
  unfold maxLen at hn2
  have HGR : Hid (∀ w', Ch [] W w' → Calls Tryz.prog 9 #[.slice A n cap, .int .i64 12, .bool all] w' (RulesRes w' 12 all)) := fun w' hc => genRules w' A n cap W.heap.size l (hrl.ch hc (Nat.le_refl _) (by simp)) hc.size hnm hgl 12 (by decide) all
  clear hrl hgl hnl hnm
  clear h a0 a1 a2 a3
  have hrEa := hrla.rangeE (fun p hp => addr_len (hgla p hp).1) (by decide)
  have HREA := hid hrEa.2
  have HGLA := hid hgla
  have HNLA := hid hnla
  have HRP := hid (fun (w' : World) (c : Ch [] W w') => hrp.ch c (Nat.le_refl _) (by simp))
  clear hrla hgla hrEa hnla hrp
  have CX : Ch [] W W := Ch.refl _ _
  go_enter Tryz.func3, Tryz.ntmps3
  go_upto_region 5 with (first
    | go_big_skip
    | (go_at_call 9; (with_reducible refine (HGR.out _ CX).mono ?_); rintro e w1 ⟨⟨A2, c2, L, rfl, own, hL, hok, _⟩, C1⟩; have HOK := hid hok; clear hok; replace CX := CX.trans C1; have hBA : W.heap.size ≤ w1.heap.size := CX.size; clear C1)
    | (go_at_call 10; (with_reducible refine (aclNewOk _ A2 c2 _ L own.rd (Nat.le_refl _) (by omega) HOK.out).mono ?_); rintro e w2 ⟨g, rfl, M, C2⟩; replace own := own.ch C2 (by simp); replace CX := CX.trans C2; clear C2))
  have HOK2 : Hid (∀ r ∈ L, validR r = true ∧ GoodR r) := HOK.out
  go_wp2_with fail
  go_loopw [12] (fun i wr => ∃ k : Nat, i = .int .i64 k ∧ k ≤ na ∧ k ≤ 20 ∧ Ch [] w2 wr) (fun i _ => 20 - (intOf i).toNat)
  case atStart => exact ⟨0, rfl, by omega, by omega, Ch.refl _ _⟩
  case round =>
    obtain ⟨k, rfl, hk, hk2, CW⟩ := hrel
    by_cases hlt : k < na
    · by_cases hl2 : k < 20
      · obtain ⟨b, off, rfl, hb, hr⟩ := HREA.out (by omega)
        obtain ⟨o, ho⟩ : ∃ o, la[k]? = some o := ⟨_, List.getElem?_eq_getElem (by rw [HNLA.out]; exact hlt)⟩
        have hgo := HGLA.out o (List.mem_of_getElem? ho)
        obtain ⟨six, bs⟩ := o
        have HR : Hid (∀ w', Ch [] W w' → w'.rangeAt b (off + k * 17) (addrC six bs)) := fun w' c => range_ch (hr k _ ho) c hb (by simp)
        replace hgo : GoodA bs := hgo
        have HIT := hid (addr_inf (six := six) hgo.1)
        have HSA := hid (genSome six bs hgo)
        have hgs := someA_good (six := six) hgo
        generalize addrC six bs = ca at HR HIT HSA
        generalize someA six bs = sa at hgs HSA
        obtain ⟨s6, sv⟩ := sa
        have HGS : Hid (GoodA sv) := hgs
        replace HSA : Hid (∀ w, Calls Tryz.prog 11 #[.agg ca.toArray] w fun e w' => e = .returned (.agg (addrC s6 sv).toArray) ∧ Ch [] w w') := HSA
        have HIU := hid (addr_inf (six := s6) HGS.out.1)
        have HLU : Hid ((addrC false zeros).length = (addrC s6 sv).length) := (addr_len (six := false) (bs := zeros) rfl).trans (addr_len (six := s6) HGS.out.1).symm
        clear hgo hgs ho hr
        have hi0 : (0 : Int) ≤ k := by omega
        have hi1 : (k : Int) < na := by omega
        have hi2 : (k : Int) < 20 := by omega
        go_upto_if 47 with (first
          | go_big_skip
          | (refine wpList_load_want rfl 32 _ rfl b (off + k * 17) rfl ca _ (HR.out _ (CX.trans CW)) Tryz.underlying32 rfl HIT.out ?_)
          | (go_at_call 11; (with_reducible refine (HSA.out _).mono ?_); rintro e w4 ⟨rfl, C4⟩; replace CW := CW.trans C4; clear C4)
          | (refine wpList_storeB rfl 32 _ _ rfl w4.heap.size 32 (addrC false zeros) (addrC s6 sv) rfl rfl (Blk.new _ _ _) HIU.out HLU.out (addr_one' _ _) ?_; intro w5 BU D Z; clear Z; have D2 := ((Ch.refl [] w4).alloc _).step D (fun i hi => .inr (by simp at hi; omega)); clear D; replace CW := CW.trans D2; clear D2))
        generalize w4.heap.size = gu at BU ⊢
        go_cut [14] from 29 to 79 (fun v wx => ∃ port : Int, v = .int .i64 port ∧ wx = w5)
        case first => as_aux_lemma =>
          by_cases hkp : k < np
          · obtain ⟨bp, op, rfl, hbp, e0⟩ := (HRP.out _ (CX.trans CW)).at_ hkp
            generalize at_ zs k = z at e0
            have hkpi : (k : Int) < np := by omega
            go_upto_if 55 with (first
              | go_big_skip
              | (go_at_call 12; (with_reducible refine (genPortE _ _).mono ?_); rintro e w6 ⟨⟨p, rfl, _, _⟩, rfl⟩))
            generalize ((k : Int) % 5 == 4) = b5
            cases b5
            · go_wp2_with fail
              go_meet
              exact ⟨_, rfl, rfl⟩
            · go_wp2_with fail
              go_meet
              exact ⟨_, rfl, rfl⟩
          · have hkpi : ¬ (k : Int) < np := by omega
            go_wp2_with fail
            go_meet
            exact ⟨_, rfl, rfl⟩
        case rest =>
          obtain ⟨port, rfl, hw⟩ := hcut
          subst hw
          go_upto_region 13 with fail
          have H1 := hid (fun (x : After wc) => aclMatchA (M.nil (CW.trans x.ch)) HOK2.out (by omega) s6 sv HGS.out port)
          have H2 := hid (fun (x : After wc) => refMatchA x.w A2 L.length c2 _ L (own.rd.ch (CW.trans x.ch) (Nat.le_refl _) (by simp)) (CW.trans x.ch).size (by omega) (fun r hr => (HOK2.out r hr).2) s6 sv HGS.out port)
          have H3 := hid (fun (x : After wc) => aclAllowA (M.nil (CW.trans x.ch)) HOK2.out (by omega) s6 sv HGS.out port)
          have H4 := hid (fun (x : After wc) => refAllowA x.w A2 c2 _ L (own.rd.ch (CW.trans x.ch) (Nat.le_refl _) (by simp)) (CW.trans x.ch).size (by omega) (fun r hr => (HOK2.out r hr).2) s6 sv HGS.out port)
          generalize optI (bestB L (pA s6 sv port) rkA L.length) = i1 at H1 H2
          generalize allowA L s6 sv port = b1 at H3 H4
          have ni1 : (i1 != i1) = false := by simp
          have nb1 : (b1 != b1) = false := by simp
          have HRU := hid (fun (w' : World) (c : Ch [] wc w') => (BU.ch c (by simp)).range)
          clear HSA HIT HR BU HLU
          generalize addrC s6 sv = cu at H1 H2 H3 H4 HIU HRU ⊢
          refine wp_region_quietA (wc) (by kernel_rfl) (by kernel_rfl) (Ch.refl _ _) ?_
          repeat (first
            | (go_big_quiet_want; refine quiet_rowA 32 _ rfl gu 0 rfl cu _ HRU.out Tryz.underlying32 rfl HIU.out ?_; simp only [Act.put, List.setIfInBounds_toArray, List.set_cons_succ, List.set_cons_zero]; go_big_quiet_on)
            | go_big_quiet_step (first
              | (go_at_call 13; with_reducible exact after_of (H1.out _))
              | (go_at_call 14; with_reducible exact after_of (H2.out _))
              | (go_at_call 15; with_reducible exact after_of (H3.out _))
              | (go_at_call 16; with_reducible exact after_of (H4.out _))))
          refine wpQuiet_nil ?_
          intro wq hwq
          go_wp2_with fail
          go_roundw
          case rel => exact ⟨k + 1, by go_num, by omega, by omega, CW.trans hwq⟩
          case measure => simp [intOf]; omega
      · have hi1 : (k : Int) < na := by omega
        have hi2 : ¬ (k : Int) < 20 := by omega
        go_wp2_with (first
          | go_big_skip
          | (go_at_call 17; (with_reducible refine (awake12 _).mono ?_); rintro e w7 ⟨rfl, C7⟩))
        go_ret
        exact ⟨rfl, ((CX.trans CW).trans C7).nil_below⟩
    · have hi1 : ¬ (k : Int) < na := by omega
      go_wp2_with (first
        | go_big_skip
        | (go_at_call 17; (with_reducible refine (awake12 _).mono ?_); rintro e w7 ⟨rfl, C7⟩))
      go_ret
      exact ⟨rfl, ((CX.trans CW).trans C7).nil_below⟩
end Go.Proofs.YtbmbnibamhgfmaaGreatDoor
