/- The walk of TenantOwnResources. -/
import Derived.Test.YtbmbnibamhgfmaaGreatDoorLawTen0
import Derived.Test.YtbmbnibamhgfmaaGreatDoorML
import Derived.Test.YtbmbnibamhgfmaaGreatDoorMI
import Derived.Test.YtbmbnibamhgfmaaGreatDoorMD
import Derived.Test.YtbmbnibamhgfmaaGreatDoorRows
import Derived.Deep.DeepCutAuto
import Derived.Deep.CutRange
namespace Go.Proofs.YtbmbnibamhgfmaaGreatDoor
open Go.ChangeShapes Go.WideShapes Go.ChangeAt Go.RowKit

theorem X_at {X : List En} {T : List Tn} (h : X.map (·.t) = T) {k : Nat} (hk : k < T.length) : ∃ e, X[k]? = some e ∧ T[k]? = some e.t := by
  subst h
  rw [List.length_map] at hk
  exact ⟨X[k], List.getElem?_eq_getElem hk, by rw [List.getElem?_map, List.getElem?_eq_getElem hk]; rfl⟩
theorem X_set {X : List En} {T : List Tn} (h : X.map (·.t) = T) {k : Nat} {e e' : En} (hk : X[k]? = some e) (he : e'.t = e.t) : (X.set k e').map (·.t) = T := by
  rw [List.map_set, he, ← h]
  obtain ⟨hlt, hx⟩ := List.getElem?_eq_some_iff.1 hk
  have : (X.map (·.t))[k]'(by simpa using hlt) = e.t := by simp [hx]
  rw [← this, List.set_getElem_self]
theorem all_set {X : List En} {P : En → Prop} (h : ∀ e ∈ X, P e) {k : Nat} {e' : En} (he : P e') : ∀ e ∈ X.set k e', P e := fun e hm => by
  rcases List.mem_or_eq_of_mem_set hm with h1 | h1
  · exact h e h1
  · rw [h1]; exact he
theorem SomeT.keep {w w' : World} {B : Nat} {A : Option Addr} {c : Nat} {T : List Tn} {S : List Nat} (h : SomeT w B A c T) (hc : Ch S w w') (hA : ∀ b ∈ blkOf A, b ∉ S) (hR : ∀ t ∈ T, ∀ b ∈ blkOf t.A, b ∉ S) : SomeT w' B A c T :=
  ⟨h.own.ch hc hA, h.ok, fun t ht => ⟨(h.r t ht).1.ch hc (hR t ht), (h.r t ht).2⟩⟩
set_option maxRecDepth 100000 in
set_option maxHeartbeats 16000000 in
theorem tenantOwnResources_came {H : Type} {enc : TypeId × Value → H} (W : World) (args : Array Value) (ds : List (DataW H)) (_ : laidMetH Tryz.prog Rows.tenantOwnResourcesRow.laid W) (h : Came enc Tryz.prog Tryz.f8 W args ds) :
    Calls Tryz.prog 8 args W fun e W' => e = .returned (.bool true) ∧ Below W.heap.size W W' := by
  obtain ⟨v0, v1, v2, d0, d1, d2, rfl, a0, a1, a2⟩ := h.args3 rfl
  obtain ⟨Aa, na, capa, la, rfl, hna1, hna2, hrla, hnla, hgla⟩ := a1.addrsL
  obtain ⟨Ap, np, capp, zs, rfl, hnp1, hnp2, _, hrp, _⟩ := a2.ints Tryz.underlying24 Tryz.underlying3 (by kernel_rfl)
  unfold maxLen at hna2 hnp2
  obtain ⟨A, n0, cap, l, rfl, hn1, hrl, hnl, hnm, hgl⟩ := a0.tns
  have HST := hid (someTen W A n0 cap W.heap.size l hrl (Nat.le_refl _) hnm (fun t ht => ⟨(hgl t ht).1, (hgl t ht).2.1⟩))
  clear hrl hgl hnl hnm
  clear h a0 a1 a2
  have hrEa := hrla.rangeE (fun p hp => addr_len (hgla p hp).1) (by decide)
  have HREA := hid hrEa.2
  have HGLA := hid hgla
  have HNLA := hid hnla
  have HRP := hid (fun (w' : World) (c : Ch [] W w') => hrp.ch c (Nat.le_refl _) (by simp))
  clear hrla hgla hrEa hnla hrp
  have CX : Ch [] W W := Ch.refl _ _
  go_enter Tryz.func8, Tryz.ntmps8
  go_upto_region 6 with (first
    | go_big_skip
    | (go_at_call 30; (with_reducible refine HST.out.mono ?_); rintro e w1 ⟨⟨A1, c1, T, rfl, hS, hT1, hT5⟩, C1⟩; replace CX := CX.trans C1; clear C1; have HS := hid hS; have HCK := hid (hS.chk hT1 hT5); have HSB : Hid ((∀ b ∈ blkOf A1, b < w1.heap.size) ∧ ∀ t ∈ T, ∀ b ∈ blkOf t.A, b < w1.heap.size) := ⟨fun b hb => (hS.own.blks b hb).2, fun t ht b hb => ((hS.r t ht).1.blks b hb).2⟩; clear hS; obtain ⟨n, hn⟩ : ∃ n, T.length = n := ⟨_, rfl⟩; rw [hn] at hT1 hT5 ⊢; have HN := hid hn; clear hn)
    | (go_at_call 31; (with_reducible refine (tenNewOk w1 A1 n c1 w1.heap.size T (by rw [← HN.out]; exact HS.out.own.rd) (Nat.le_refl _) (by omega) HS.out.tin HCK.out).mono ?_); rintro e w2 ⟨g, rfl, X0, R0, hX0, hz0, C2⟩; have sz12 := C2.size; have szW := CX.size; have HFF : Hid (∀ b ∈ newB w1 w2, w1.heap.size ≤ b ∧ b < w2.heap.size) := fun b hb => newB_ge hb; replace HS : Hid (SomeT w2 W.heap.size A1 c1 T) := HS.out.ch C2 (by simp); have HR0 := hid R0; have HX0 := hid hX0; have HZ0 := hid hz0; replace CX := CX.trans C2; clear C2 R0 hX0 hz0)
    | (go_at_call 32; (with_reducible refine (refNew w2 A1 n c1 w2.heap.size T (by rw [← HN.out]; exact HS.out.own.rd) (Nat.le_refl _) (by omega) X0 HX0.out HZ0.out).mono ?_); rintro e w3 ⟨rfl, ⟨BA, bc, AA, ac, RF0⟩, C3⟩; have sz23 := C3.size; have HF0 := hid RF0; replace HR0 : Hid (RegM w3 g X0 (newB w1 w2)) := HR0.out.nil C3; replace HS : Hid (SomeT w3 W.heap.size A1 c1 T) := HS.out.ch C3 (by simp); replace CX := CX.trans C3; clear C3 RF0))
  generalize newB w1 w2 = FF at HFF HR0
  generalize w2.heap.size = y at *
  have HOK0 : Hid (∀ e ∈ X0, e.bd.Ok) := fun e he => by
    obtain ⟨k, hk⟩ := List.getElem?_of_mem he
    have ht : T[k]? = some e.t := by rw [← HX0.out, List.getElem?_map, hk]; rfl
    have ok := HS.out.ok k _ ht
    rw [(HZ0.out e he).1]
    have := ok.b0; have := ok.b1; have := ok.w0; have := ok.w1
    constructor <;> simp only <;> omega
  clear HZ0
  go_wp2_with fail
  go_loopw [11] (fun i wr => ∃ (k : Nat) (X : List En), i = .int .i64 k ∧ k ≤ np ∧ k ≤ 60 ∧ Hid (RegM wr g X FF) ∧ Hid (RfM wr y n A1 c1 X BA bc AA ac) ∧ Hid (X.map (·.t) = T) ∧ Hid (∀ e ∈ X, e.bd.Ok) ∧ Hid (SomeT wr W.heap.size A1 c1 T) ∧ Ch [] W wr) (fun i _ => 60 - (intOf i).toNat)
  case atStart => exact ⟨0, X0, rfl, by omega, by omega, HR0, HF0, HX0, HOK0, HS, CX⟩
  case round =>
    clear HR0 HF0 HX0 HOK0 HS CX
    obtain ⟨k, X, rfl, hk, hk6, HR, HF, HX, HOK, HS, CX⟩ := hrel
    obtain ⟨bg, hbg⟩ : ∃ bg, decide ((k : Int) < np ∧ (k : Int) < 60) = bg := ⟨_, rfl⟩
    go_upto_region 7 with fail
    go_cut [41] from 34 to 41 (fun v wx => v = .bool bg ∧ wx = wr)
    case first =>
      by_cases h1 : (k : Int) < np
      · by_cases h2 : (k : Int) < 60
        · rw [decide_eq_true ⟨h1, h2⟩] at hbg
          subst hbg
          go_wp2_with go_big_skip
          go_meet
          exact ⟨rfl, rfl⟩
        · rw [decide_eq_false (fun h => h2 h.2)] at hbg
          subst hbg
          go_wp2_with go_big_skip
          go_meet
          exact ⟨rfl, rfl⟩
      · rw [decide_eq_false (fun h => h1 h.1)] at hbg
        subst hbg
        go_wp2_with go_big_skip
        go_meet
        exact ⟨rfl, rfl⟩
    case rest =>
      obtain ⟨rfl, hw⟩ := hcut
      subst hw
      cases bg
      · as_aux_lemma =>
        clear hbg
        have hXn : X.length = n := by
          have := congrArg List.length HX.out
          rw [List.length_map] at this
          rw [this]; exact HN.out
        obtain ⟨pm, rfl, _, _⟩ := HS.out.own.form (by rw [HN.out]; omega)
        go_wp2_with fail
        go_loopw [14] (fun i wr => ∃ k2 : Nat, i = .int .i64 k2 ∧ k2 ≤ n ∧ Ch [] wc wr) (fun i _ => n - (intOf i).toNat)
        case atStart => exact ⟨0, rfl, by omega, Ch.refl _ _⟩
        case round =>
          obtain ⟨k2, rfl, hk2, CW⟩ := hrel
          obtain ⟨wo, hwo⟩ : ∃ wo, wo = wr := ⟨_, rfl⟩
          subst hwo
          by_cases hlt : k2 < n
          · obtain ⟨e, hej, hte⟩ := X_at HX.out (k := k2) (by rw [HN.out]; exact hlt)
            have HAC := hid (regACL (HR.out.nil CW) hej)
            have HBU := hid (regBud (HR.out.nil CW) hej)
            obtain ⟨p, rfl, hcb, _⟩ := HF.out.bcell hej
            have e1 : wo.cell? ⟨y, 1, none⟩ = some (.slice (some ⟨p, 0, none⟩) n bc) := by rw [← hXn]; exact ((HF.out.blk.ch CW (by simp)).cell 1)
            have h3 := hcb 3 _ rfl
            have e3 : wo.cell? ⟨p, k2 * 4 + 3, none⟩ = some (.int .i64 e.bd.used) := (CW.cell (p := ⟨p, k2 * 4 + 3, none⟩) (World.block_lt_of_cell? _ _ h3) (by simp)).trans h3
            have hok := HS.out.ok k2 _ hte
            have HOK2 : Hid (∀ r ∈ e.t.L, validR r = true ∧ GoodR r) := hok.L
            have hLn := hok.n
            have HRU := hid (HS.out.r e.t (List.mem_of_getElem? hte)).1
            have HM2 : Hid (wc.cell? ⟨pm, k2 * 6 + 2, none⟩ = some (.slice e.t.A e.t.L.length e.t.c)) := by
              obtain ⟨b, off, e1, _, hc⟩ := HS.out.own.rd.2 (by rw [HN.out]; omega)
              simp only [Option.some.injEq, Addr.mk.injEq] at e1
              obtain ⟨rfl, rfl, _⟩ := e1
              have := hc _ _ (flat_get T (f := tnC) (size := 6) (fun x _ => tn_len x) k2 e.t hte (j := 2) (v := .slice e.t.A e.t.L.length e.t.c) rfl)
              rwa [Nat.zero_add] at this
            clear hej hte hcb h3 hok
            have hi0 : (0 : Int) ≤ k2 := by omega
            have hi1 : (k2 : Int) < n := by omega
            have huu : (e.bd.used != e.bd.used) = false := by simp
            go_upto_region 17 with (first
              | go_big_skip
              | (go_at_call 37; (with_reducible refine HAC.out.mono ?_); rintro e5 w' ⟨⟨ga, F, rfl, hM, _⟩, rfl⟩; have HM := hid hM; clear hM)
              | (go_at_call 34; (with_reducible refine HBU.out.mono ?_); rintro e5 w' ⟨⟨gb, rfl, BB, _⟩, rfl⟩))
            go_quiet ((go_at_call 38; with_reducible exact Calls.quiet_of_same ((budUsed gb e.bd _ (BB.drewN _)).mono fun _ _ h => ⟨h.1, h.2.symm⟩)))
            clear e1 e3 huu BB
            go_wp2_with fail
            go_loopw [17] (fun i wq => ∃ k3 : Nat, i = .int .i64 k3 ∧ k3 ≤ na ∧ k3 ≤ 8 ∧ Ch [] wo wq) (fun i _ => 8 - (intOf i).toNat)
            case atStart => exact ⟨0, rfl, by omega, by omega, (Ch.refl _ _).drewN _⟩
            case round =>
              obtain ⟨k3, rfl, hk3, hk38, CQ⟩ := hrel
              obtain ⟨bg, hbg⟩ : ∃ bg, decide ((k3 : Int) < na ∧ (k3 : Int) < 8) = bg := ⟨_, rfl⟩
              go_upto_region 20 with fail
              go_cut [110] from 103 to 110 (fun v wx => v = .bool bg ∧ wx = wr)
              case first =>
                by_cases h1 : (k3 : Int) < na
                · by_cases h2 : (k3 : Int) < 8
                  · rw [decide_eq_true ⟨h1, h2⟩] at hbg
                    subst hbg
                    go_wp2_with go_big_skip
                    go_meet
                    exact ⟨rfl, rfl⟩
                  · rw [decide_eq_false (fun h => h2 h.2)] at hbg
                    subst hbg
                    go_wp2_with go_big_skip
                    go_meet
                    exact ⟨rfl, rfl⟩
                · rw [decide_eq_false (fun h => h1 h.1)] at hbg
                  subst hbg
                  go_wp2_with go_big_skip
                  go_meet
                  exact ⟨rfl, rfl⟩
              case rest =>
                obtain ⟨rfl, hw⟩ := hcut
                subst hw
                cases bg
                · clear hbg
                  go_wp2_with fail
                  go_roundw
                  case rel => exact ⟨k2 + 1, by go_num, by omega, CW.trans CQ⟩
                  case measure => simp [intOf]; omega
                · have hbg2 := of_decide_eq_true hbg
                  have hl3 : k3 < na := by omega
                  have hl8 : k3 < 8 := by omega
                  clear hbg hbg2
                  obtain ⟨b, off, rfl, hb, hr⟩ := HREA.out (by omega)
                  obtain ⟨o, ho⟩ : ∃ o, la[k3]? = some o := ⟨_, List.getElem?_eq_getElem (by rw [HNLA.out]; exact hl3)⟩
                  have hgo := HGLA.out o (List.mem_of_getElem? ho)
                  obtain ⟨six, bs⟩ := o
                  have HRA : Hid (∀ w', Ch [] W w' → w'.rangeAt b (off + k3 * 17) (addrC six bs)) := fun w' c => range_ch (hr k3 _ ho) c hb (by simp)
                  replace hgo : GoodA bs := hgo
                  have HIT := hid (addr_inf (six := six) hgo.1)
                  have HSA := hid (genSome six bs hgo)
                  have hgs := someA_good (six := six) hgo
                  generalize addrC six bs = ca at HRA HIT HSA
                  generalize someA six bs = sa at hgs HSA
                  obtain ⟨s6, sv⟩ := sa
                  have HGS : Hid (GoodA sv) := hgs
                  replace HSA : Hid (∀ w, Calls Tryz.prog 11 #[.agg ca.toArray] w fun e w' => e = .returned (.agg (addrC s6 sv).toArray) ∧ Ch [] w w') := HSA
                  have HIU := hid (addr_inf (six := s6) HGS.out.1)
                  have HLU : Hid ((addrC false zeros).length = (addrC s6 sv).length) := (addr_len (six := false) (bs := zeros) rfl).trans (addr_len (six := s6) HGS.out.1).symm
                  clear hgo hgs ho hr
                  have hj0 : (0 : Int) ≤ k3 := by omega
                  have hj1 : (k3 : Int) < na := by omega
                  have CXW : Ch [] W wo := CX.trans CW
                  go_upto_region 23 with (first
                    | go_big_skip
                    | (refine wpList_load_want rfl 32 _ rfl b (off + k3 * 17) rfl ca _ (HRA.out _ (CXW.trans CQ)) Tryz.underlying32 rfl HIT.out ?_)
                    | (go_at_call 11; (with_reducible refine (HSA.out _).mono ?_); rintro e4 w4 ⟨rfl, C4⟩; replace CQ := CQ.trans C4; clear C4)
                    | (refine wpList_storeB rfl 32 _ _ rfl w4.heap.size 32 (addrC false zeros) (addrC s6 sv) rfl rfl (Blk.new _ _ _) HIU.out HLU.out (addr_one' _ _) ?_; intro w5 BU D Z; clear Z; have D2 := ((Ch.refl [] w4).alloc _).step D (fun i hi => .inr (by simp at hi; omega)); clear D; replace CQ := CQ.trans D2; clear D2))
                  generalize w4.heap.size = gu at BU ⊢
                  have CWQ := CW.trans CQ
                  have H3 := hid (fun (x : After w5) => aclAllowA (HM.out.nil (CQ.trans x.ch)) HOK2.out (by omega) s6 sv HGS.out 80)
                  have H4 := hid (fun (x : After w5) => refAllowA x.w e.t.A e.t.c _ e.t.L ((HRU.out.ch (CWQ.trans x.ch) (by simp)).rd) (Nat.le_refl _) (by omega) (fun r hr => (HOK2.out r hr).2) s6 sv HGS.out 80)
                  have hm2 : ∀ x : After w5, x.w.cell? ⟨pm, k2 * 6 + 2, none⟩ = some (.slice e.t.A e.t.L.length e.t.c) := fun x => ((CWQ.trans x.ch).cell (p := ⟨pm, k2 * 6 + 2, none⟩) (World.block_lt_of_cell? _ _ HM2.out) (by simp)).trans HM2.out
                  generalize allowA e.t.L s6 sv 80 = b1 at H3 H4
                  have nb1 : (b1 != b1) = false := by simp
                  have HRX := hid (fun (w' : World) (c : Ch [] w5 w') => (BU.ch c (by simp)).range)
                  clear HSA HIT HRA BU HLU
                  generalize addrC s6 sv = cu at H3 H4 HIU HRX ⊢
                  try simp only [Act.put]
                  refine wp_region_quietA (w5) (by kernel_rfl) (by kernel_rfl) (Ch.refl _ _) ?_
                  repeat (first
                    | (go_big_quiet_want; refine quiet_rowA 32 _ rfl gu 0 rfl cu _ HRX.out Tryz.underlying32 rfl HIU.out ?_; simp only [Act.put, List.setIfInBounds_toArray, List.set_cons_succ, List.set_cons_zero]; go_big_quiet_on)
                    | go_big_quiet_step (first
                      | (go_at_call 15; with_reducible exact after_of (H3.out _))
                      | (go_at_call 16; with_reducible exact after_of (H4.out _))))
                  refine wpQuiet_nil ?_
                  intro wz hwz
                  clear hm2
                  go_wp2_with fail
                  go_roundw
                  case rel => exact ⟨k3 + 1, by go_num, by omega, by omega, CQ.trans hwz⟩
                  case measure => simp [intOf]; omega
          · have hi1 : ¬ (k2 : Int) < n := by omega
            go_wp2_with (first
              | go_big_skip
              | (go_at_call 39; (with_reducible refine (awake14 _).mono ?_); rintro e7 w7 ⟨rfl, C7⟩))
            go_ret
            exact ⟨rfl, ((CX.trans CW).trans C7).nil_below⟩
      · as_aux_lemma =>
        have hbg2 := of_decide_eq_true hbg
        have hlt : k < np := by omega
        have hl6 : k < 60 := by omega
        clear hbg hbg2
        obtain ⟨bq, oq, rfl, hbq, e0⟩ := (HRP.out _ CX).at_ hlt
        generalize at_ zs k = z at e0
        have hmr := modI_rng z n (by omega)
        obtain ⟨j, hj⟩ := Int.eq_ofNat_of_zero_le hmr.1
        have hjn : j < n := by omega
        have HM : Hid (∀ w, Calls Tryz.prog 33 #[.int .i64 z, .int .i64 n] w fun e w' => e = .returned (.int .i64 j) ∧ w = w') := fun w => by rw [← hj]; exact genMod z n w (by omega) (by omega)
        clear hmr hj
        obtain ⟨e, hej, hte⟩ := X_at HX.out (k := j) (by rw [HN.out]; exact hjn)
        have HEJ := hid hej
        have HBU := hid (regBud HR.out hej)
        obtain ⟨p, rfl, hcb, _⟩ := HF.out.bcell hej
        have hXn : X.length = n := by
          have := congrArg List.length HX.out
          rw [List.length_map] at this
          rw [this]; exact HN.out
        have HOE := hid (HOK.out e (List.mem_of_getElem? hej))
        have e1 : wc.cell? ⟨y, 1, none⟩ = some (.slice (some ⟨p, 0, none⟩) n bc) := by rw [← hXn]; exact HF.out.blk.cell 1
        have hyp : y < p := (HF.out.bud.blks p (by simp [blkOf])).1
        have HFY : Hid (y + 1 ≤ p) := hyp
        have hki : (k : Int) < np := by omega
        have hk0 : (0 : Int) ≤ k := by omega
        have hwk : IntKind.u64.wrap k = k := IntWalk.u64_in _ (by omega)
        have hjn2 : (j : Int) < n := by omega
        have hj0 : (0 : Int) ≤ j := by omega
        clear hej hte hcb hbq hyp
        go_upto_region 11 with (first
          | go_big_skip
          | (go_at_call 33; (with_reducible refine (HM.out _).mono ?_); rintro e w' ⟨rfl, rfl⟩)
          | (go_at_call 34; (with_reducible refine HBU.out.mono ?_); rintro e5 w' ⟨⟨gb, rfl, BB, hgb, hup⟩, rfl⟩; have HUP := hid hup; have HGB := hid hgb; clear hup hgb))
        refine wp_region_stagesM [⟨0, 8192, 18014398509481984⟩, ⟨1, 18014398509481984, 36028797018963968⟩, ⟨2, 36028797018963968, 72057594037927936⟩, ⟨4, 72057594037936128, 144115188075855872⟩, ⟨4, 72057594037929984, 288230376151711744⟩, ⟨20, 360287970189639680, 576460752303423488⟩, ⟨44, 792633534417207296, 1152921504606846976⟩, ⟨4, 72057594037928960, 2305843009213693952⟩, ⟨132, 2377900603251621888, 4611686018427387904⟩, ⟨260, 4683743612465315840, 9223372036854775808⟩, ⟨516, 9295429630892703744, 18446744073709551616⟩, ⟨4, 72057594037932032, 36893488147419103232⟩, ⟨3076, 55412289815166582784, 73786976294838206464⟩, ⟨4, 72057594037929984, 147573952589676412928⟩, ⟨8196, 147646010183714340864, 295147905179352825856⟩, ⟨20548, 369006939068228960256, 590295810358705651712⟩, ⟨32836, 591520789457350426624, 1180591620717411303424⟩, ⟨65540, 1180663678311449231360, 2361183241434822606848⟩] [([0, 1, 2, 3, 4, 5, 7, 8, 9, 10, 11, 12, 13, 14], 6, [7, 8, 9, 10, 11, 12, 13, 14]), ([], 15, [])] [16, 17] (by kernel_rfl) (by kernel_rfl) ?_
        refine wpStages_step ?_
        try simp only [pick, List.map_cons, List.map_nil, List.getD_cons_zero, List.getD_cons_succ]
        repeat (go_big_quiet_step (fail))
        refine wpQuiet_nil ?_
        intro n1
        try simp only [pick, List.map_cons, List.map_nil, List.getD_cons_zero, List.getD_cons_succ]
        go_wp2_with (go_at_call 35; (with_reducible refine (budCharge gb e.bd k _ (BB.drewN n1) HOE.out (by omega) (by omega)).mono ?_); rintro e6 w6 ⟨rfl, BB6, C6⟩)
        have D6 : Ch [gb] wc w6 := ((Ch.refl [gb] wc).drewN n1).trans C6
        have hgbr := HFF.out gb HGB.out
        have HR6 := hid (HUP.out w6 _ D6 BB6)
        have HF6 := hid (HF.out.ch D6 (fun b hb => .inl (by rw [List.mem_singleton] at hb; omega)))
        clear e1 e0
        have e1 : w6.cell? ⟨y, 1, none⟩ = some (.slice (some ⟨p, 0, none⟩) n bc) := by rw [← hXn]; exact HF6.out.blk.cell 1
        obtain ⟨gr, hgr⟩ : ∃ gr, e.bd.grants k = gr := ⟨_, rfl⟩
        rw [hgr]
        have hgg : (gr != gr) = false := by simp
        have HGR := hid hgr
        clear hgr
        refine stagePost_mk ?_ ?_
        · intro o' ho'
          simp only [pick, List.map_cons, List.map_nil, List.getD_cons_zero, List.getD_cons_succ, List.mem_cons, List.not_mem_nil, or_false] at ho'
          rcases ho' with rfl | rfl | rfl | rfl | rfl | rfl | rfl | rfl
          all_goals
            refine float_any ?_
            repeat (go_big_quiet_step (fail))
            refine wpQuiet_nil ?_
            rfl
        refine wpStages_step ?_
        try simp only [pick, List.map_nil]
        refine wpQuiet_nil ?_
        intro n2
        try simp only [pick, List.map_cons, List.map_nil, List.getD_cons_zero, List.getD_cons_succ]
        go_wp2_with (go_at_call 36; (with_reducible refine (rudChargeX (HF6.out.drewN n2) HEJ.out rfl HOE.out k (by omega) (by omega)).mono ?_); rintro e7 w7 ⟨rfl, RF7, C7⟩)
        rw [HGR.out]
        have D7 : Ch [p] w6 w7 := ((Ch.refl [p] w6).drewN n2).trans C7
        have HF7 := hid RF7
        have HR7 := hid (HR6.out.ch D7 (fun b hb h => by rw [List.mem_singleton] at h; have := (HFF.out b hb).2; have := HFY.out; omega))
        have HS7 := hid ((HS.out.keep D6 (fun b hb h => by rw [List.mem_singleton] at h; have := HSB.out.1 b hb; omega) (fun t ht b hb h => by rw [List.mem_singleton] at h; have := HSB.out.2 t ht b hb; omega)).keep D7 (fun b hb h => by rw [List.mem_singleton] at h; have := HSB.out.1 b hb; have := HFY.out; omega) (fun t ht b hb h => by rw [List.mem_singleton] at h; have := HSB.out.2 t ht b hb; have := HFY.out; omega))
        have CX7 := (CX.step D6 (fun i hi => .inr (by rw [List.mem_singleton] at hi; omega))).step D7 (fun i hi => .inr (by rw [List.mem_singleton] at hi; have := HFY.out; omega))
        clear RF7 C7 D7 D6 C6 CX HR HF HS HR6 HF6 e1 BB BB6
        refine stagePost_mk (by simp [pick]) ?_
        refine wpStages_last ?_
        try simp only [pick, List.map_cons, List.map_nil, List.getD_cons_zero, List.getD_cons_succ]
        repeat (go_big_quiet_step (fail))
        refine wpQuiet_nil ?_
        intro n3
        go_wp2_with fail
        go_roundw
        case rel => exact ⟨k + 1, X.set j { e with bd := e.bd.next k }, by go_num, by omega, by omega, HR7.out.nil ((Ch.refl [] _).drewN n3), HF7.out.drewN n3, X_set HX.out HEJ.out rfl, all_set HOK.out (Bud.next_ok HOE.out k (by omega) (by omega)), HS7.out.ch ((Ch.refl [] _).drewN n3) (by simp), CX7.drewN n3⟩
        case measure => simp [intOf]; omega
end Go.Proofs.YtbmbnibamhgfmaaGreatDoor
