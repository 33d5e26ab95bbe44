/- The walk of TenantMatchesModel. -/
import Derived.Test.YtbmbnibamhgfmaaDoorLawTen0
import Derived.Test.YtbmbnibamhgfmaaDoorTenW
import Derived.Test.YtbmbnibamhgfmaaDoorMD
import Derived.Test.YtbmbnibamhgfmaaDoorRows
import Derived.Deep.DeepCutAuto
import Derived.Deep.CutRange
import Derived.Deep.CutBlock
namespace Go.Proofs.YtbmbnibamhgfmaaDoor
open Go.ChangeShapes Go.WideShapes Go.ChangeAt Go.RowKit

abbrev OpT := Int × Int × ByteArray × ByteArray
def opC (o : OpT) : List Value := [.int .i64 o.1, .int .i64 o.2.1, .string o.2.2.1, .string o.2.2.2]
theorem op_len (o : OpT) : (opC o).length = 4 := rfl
theorem op_one (o : OpT) : (opC o).all (·.oneCell') = true := rfl
theorem op_info : (Tryd.prog.info? 32).map (·.size) = some 4 := by kernel_rfl
section
variable {H : Type} {enc : TypeId × Value → H} {W : World}
set_option maxRecDepth 20000 in
theorem Cl.op {cs : List Value} (h : Cl enc Tryd.prog W 32 cs) : ∃ o : OpT, cs = opC o ∧ o.2.2.1.size ≤ 140737488351232 ∧ o.2.2.2.size ≤ 140737488351232 := by
  have hl := (h.struct Tryd.underlying32).1
  rw [show Tryd.prog.cellsOf 32 = 4 by kernel_rfl] at hl
  obtain ⟨k, k0, _⟩ := (h.field Tryd.underlying32 0 3 0 1 (by kernel_rfl) (by kernel_rfl)).i64 Tryd.underlying3
  obtain ⟨i, k1, _⟩ := (h.field Tryd.underlying32 1 3 1 1 (by kernel_rfl) (by kernel_rfl)).i64 Tryd.underlying3
  obtain ⟨u, k2, hu⟩ := (h.field Tryd.underlying32 2 9 2 1 (by kernel_rfl) (by kernel_rfl)).string Tryd.underlying9
  obtain ⟨p, k3, hp⟩ := (h.field Tryd.underlying32 3 9 3 1 (by kernel_rfl) (by kernel_rfl)).string Tryd.underlying9
  refine ⟨(k, i, u, p), ?_, hu, hp⟩
  have s1 : cs = (cs.drop 0).take 1 ++ ((cs.drop 1).take 1 ++ ((cs.drop 2).take 1 ++ (cs.drop 3).take 1)) := by
    rw [List.drop_zero]
    conv => lhs; rw [← List.take_append_drop 1 cs, ← List.take_append_drop 1 (cs.drop 1), List.drop_drop, ← List.take_append_drop 1 (cs.drop 2), List.drop_drop]
    congr 4
    rw [List.take_of_length_le (l := cs.drop 3) (by rw [List.length_drop]; omega)]
  rw [s1, k0, k1, k2, k3]; rfl
theorem Arg.ops {v : Value} {d : DataW H} (h : Arg enc Tryd.prog W 23 v d) : ∃ A n cap, ∃ l : List OpT, v = .slice A n cap ∧ n ≤ cap ∧ Rd W W.heap.size 4 A n (l.flatMap opC) ∧ l.length = n ∧ ∀ o ∈ l, o.2.2.1.size ≤ 140737488351232 ∧ o.2.2.2.size ≤ 140737488351232 := by
  obtain ⟨A, len, cap, l, h1, h2, h3, h4, h5, h6, h7⟩ := h.rows (f := opC) (G := fun o => o.2.2.1.size ≤ 140737488351232 ∧ o.2.2.2.size ≤ 140737488351232) (size := 4) Tryd.underlying23 (by kernel_rfl) (by omega) (fun c hc => hc.op) (fun o _ => op_len o)
  exact ⟨A, len, cap, l, h1, h2, h5, h6, h7⟩
end
theorem X_at {X : List En} {T : List Tn} (h : X.map (·.t) = T) {k : Nat} (hk : k < T.length) : ∃ e, X[k]? = some e ∧ T[k]? = some e.t := by
  subst h
  rw [List.length_map] at hk
  exact ⟨X[k], List.getElem?_eq_getElem hk, by rw [List.getElem?_map, List.getElem?_eq_getElem hk]; rfl⟩
theorem X_set {X : List En} {T : List Tn} (h : X.map (·.t) = T) {k : Nat} {e e' : En} (hk : X[k]? = some e) (he : e'.t = e.t) : (X.set k e').map (·.t) = T := by
  rw [List.map_set, he, ← h]
  obtain ⟨hlt, hx⟩ := List.getElem?_eq_some_iff.1 hk
  have : (X.map (·.t))[k]'(by simpa using hlt) = e.t := by simp [hx]
  rw [← this, List.set_getElem_self]
theorem all_set {X : List En} {P : En → Prop} (h : ∀ e ∈ X, P e) {k : Nat} {e' : En} (he : P e') : ∀ e ∈ X.set k e', P e := fun e hm => by
  rcases List.mem_or_eq_of_mem_set hm with h1 | h1
  · exact h e h1
  · rw [h1]; exact he
/-- Numbers of sessions within their limits. -/
def Bnd (X : List En) : Prop := ∀ e ∈ X, 0 ≤ e.act ∧ e.act ≤ e.t.m ∧ e.t.m ≤ 100
theorem Bnd.acq {X : List En} (h : Bnd X) (i : Int) : Bnd (acqX X i) := by
  unfold acqX
  split
  · rename_i hq
    unfold acqOk at hq
    unfold setA
    cases hx : X[i.toNat]? with
    | none => exact h
    | some e =>
      rw [hx] at hq
      have hb := h e (List.mem_of_getElem? hx)
      have : e.act ≠ e.t.m := by simp at hq; exact hq.2
      exact all_set h ⟨by show 0 ≤ e.act + 1; omega, by show e.act + 1 ≤ e.t.m; omega, hb.2.2⟩
  · exact h
theorem Bnd.rel {X : List En} (h : Bnd X) (i : Int) : Bnd (relX X i) := by
  unfold relX
  split
  · rename_i hq
    unfold relOk at hq
    unfold setA
    cases hx : X[i.toNat]? with
    | none => exact h
    | some e =>
      rw [hx] at hq
      have hb := h e (List.mem_of_getElem? hx)
      have : e.act ≠ 0 := by simp at hq; exact hq.2
      exact all_set h ⟨by show 0 ≤ e.act + -1; omega, by show e.act + -1 ≤ e.t.m; omega, hb.2.2⟩
  · exact h
theorem setA_map {X : List En} {T : List Tn} (h : X.map (·.t) = T) (i d : Int) : (setA X i d).map (·.t) = T := by
  unfold setA
  cases hx : X[i.toNat]? with
  | none => exact h
  | some e => exact X_set h hx rfl
theorem acq_map {X : List En} {T : List Tn} (h : X.map (·.t) = T) (i : Int) : (acqX X i).map (·.t) = T := by
  unfold acqX
  split
  · exact setA_map h i 1
  · exact h
theorem rel_map {X : List En} {T : List Tn} (h : X.map (·.t) = T) (i : Int) : (relX X i).map (·.t) = T := by
  unfold relX
  split
  · exact setA_map h i (-1)
  · exact h
theorem SomeT.keep {w w' : World} {B : Nat} {A : Option Addr} {c : Nat} {T : List Tn} {S : List Nat} (h : SomeT w B A c T) (hc : Ch S w w') (hA : ∀ b ∈ blkOf A, b ∉ S) (hR : ∀ t ∈ T, ∀ b ∈ blkOf t.A, b ∉ S) : SomeT w' B A c T :=
  ⟨h.own.ch hc hA, h.ok, fun t ht => ⟨(h.r t ht).1.ch hc (hR t ht), (h.r t ht).2⟩⟩
theorem SomeT.trd {w : World} {B : Nat} {A : Option Addr} {c : Nat} {T : List Tn} (h : SomeT w B A c T) {X : List En} (hX : X.map (·.t) = T) : TRd w A X := fun k e hk => by
  have ht : T[k]? = some e.t := by rw [← hX, List.getElem?_map, hk]; rfl
  obtain ⟨b, off, e1, _, hc⟩ := h.own.rd.2 (by have := (List.getElem?_eq_some_iff.1 ht).1; omega)
  refine ⟨b, off, e1, ?_, ?_, ?_⟩
  · have := hc _ _ (flat_get T (f := tnC) (size := 6) (fun x _ => tn_len x) k e.t ht (j := 0) (v := .string e.t.u) rfl)
    exact this
  · have := hc _ _ (flat_get T (f := tnC) (size := 6) (fun x _ => tn_len x) k e.t ht (j := 1) (v := .string e.t.p) rfl)
    rwa [← Nat.add_assoc] at this
  · have := hc _ _ (flat_get T (f := tnC) (size := 6) (fun x _ => tn_len x) k e.t ht (j := 5) (v := .int .i64 e.t.m) rfl)
    rwa [← Nat.add_assoc] at this
/-- The two registries and the tenants, as they stand. -/
structure Both (W w : World) (g y n : Nat) (FF : List Nat) (A1 : Option Addr) (c1 : Nat) (BA : Option Addr) (bc : Nat) (AA : Option Addr) (ac : Nat) (T : List Tn) (X : List En) : Prop where
  R : RegM w g X FF
  F : RfM w y n A1 c1 X BA bc AA ac
  map : X.map (·.t) = T
  bnd : Bnd X
  S : SomeT w W.heap.size A1 c1 T
  C : Ch [] W w
theorem Both.nil {W w w' : World} {g y n : Nat} {FF : List Nat} {A1 BA AA : Option Addr} {c1 bc ac : Nat} {T : List Tn} {X : List En} (h : Both W w g y n FF A1 c1 BA bc AA ac T X) (hc : Ch [] w w') : Both W w' g y n FF A1 c1 BA bc AA ac T X :=
  ⟨h.R.nil hc, h.F.ch hc (by simp), h.map, h.bnd, h.S.ch hc (by simp), h.C.trans hc⟩
set_option maxRecDepth 100000 in
set_option maxHeartbeats 16000000 in
theorem tenantMatchesModel_came {H : Type} {enc : TypeId × Value → H} (W : World) (args : Array Value) (ds : List (DataW H)) (_ : laidMetH Tryd.prog Rows.tenantMatchesModelRow.laid W) (h : Came enc Tryd.prog Tryd.f3 W args ds) :
    Calls Tryd.prog 3 args W fun e W' => e = .returned (.bool true) ∧ Below W.heap.size W W' := by
  obtain ⟨v0, v1, d0, d1, rfl, a0, a1⟩ := h.args2 rfl
  obtain ⟨Ao, no, capo, lo, rfl, hno1, hrlo, hnlo, hglo⟩ := a1.ops
  obtain ⟨A, n0, cap, l, rfl, hn1, hrl, hnl, hnm, hgl⟩ := a0.tns
  have HST := hid (someTen W A n0 cap W.heap.size l hrl (Nat.le_refl _) hnm (fun t ht => ⟨(hgl t ht).1, (hgl t ht).2.1⟩))
  clear hrl hgl hnl hnm
  clear h a0 a1
  have hrEo := hrlo.rangeE (fun o _ => op_len o) (by decide)
  have HREO := hid hrEo.2
  have HGLO := hid hglo
  have HNLO := hid hnlo
  have HIO := hid op_info
  clear hrlo hglo hrEo hnlo
  have CX : Ch [] W W := Ch.refl _ _
  go_enter Tryd.func3, Tryd.ntmps3
  go_upto_region 6 with (first
    | go_big_skip
    | (go_at_call 6; (with_reducible refine HST.out.mono ?_); rintro e w1 ⟨⟨A1, c1, T, rfl, hS, hT1, hT5⟩, C1⟩; replace CX := CX.trans C1; clear C1; have HS := hid hS; have HCK := hid (hS.chk hT1 hT5); have HSB : Hid ((∀ b ∈ blkOf A1, b < w1.heap.size) ∧ ∀ t ∈ T, ∀ b ∈ blkOf t.A, b < w1.heap.size) := ⟨fun b hb => (hS.own.blks b hb).2, fun t ht b hb => ((hS.r t ht).1.blks b hb).2⟩; clear hS; obtain ⟨n, hn⟩ : ∃ n, T.length = n := ⟨_, rfl⟩; rw [hn] at hT1 hT5 ⊢; have HN := hid hn; clear hn)
    | (go_at_call 7; (with_reducible refine (tenNewOk w1 A1 n c1 w1.heap.size T (by rw [← HN.out]; exact HS.out.own.rd) (Nat.le_refl _) (by omega) HS.out.tin HCK.out).mono ?_); rintro e w2 ⟨g, rfl, X0, R0, hX0, hz0, C2⟩; have sz12 := C2.size; have szW := CX.size; have HFF : Hid (∀ b ∈ newB w1 w2, w1.heap.size ≤ b ∧ b < w2.heap.size) := fun b hb => newB_ge hb; replace HS : Hid (SomeT w2 W.heap.size A1 c1 T) := HS.out.ch C2 (by simp); have HR0 := hid R0; have HX0 := hid hX0; have HZ0 := hid hz0; replace CX := CX.trans C2; clear C2 R0 hX0 hz0)
    | (go_at_call 8; (with_reducible refine (refNew w2 A1 n c1 w2.heap.size T (by rw [← HN.out]; exact HS.out.own.rd) (Nat.le_refl _) (by omega) X0 HX0.out HZ0.out).mono ?_); rintro e w3 ⟨rfl, ⟨BA, bc, AA, ac, RF0⟩, C3⟩; have sz23 := C3.size; have HF0 := hid RF0; replace HR0 : Hid (RegM w3 g X0 (newB w1 w2)) := HR0.out.nil C3; replace HS : Hid (SomeT w3 W.heap.size A1 c1 T) := HS.out.ch C3 (by simp); replace CX := CX.trans C3; clear C3 RF0))
  generalize newB w1 w2 = FF at HFF HR0
  generalize w2.heap.size = y at *
  have HB0 : Hid (Both W w3 g y n FF A1 c1 BA bc AA ac T X0) := by
    refine ⟨HR0.out, HF0.out, HX0.out, fun e he => ?_, HS.out, CX⟩
    obtain ⟨k, hk⟩ := List.getElem?_of_mem he
    have ht : T[k]? = some e.t := by rw [← HX0.out, List.getElem?_map, hk]; rfl
    have ok := HS.out.ok k _ ht
    have := ok.m0; have := ok.m1
    rw [(HZ0.out e he).2]
    omega
  clear HZ0 HR0 HF0 HX0 HS CX HCK
  go_wp2_with fail
  go_loopw [9] (fun i wr => ∃ (k : Nat) (X : List En), i = .int .i64 k ∧ k ≤ no ∧ k ≤ 90 ∧ Hid (Both W wr g y n FF A1 c1 BA bc AA ac T X)) (fun i _ => 90 - (intOf i).toNat)
  case atStart => exact ⟨0, X0, rfl, by omega, by omega, HB0⟩
  case round =>
    clear HB0
    obtain ⟨k, X, rfl, hk, hk9, HB⟩ := hrel
    obtain ⟨bg, hbg⟩ : ∃ bg, decide ((k : Int) < no ∧ (k : Int) < 90) = bg := ⟨_, rfl⟩
    have hXn : X.length = n := by
      have := congrArg List.length HB.out.map
      rw [List.length_map] at this
      rw [this]; exact HN.out
    go_upto_region 7 with fail
    go_cut [42] from 35 to 42 (fun v wx => v = .bool bg ∧ wx = wr)
    case first =>
      by_cases h1 : (k : Int) < no
      · by_cases h2 : (k : Int) < 90
        · rw [decide_eq_true ⟨h1, h2⟩] at hbg
          subst hbg
          go_wp2_with go_big_skip
          go_meet
          exact ⟨rfl, rfl⟩
        · rw [decide_eq_false (fun h => h2 h.2)] at hbg
          subst hbg
          go_wp2_with go_big_skip
          go_meet
          exact ⟨rfl, rfl⟩
      · rw [decide_eq_false (fun h => h1 h.1)] at hbg
        subst hbg
        go_wp2_with go_big_skip
        go_meet
        exact ⟨rfl, rfl⟩
    case rest =>
      obtain ⟨rfl, hw⟩ := hcut
      subst hw
      cases bg
      · as_aux_lemma =>
        clear hbg
        have HA1 : Hid (∀ w', Ch [] wc w' → Calls Tryd.prog 18 #[.pointer (some ⟨g, 0, none⟩), .int .i64 (-1)] w' fun r w'' => r = .returned (.int .i64 0) ∧ w' = w'') := fun w' c => regAct (HB.out.R.nil c) (-1)
        have HA2 : Hid (∀ w', Ch [] wc w' → Calls Tryd.prog 18 #[.pointer (some ⟨g, 0, none⟩), .int .i64 n] w' fun r w'' => r = .returned (.int .i64 0) ∧ w' = w'') := fun w' c => by
          have h1 : actX X n = 0 := by unfold actX; rw [if_pos (by omega), Int.toNat_natCast, List.getElem?_eq_none (by omega)]
          have := regAct (HB.out.R.nil c) n
          rwa [h1] at this
        go_wp2_with (first
          | go_big_skip
          | (go_at_call 19; (with_reducible refine (awake14 _).mono ?_); rintro e7 w7 ⟨rfl, C7⟩)
          | (go_at_call 18; (with_reducible refine (HA1.out _ C7).mono ?_); rintro e8 w8 ⟨rfl, rfl⟩)
          | (go_at_call 18; (with_reducible refine (HA2.out _ C7).mono ?_); rintro e8 w8 ⟨rfl, rfl⟩))
        go_ret
        exact ⟨rfl, (HB.out.C.trans C7).nil_below⟩
      · have hbg2 := of_decide_eq_true hbg
        have hlt : k < no := by omega
        have hl9 : k < 90 := by omega
        clear hbg hbg2
        obtain ⟨b, off, rfl, hb, hr⟩ := HREO.out (by omega)
        obtain ⟨o, ho⟩ : ∃ o, lo[k]? = some o := ⟨_, List.getElem?_eq_getElem (by rw [HNLO.out]; exact hlt)⟩
        have hgo := HGLO.out o (List.mem_of_getElem? ho)
        obtain ⟨okd, oi, ou, op⟩ := o
        simp only at hgo
        have HRD := hid (range_ch (hr k _ ho) HB.out.C hb (by simp))
        have hi0 : (0 : Int) ≤ k := by omega
        have hik : (k : Int) < no := by omega
        obtain ⟨q0, q1⟩ := modI_rng oi 9 (by omega)
        obtain ⟨r0, r1⟩ := modI_rng oi (n + 1) (by omega)
        obtain ⟨s0, s1⟩ := modI_rng okd 6 (by omega)
        have HM9 := hid (fun w => genMod oi 9 w (by omega) (by omega))
        have HMN := hid (fun w => genMod oi (n + 1) w (by omega) (by omega))
        have HM6 := hid (fun w => genMod okd 6 w (by omega) (by omega))
        generalize modI oi 9 = m9 at q0 q1 HM9
        generalize modI oi (n + 1) = mn at r0 r1 HMN
        generalize modI okd 6 = d at s0 s1 HM6
        clear ho hr
        go_upto_if 53 with (first
          | go_big_skip
          | (refine wpList_load_want rfl 32 _ rfl b (off + k * 4) rfl (opC (okd, oi, ou, op)) _ HRD.out Tryd.underlying32 rfl HIO.out ?_)
          | (refine wpList_storeB rfl 32 _ _ rfl wc.heap.size 32 (opC (0, 0, ⟨#[]⟩, ⟨#[]⟩)) (opC (okd, oi, ou, op)) rfl rfl (Blk.new _ _ _) HIO.out rfl (op_one _) ?_; intro w5 BU D Z; clear Z; have D2 := ((Ch.refl [] wc).alloc _).step D (fun i hi => .inr (by simp at hi; omega)); clear D; replace HB := hid (HB.out.nil D2); clear D2; have ec1 : w5.cell? ⟨wc.heap.size, 1, none⟩ = some (.int .i64 oi) := BU.cell 1)
          | (go_at_call 9; (with_reducible refine (HM9.out _).mono ?_); rintro e w' ⟨rfl, rfl⟩))
        generalize wc.heap.size = gu at BU ec1 ⊢
        go_cut [11] (fun v wx => (∃ kk : Int, v = .int .i64 kk) ∧ wx = w5)
        case first =>
          by_cases h8 : m9 < 8
          · go_wp2_with (first
              | go_big_skip
              | (go_at_call 9; (with_reducible refine (HMN.out _).mono ?_); rintro e w' ⟨rfl, rfl⟩))
            go_meet
            exact ⟨⟨_, rfl⟩, rfl⟩
          · go_wp2_with fail
            go_meet
            exact ⟨⟨_, rfl⟩, rfl⟩
        case rest =>
          obtain ⟨⟨kk, rfl⟩, hw⟩ := hcut
          subst hw
          clear HMN HM9 HRD ec1
          have ed0 : wc.cell? ⟨gu, 0, none⟩ = some (.int .i64 okd) := BU.cell 0
          have HUA := hid BU
          obtain ⟨wo, hwo⟩ : ∃ wo, wo = wc := ⟨_, rfl⟩
          subst hwo
          go_upto_block 2 with (first
            | (go_at_call 9; (with_reducible refine (HM6.out _).mono ?_); rintro e w' ⟨rfl, rfl⟩))
          clear ed0
          go_cut [12] from 59 to 120 (fun v wx => v = .bool true ∧ ∃ X', Hid (Both W wx g y n FF A1 c1 BA bc AA ac T X'))
          case first =>
            have hact : ∀ e ∈ X, 0 ≤ e.act ∧ e.act ≤ 100 := fun e he => by have := HB.out.bnd e he; omega
            by_cases h3 : d < 3
            · as_aux_lemma =>
              have HAQ := hid (regAcq HB.out.R kk hact)
              have HRQ : Hid (∀ w', RfM w' y n A1 c1 X BA bc AA ac → TRd w' A1 X → Calls Tryd.prog 11 #[.pointer (some ⟨y, 0, none⟩), .int .i64 kk] w' fun r w'' => r = .returned (.bool (acqOk X kk)) ∧ RfM w'' y n A1 c1 (acqX X kk) BA bc AA ac ∧ Ch (blkOf AA) w' w'') := fun w' h ht => by
                rw [← hXn] at h ⊢
                exact refAcq h ht kk HB.out.bnd
              obtain ⟨qb, hqb⟩ : ∃ qb, acqOk X kk = qb := ⟨_, rfl⟩
              rw [hqb] at HAQ HRQ
              clear hqb hact
              go_wp2_with (first
                | (go_at_call 10; (with_reducible refine HAQ.out.mono ?_); rintro e6 w6 ⟨rfl, R6, C6⟩; have HB6 := hid (And.intro R6 C6); have F6 := HB.out.F.ch C6 (fun b hb => .inl (HFF.out b hb).2); have S6 := HB.out.S.keep C6 (fun b hb h => by have := (HFF.out b h).1; have := HSB.out.1 b hb; omega) (fun t ht b hb h => by have := (HFF.out b h).1; have := HSB.out.2 t ht b hb; omega); clear R6 C6)
                | (go_at_call 11; (with_reducible refine (HRQ.out _ F6 (S6.trd HB.out.map)).mono ?_); rintro e7 w7 ⟨rfl, F7, C7⟩))
              go_meet
              exact ⟨rfl, acqX X kk, by
                have hAA := HB.out.F.act.blks
                obtain ⟨R6, C6⟩ := HB6.out
                have hAF : ∀ b ∈ blkOf AA, y + 1 ≤ b := fun b hb => (hAA b hb).1
                exact ⟨R6.ch C7 (fun b hb h => by have := (HFF.out b hb).2; have := hAF b h; omega), F7, acq_map HB.out.map kk, HB.out.bnd.acq kk, S6.keep C7 (fun b hb h => by have := hAF b h; have := HSB.out.1 b hb; omega) (fun t ht b hb h => by have := hAF b h; have := HSB.out.2 t ht b hb; omega), (HB.out.C.step C6 (fun i hi => .inr (by have := (HFF.out i hi).1; omega))).step C7 (fun i hi => .inr (by have := hAF i hi; omega))⟩⟩
            · by_cases h5 : d < 5
              · as_aux_lemma =>
                have HAQ := hid (regRel HB.out.R kk hact)
                have HRQ : Hid (∀ w', RfM w' y n A1 c1 X BA bc AA ac → Calls Tryd.prog 13 #[.pointer (some ⟨y, 0, none⟩), .int .i64 kk] w' fun r w'' => r = .returned (.bool (relOk X kk)) ∧ RfM w'' y n A1 c1 (relX X kk) BA bc AA ac ∧ Ch (blkOf AA) w' w'') := fun w' h => by
                  rw [← hXn] at h ⊢
                  exact refRel h kk hact
                obtain ⟨qb, hqb⟩ : ∃ qb, relOk X kk = qb := ⟨_, rfl⟩
                rw [hqb] at HAQ HRQ
                clear hqb hact
                go_wp2_with (first
                  | (go_at_call 12; (with_reducible refine HAQ.out.mono ?_); rintro e6 w6 ⟨rfl, R6, C6⟩; have HB6 := hid (And.intro R6 C6); have F6 := HB.out.F.ch C6 (fun b hb => .inl (HFF.out b hb).2); have S6 := HB.out.S.keep C6 (fun b hb h => by have := (HFF.out b h).1; have := HSB.out.1 b hb; omega) (fun t ht b hb h => by have := (HFF.out b h).1; have := HSB.out.2 t ht b hb; omega); clear R6 C6)
                  | (go_at_call 13; (with_reducible refine (HRQ.out _ F6).mono ?_); rintro e7 w7 ⟨rfl, F7, C7⟩))
                go_meet
                exact ⟨rfl, relX X kk, by
                  have hAA := HB.out.F.act.blks
                  obtain ⟨R6, C6⟩ := HB6.out
                  have hAF : ∀ b ∈ blkOf AA, y + 1 ≤ b := fun b hb => (hAA b hb).1
                  exact ⟨R6.ch C7 (fun b hb h => by have := (HFF.out b hb).2; have := hAF b h; omega), F7, rel_map HB.out.map kk, HB.out.bnd.rel kk, S6.keep C7 (fun b hb h => by have := hAF b h; have := HSB.out.1 b hb; omega) (fun t ht b hb h => by have := hAF b h; have := HSB.out.2 t ht b hb; omega), (HB.out.C.step C6 (fun i hi => .inr (by have := (HFF.out i hi).1; omega))).step C7 (fun i hi => .inr (by have := hAF i hi; omega))⟩⟩
              · as_aux_lemma =>
                clear hact
                have ek1 : wo.cell? ⟨gu, 1, none⟩ = some (.int .i64 oi) := HUA.out.cell 1
                have ek3 : wo.cell? ⟨gu, 3, none⟩ = some (.string op) := HUA.out.cell 3
                have HK2 : Hid (∀ w', Ch [] wo w' → w'.cell? ⟨gu, 2, none⟩ = some (.string ou) ∧ w'.cell? ⟨gu, 3, none⟩ = some (.string op)) := fun w' c => ⟨(HUA.out.ch c (by simp)).cell 2, (HUA.out.ch c (by simp)).cell 3⟩
                go_upto_region 15 with fail
                have hx1 : ∀ x : After wo, x.w.cell? ⟨gu, 1, none⟩ = some (.int .i64 oi) := fun x => (HUA.out.ch x.ch (by simp)).cell 1
                have hx3 : ∀ x : After wo, x.w.cell? ⟨gu, 3, none⟩ = some (.string op) := fun x => (HUA.out.ch x.ch (by simp)).cell 3
                have HG1 := hid (fun (x : After wo) => genUser oi x.w)
                have HG2 := hid (fun (x : After wo) => genPass (op.size : Int) x.w)
                clear ek1 ek3
                refine wp_region_quietA (wo) (by kernel_rfl) (by kernel_rfl) (Ch.refl _ _) ?_
                repeat (go_big_quiet_step (first
                  | (go_at_call 14; with_reducible exact after_of (HG1.out _))
                  | (go_at_call 15; with_reducible exact after_of (HG2.out _))))
                refine wpQuiet_nil ?_
                intro wq hwq
                clear hx1 hx3
                obtain ⟨ek2, ek3⟩ := HK2.out _ hwq
                replace HB := hid (HB.out.nil hwq)
                go_upto_if 73 with fail
                generalize ((ou.size : Int) % 3 == 0) = b3
                go_cut [14, 15] from 74 to 77 (fun v1 v2 wx => (∃ u p : ByteArray, v1 = .string u ∧ v2 = .string p) ∧ Ch [] wq wx)
                case first =>
                  cases b3
                  · go_wp2_with fail
                    go_meet
                    exact ⟨⟨_, _, rfl, rfl⟩, Ch.refl _ _⟩
                  · go_wp2_with fail
                    go_quiet (fail)
                    go_wp2
                    go_meet
                    exact ⟨⟨_, _, rfl, rfl⟩, (Ch.refl _ _).drewN _⟩
                case rest =>
                  obtain ⟨⟨u, p, rfl, rfl⟩, C8⟩ := hcut
                  replace HB := hid (HB.out.nil C8)
                  have HAU := hid (regAuth HB.out.R (by omega) u p)
                  have HRU : Hid (∀ w', Ch [] wc w' → Calls Tryd.prog 17 #[.pointer (some ⟨y, 0, none⟩), .string u, .string p] w' fun r w'' => r = .returned (.int .i64 (match X.findIdx? (isU u p) with | some k => (k : Int) | none => -1)) ∧ Ch [] w' w'') := fun w' c => by
                    have h := HB.out.nil c
                    have hF := h.F
                    rw [← hXn] at hF
                    exact refAuth hF (h.S.trd h.map) (by omega) u p
                  clear ek2 ek3
                  generalize X.findIdx? (isU u p) = f at HAU HRU
                  cases f with
                  | none =>
                    have HAU2 : Hid (Calls Tryd.prog 16 #[.pointer (some ⟨g, 0, none⟩), .string u, .string p] wc fun r w' => r = .returned (.tuple #[.int .i64 0, .bool false]) ∧ Ch [] wc w') := HAU.out
                    have HRU2 : Hid (∀ w', Ch [] wc w' → Calls Tryd.prog 17 #[.pointer (some ⟨y, 0, none⟩), .string u, .string p] w' fun r w'' => r = .returned (.int .i64 (-1)) ∧ Ch [] w' w'') := HRU.out
                    clear HAU HRU
                    go_wp2_with (first
                      | go_big_skip
                      | (go_at_call 16; (with_reducible refine HAU2.out.mono ?_); rintro e6 w6 ⟨rfl, C6⟩)
                      | (go_at_call 17; (with_reducible refine (HRU2.out _ C6).mono ?_); rintro e7 w7 ⟨rfl, C7⟩))
                    go_meet
                    exact ⟨congrArg Value.bool (by decide : ((0 : Int) == max (-1) 0) = true), X, HB.out.nil (C6.trans C7)⟩
                  | some q =>
                    have hq0 : (0 : Int) ≤ q := by omega
                    have hq1 : ¬ (q : Int) < 0 := by omega
                    have hq2 : ((q : Int) ≥ 0) := by omega
                    have hqq : ((q : Int) == q) = true := by simp
                    have HAU2 : Hid (Calls Tryd.prog 16 #[.pointer (some ⟨g, 0, none⟩), .string u, .string p] wc fun r w' => r = .returned (.tuple #[.int .i64 q, .bool true]) ∧ Ch [] wc w') := HAU.out
                    have HRU2 : Hid (∀ w', Ch [] wc w' → Calls Tryd.prog 17 #[.pointer (some ⟨y, 0, none⟩), .string u, .string p] w' fun r w'' => r = .returned (.int .i64 q) ∧ Ch [] w' w'') := HRU.out
                    clear HAU HRU
                    go_wp2_with (first
                      | go_big_skip
                      | (go_at_call 16; (with_reducible refine HAU2.out.mono ?_); rintro e6 w6 ⟨rfl, C6⟩)
                      | (go_at_call 17; (with_reducible refine (HRU2.out _ C6).mono ?_); rintro e7 w7 ⟨rfl, C7⟩))
                    go_meet
                    exact ⟨rfl, X, HB.out.nil (C6.trans C7)⟩
          case rest =>
            obtain ⟨rfl, X', HB'⟩ := hcut
            clear HB HUA hXn
            have hXn : X'.length = n := by
              have := congrArg List.length HB'.out.map
              rw [List.length_map] at this
              rw [this]; exact HN.out
            obtain ⟨pm, rfl, _, _⟩ := HB'.out.S.own.form (by rw [HN.out]; omega)
            go_wp2_with fail
            go_loopw [19] (fun i wr => ∃ j : Nat, i = .int .i64 j ∧ j ≤ n ∧ Ch [] wc wr) (fun i _ => n - (intOf i).toNat)
            case atStart => exact ⟨0, rfl, by omega, Ch.refl _ _⟩
            case round =>
              obtain ⟨j, rfl, hj, CW⟩ := hrel
              have hBW := HB'.out.nil CW
              by_cases hjn : j < n
              · obtain ⟨e, hej, hte⟩ := X_at HB'.out.map (k := j) (by rw [HN.out]; exact hjn)
                have hbe := HB'.out.bnd e (List.mem_of_getElem? hej)
                obtain ⟨p, rfl, ca, _, _⟩ := hBW.F.acell hej
                have e2 : wr.cell? ⟨y, 2, none⟩ = some (.slice (some ⟨p, 0, none⟩) n ac) := by rw [← hXn]; exact hBW.F.blk.cell 2
                have hact : actX X' j = e.act := by unfold actX; rw [if_pos (by omega), Int.toNat_natCast, hej]
                have HAC : Hid (∀ q, Calls Tryd.prog 18 #[.pointer (some ⟨g, 0, none⟩), .int .i64 j] (wr.drewN q) fun r w' => r = .returned (.int .i64 e.act) ∧ w' = wr.drewN q) := fun q => by
                  have := regAct (hBW.R.nil ((Ch.refl [] wr).drewN q)) j
                  rw [hact] at this
                  exact this.mono fun _ _ h => ⟨h.1, h.2.symm⟩
                obtain ⟨b2, off2, hA2, _, _, cm⟩ := hBW.S.trd HB'.out.map j e hej
                simp only [Option.some.injEq, Addr.mk.injEq] at hA2
                obtain ⟨rfl, rfl, _⟩ := hA2
                rw [Nat.zero_add] at cm
                have hnn : (e.act != e.act) = false := by simp
                have hle : ¬ e.act > e.t.m := by omega
                have hj0 : (0 : Int) ≤ j := by omega
                have hjn2 : (j : Int) < n := by omega
                clear hej hte hact hBW
                go_upto_region 30 with fail
                go_quiet ((go_at_call 18; with_reducible exact Calls.quiet_of_same (HAC.out _)))
                go_wp2_with fail
                go_roundw
                case rel => exact ⟨j + 1, by go_num, by omega, CW.drewN _⟩
                case measure => simp [intOf]; omega
              · have hjn2 : ¬ (j : Int) < n := by omega
                go_wp2_with fail
                go_roundw
                case rel => exact ⟨k + 1, X', by go_num, by omega, by omega, hBW⟩
                case measure => simp [intOf]; omega
end Go.Proofs.YtbmbnibamhgfmaaDoor
