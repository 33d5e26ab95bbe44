/- The walk of TenantValidates. -/
import Derived.Test.YtbmbnibamhgfmaaDoorLawTen0
import Derived.Test.YtbmbnibamhgfmaaDoorTenV
import Derived.Test.YtbmbnibamhgfmaaDoorMD
import Derived.Test.YtbmbnibamhgfmaaDoorRows
import Derived.Deep.DeepCutAuto
import Derived.Deep.CutRange
namespace Go.Proofs.YtbmbnibamhgfmaaDoor
open Go.ChangeShapes Go.WideShapes Go.ChangeAt Go.RowKit

theorem TnIn.ch {w w' : World} {B B' : Nat} {t : Tn} {S : List Nat} (h : TnIn w B t) (hc : Ch S w w') (hB : B ≤ w.heap.size) (hS : ∀ b ∈ blkOf t.A, b ∉ S) (hB' : B ≤ B') : TnIn w' B' t := ⟨h.good, h.u, h.p, (h.r.ch hc hB hS).more hB'⟩
set_option maxRecDepth 100000 in
set_option maxHeartbeats 16000000 in
theorem tenantValidates_came {H : Type} {enc : TypeId × Value → H} (W : World) (args : Array Value) (ds : List (DataW H)) (_ : laidMetH Tryd.prog Rows.tenantValidatesRow.laid W) (h : Came enc Tryd.prog Tryd.f4 W args ds) :
    Calls Tryd.prog 4 args W fun e W' => e = .returned (.bool true) ∧ Below W.heap.size W W' := by
  obtain ⟨v0, v1, v2, d0, d1, d2, rfl, a0, a1, a2⟩ := h.args3 rfl
  obtain ⟨twice, rfl⟩ := a2.bool Tryd.underlying4
  obtain ⟨us, rfl, hus⟩ := a1.string Tryd.underlying9
  obtain ⟨A, n, cap, l, rfl, hn1, hrl, hnl, hnm, hgl⟩ := a0.tns
  have HTI : Hid (∀ w', Ch [] W w' → ∀ t ∈ l, TnIn w' W.heap.size t) := fun w' c t ht => (hgl t ht).1.ch c (Nat.le_refl _) (by simp) (Nat.le_refl _)
  have HRL := hid (fun (w' : World) (c : Ch [] W w') => hrl.ch c (Nat.le_refl _) (by simp))
  have HW0 : Hid (∀ t ∈ l, 0 ≤ t.w) := fun t ht => (hgl t ht).2.1
  have hrE := hrl.rangeE (fun t _ => tn_len t) (by decide)
  have HRE := hid hrE.2
  have HNL := hid hnl
  have HUS := hid hus
  have HCK := hid (fun (w' : World) (c : Ch [] W w') => chkTen w' A n cap W.heap.size l (HRL.out w' c) c.size hnm (HTI.out w' c))
  have HST := hid (fun (w' : World) (c : Ch [] W w') => someTen w' A n cap W.heap.size l (HRL.out w' c) c.size hnm (fun t ht => ⟨HTI.out w' c t ht, HW0.out t ht⟩))
  have HNW := hid (fun (w' : World) (c : Ch [] W w') => tenNew w' A n cap W.heap.size l (HRL.out w' c) c.size hnm (HTI.out w' c))
  have HI6 := hid tn_info
  clear h a0 a1 a2 hgl hrl hrE hnl hus
  have CX : Ch [] W W := Ch.refl _ _
  go_enter Tryd.func4, Tryd.ntmps4
  go_wp2_with fail
  go_loopw [7] (fun i wr => ∃ k : Nat, i = .int .i64 k ∧ k ≤ n ∧ k ≤ 10 ∧ Ch [] W wr) (fun i _ => 10 - (intOf i).toNat)
  case atStart => exact ⟨0, rfl, by omega, by omega, Ch.refl _ _⟩
  case round =>
    clear CX
    obtain ⟨k, rfl, hk, hk10, CX⟩ := hrel
    obtain ⟨bg, hbg⟩ : ∃ bg, decide ((k : Int) < n ∧ (k : Int) < 10) = bg := ⟨_, rfl⟩
    go_upto_region 2 with fail
    go_cut [20] from 13 to 20 (fun v wx => v = .bool bg ∧ wx = wr)
    case first =>
      by_cases h1 : (k : Int) < n
      · by_cases h2 : (k : Int) < 10
        · rw [decide_eq_true ⟨h1, h2⟩] at hbg
          subst hbg
          go_wp2_with go_big_skip
          go_meet
          exact ⟨rfl, rfl⟩
        · rw [decide_eq_false (fun h => h2 h.2)] at hbg
          subst hbg
          go_wp2_with go_big_skip
          go_meet
          exact ⟨rfl, rfl⟩
      · rw [decide_eq_false (fun h => h1 h.1)] at hbg
        subst hbg
        go_wp2_with go_big_skip
        go_meet
        exact ⟨rfl, rfl⟩
    case rest =>
      obtain ⟨rfl, hw⟩ := hcut
      subst hw
      cases bg
      · skip
        clear hbg
        obtain ⟨c0, hc0⟩ : ∃ c0, chkT l = c0 := ⟨_, rfl⟩
        have HNX : Hid (∀ w', Ch [] W w' → Calls Tryd.prog 7 #[.slice A n cap] w' fun e w'' => (∃ xv, e = .returned (.tuple #[xv, .int .i64 c0]) ∧ ((c0 = 0 ∧ ∃ g, xv = .pointer (some ⟨g, 0, none⟩)) ∨ (c0 ≠ 0 ∧ xv = .pointer none))) ∧ Ch [] w' w'') := fun w' c => (HNW.out w' c).mono fun e w'' h => ⟨by
          rcases h.1 with ⟨h0, g, he, _⟩ | ⟨h0, he⟩
          · rw [hc0] at h0
            exact ⟨_, by rw [he, h0], .inl ⟨h0, g, rfl⟩⟩
          · rw [hc0] at h0 he
            exact ⟨_, he, .inr ⟨h0, rfl⟩⟩, h.2⟩
        have HCX : Hid (∀ w', Ch [] W w' → Calls Tryd.prog 22 #[.slice A n cap] w' fun e w'' => e = .returned (.int .i64 c0) ∧ Ch [] w' w'') := fun w' c => by
          have := HCK.out w' c
          rwa [hc0] at this
        have hcc : (c0 != c0) = false := by simp
        clear HNW HCK hc0
        go_upto_region 7 with (first
          | go_big_skip
          | (go_at_call 7; (with_reducible refine (HNX.out _ CX).mono ?_); rintro e w1 ⟨⟨xv, rfl, hxv⟩, C1⟩; replace CX := CX.trans C1; clear C1))
        go_cut [49] from 39 to 49 (fun v wx => v = .bool false ∧ Ch [] W wx)
        case first =>
          rcases hxv with ⟨rfl, g, rfl⟩ | ⟨h0, rfl⟩
          · go_wp2_with (first
              | go_big_skip
              | (go_at_call 22; (with_reducible refine (HCX.out _ CX).mono ?_); rintro e w2 ⟨rfl, C2⟩))
            go_meet
            exact ⟨rfl, CX.trans C2⟩
          · have hz : (c0 == 0) = false := by simpa using h0
            clear h0
            go_wp2_with (first
              | go_big_skip
              | (go_at_call 22; (with_reducible refine (HCX.out _ CX).mono ?_); rintro e w2 ⟨rfl, C2⟩))
            go_meet
            exact ⟨rfl, CX.trans C2⟩
        case rest =>
          obtain ⟨rfl, C2⟩ := hcut
          clear CX hxv HNX HCX hcc
          go_upto_region 10 with (first
            | go_big_skip
            | (go_at_call 6; (with_reducible refine (HST.out _ C2).mono ?_); rintro e w3 ⟨⟨A1, c1, T, rfl, hS, hT1, hT5⟩, C3⟩; have HS := hid hS; clear hS; have sz2 := C2.size; replace C2 := C2.trans C3; clear C3; obtain ⟨n1, hn1⟩ : ∃ n, T.length = n := ⟨_, rfl⟩; rw [hn1] at hT1 hT5 ⊢; have HN1 := hid hn1; clear hn1))
          have own := HS.out.own.base (B' := W.heap.size) sz2
          rw [HN1.out] at own
          obtain ⟨pm, rfl, hpm, _⟩ := own.form (by omega)
          have HTN := hid HS.out.tin
          have HPM : Hid (∀ t ∈ T, ∀ b ∈ blkOf t.A, b ∉ [pm]) := fun t ht => (HS.out.r t ht).2
          match T, HN1, own, HTN, HPM with
          | [], HN1, _, _, _ => exact absurd HN1.out (by show ¬ (0 = n1); omega)
          | t0 :: T', HN1, own, HTN, HPM =>
            clear HS
            have e0 : w3.cell? ⟨pm, 0, none⟩ = some (.string t0.u) := by
              obtain ⟨b, off, e1, _, hc⟩ := own.rd.2 (by omega)
              simp only [Option.some.injEq, Addr.mk.injEq] at e1
              obtain ⟨rfl, rfl, _⟩ := e1
              exact hc 0 _ rfl
            have f0 : w3.frozen? ⟨pm, 0, none⟩ = false := (own.there 0 (by omega)).2
            have hn10 : (0 : Int) < n1 := by omega
            go_upto_if 56 with fail
            have own1 : Own (w3.setCell ⟨pm, 0, none⟩ (.string us)) W.heap.size 47 6 (some ⟨pm, 0, none⟩) n1 c1 (({ t0 with u := us } :: T' : List Tn).flatMap tnC) := own.set 0 (.string us)
            have C4 : Ch [] W (w3.setCell ⟨pm, 0, none⟩ (.string us)) := C2.setCell (p := ⟨pm, 0, none⟩) (.inr (by show _ ≤ pm; omega)) _
            have D4 : Ch [pm] w3 (w3.setCell ⟨pm, 0, none⟩ (.string us)) := (Ch.refl [pm] w3).setCell (p := ⟨pm, 0, none⟩) (.inl (by simp)) _
            have HPM1 : Hid (∀ t ∈ ({ t0 with u := us } :: T' : List Tn), ∀ b ∈ blkOf t.A, b ∉ [pm]) := fun t ht => by
              rcases List.mem_cons.1 ht with rfl | ht
              · exact HPM.out t0 (by simp)
              · exact HPM.out t (List.mem_cons_of_mem _ ht)
            have HT4 : Hid (∀ t ∈ ({ t0 with u := us } :: T' : List Tn), TnIn (w3.setCell ⟨pm, 0, none⟩ (.string us)) w3.heap.size t) := fun t ht => by
              rcases List.mem_cons.1 ht with rfl | ht
              · have h0 := (HTN.out t0 (by simp)).ch D4 (Nat.le_refl _) (HPM.out t0 (by simp)) (Nat.le_refl _)
                exact ⟨⟨h0.good.L, h0.good.n⟩, HUS.out, h0.p, h0.r⟩
              · exact (HTN.out t (List.mem_cons_of_mem _ ht)).ch D4 (Nat.le_refl _) (HPM.out t (List.mem_cons_of_mem _ ht)) (Nat.le_refl _)
            have sz4 := D4.size
            have HN4 : Hid (({ t0 with u := us } :: T' : List Tn).length = n1) := HN1
            generalize w3.setCell ⟨pm, 0, none⟩ (.string us) = w4 at own1 C4 D4 HT4 sz4 ⊢
            obtain ⟨T1, hT1⟩ : ∃ T1 : List Tn, ({ t0 with u := us } :: T' : List Tn) = T1 := ⟨_, rfl⟩
            obtain ⟨t1, ht1⟩ : ∃ t1 : Tn, ({ t0 with u := us } : Tn) = t1 := ⟨_, rfl⟩
            rw [ht1] at hT1
            have HT10 : Hid (T1[0]? = some t1) := by show _ = _; rw [← hT1]; rfl
            rw [ht1, hT1] at own1 HPM1 HT4 HN4
            clear e0 f0 own HTN HPM HN1 C2 D4 hT1 ht1
            go_cut [10] (fun v wx => ∃ (A2 : Option Addr) (n2 c2 : Nat) (T2 : List Tn), v = .slice A2 n2 c2 ∧ n2 ≤ 6 ∧ Hid (T2.length = n2) ∧ Hid (Rd wx wx.heap.size 6 A2 n2 (T2.flatMap tnC)) ∧ Hid (∀ t ∈ T2, TnIn wx wx.heap.size t) ∧ Ch [] W wx)
            case first =>
              cases twice
              · go_wp2_with fail
                go_meet
                exact ⟨_, n1, c1, T1, rfl, by omega, HN4, own1.rd, fun t ht => (HT4.out t ht).ch (Ch.refl [] _) sz4 (by simp) sz4, C4⟩
              · have HRW : Hid (w4.rangeAt pm 0 (tnC t1)) := by
                  obtain ⟨b, off, e1, _, hc⟩ := own1.rd.2 (by omega)
                  simp only [Option.some.injEq, Addr.mk.injEq] at e1
                  obtain ⟨rfl, rfl, _⟩ := e1
                  intro j v hj
                  have := hc _ _ (flat_get T1 (f := tnC) (size := 6) (fun x _ => tn_len x) 0 t1 HT10.out _ _ hj)
                  rwa [Nat.zero_mul, Nat.zero_add] at this
                obtain ⟨a0, a1, a2, a3, a4, a5, hcs⟩ : ∃ a0 a1 a2 a3 a4 a5 : Value, tnC t1 = [a0, a1, a2, a3, a4, a5] := ⟨_, _, _, _, _, _, rfl⟩
                have HO1 : Hid ([a0, a1, a2, a3, a4, a5].all (·.oneCell') = true) := by show _ = _; rw [← hcs]; exact tn_one t1
                have HI7 : Hid ((Tryd.prog.info? 47).map (·.size) = some [a0, a1, a2, a3, a4, a5].length) := tn_info
                rw [hcs] at HRW
                have HCS := hid hcs
                clear hcs
                go_wp2_with (first
                  | go_big_skip
                  | (refine wpList_load_want rfl 47 _ rfl pm 0 rfl [a0, a1, a2, a3, a4, a5] _ HRW.out Tryd.underlying47 rfl HI7.out ?_)
                  | (refine wpList_buildRows rfl 22 47 1 _ rfl [a0, a1, a2, a3, a4, a5] _ 6 _ Tryd.underlying22 tn_infoZ (by decide) (by decide) rfl ?_)
                  | (at_builtin; (refine wpList_app _ rfl (.tmp 57) (.tmp 61) _ rfl W.heap.size 47 _ 6 80 Tryd.underlying22 tn_infoZ rfl (by omega) _ _ _ _ rfl (own1.alloc _) _ _ _ _ [a0, a1, a2, a3, a4, a5] rfl (Rd.new w4 6 [a0, a1, a2, a3, a4, a5] 1 rfl 47) (fun u hu => List.all_eq_true.1 HO1.out u hu) (by unfold maxLen; omega) (by omega) (by have := C4.size; simp only [World.size_alloc]; omega) ?_; intro A5 c5 w5 own5 ch5 at5)))
                go_meet
                have D5 : Ch [pm] w4 w5 := ((Ch.refl [pm] w4).alloc _).trans ch5
                have s5 := D5.size
                exact ⟨A5, n1 + 1, c5, T1 ++ [t1], rfl, by omega, by show _ = _; rw [List.length_append, HN4.out]; rfl, by show Rd _ _ _ _ _ _; rw [List.flatMap_append]; rw [← HCS.out] at own5; simpa using own5.rd, by
                  show ∀ t ∈ _, _
                  intro t ht
                  have hm : t ∈ T1 := by
                    rcases List.mem_append.1 ht with h | h
                    · exact h
                    · rw [List.mem_singleton] at h
                      rw [h]
                      exact List.mem_of_getElem? HT10.out
                  exact (HT4.out t hm).ch D5 sz4 (HPM1.out t hm) (by omega), C4.step D5 (fun i hi => .inr (by rw [List.mem_singleton] at hi; omega))⟩
            case rest =>
              obtain ⟨A2, n2, c2, T2, rfl, hn2, HN2, HRD, HTN2, C5⟩ := hcut
              obtain ⟨c0, hc0⟩ : ∃ c0, chkT T2 = c0 := ⟨_, rfl⟩
              have HC0 := hid hc0
              have HCX : Hid (∀ w', Ch [] wc w' → Calls Tryd.prog 22 #[.slice A2 n2 c2] w' fun e w'' => e = .returned (.int .i64 c0) ∧ Ch [] w' w'') := fun w' c => by
                have := chkTen w' A2 n2 c2 wc.heap.size T2 (HRD.out.ch c (Nat.le_refl _) (by simp)) c.size (by omega) (fun t ht => (HTN2.out t ht).ch c (Nat.le_refl _) (by simp) (Nat.le_refl _))
                rwa [hc0] at this
              clear own1 HPM1 HT4 HN4 HT10 C4 sz4
              by_cases h0 : c0 = 0
              · subst h0
                have HNX : Hid (Calls Tryd.prog 7 #[.slice A2 n2 c2] wc fun e w' => ∃ g, e = .returned (.tuple #[.pointer (some ⟨g, 0, none⟩), .int .i64 0]) ∧ (∀ w'', Ch [] w' w'' → Calls Tryd.prog 23 #[.pointer (some ⟨g, 0, none⟩)] w'' fun r w3 => r = .returned (.int .i64 n2) ∧ w'' = w3) ∧ Ch [] wc w') := (tenNewOk wc A2 n2 c2 wc.heap.size T2 HRD.out (Nat.le_refl _) (by omega) HTN2.out hc0).mono fun e w' ⟨g, he, X, hR, hX, _, hC⟩ => ⟨g, he, fun w'' c => by
                  have hl : X.length = n2 := by rw [← HN2.out, ← hX, List.length_map]
                  have := regLen (hR.nil c)
                  rwa [hl] at this, hC⟩
                clear hc0 HC0
                go_wp2_with (first
                  | go_big_skip
                  | (go_at_call 7; (with_reducible refine HNX.out.mono ?_); rintro e w6 ⟨g, rfl, hln, C6⟩; have HLN := hid hln; clear hln)
                  | (go_at_call 19; (with_reducible refine (awake14 _).mono ?_); rintro e w7 ⟨rfl, C7⟩; replace C6 := C6.trans C7)
                  | (go_at_call 22; (with_reducible refine (HCX.out _ C6).mono ?_); rintro e w8 ⟨rfl, C8⟩; replace C7 := C7.trans C8; replace C6 := C6.trans C8)
                  | (go_at_call 23; (with_reducible refine (HLN.out _ C7).mono ?_); rintro e w9 ⟨rfl, rfl⟩))
                go_ret
                exact ⟨rfl, (C5.trans C6).nil_below⟩
              · have HNX : Hid (Calls Tryd.prog 7 #[.slice A2 n2 c2] wc fun e w' => e = .returned (.tuple #[.pointer none, .int .i64 c0]) ∧ Ch [] wc w') := tenNewNo wc A2 n2 c2 wc.heap.size T2 HRD.out (Nat.le_refl _) (by omega) HTN2.out c0 hc0 h0
                have hz : (c0 == 0) = false := by simpa using h0
                have hz2 : (c0 != 0) = true := by simpa using h0
                clear h0 hc0 HC0
                go_wp2_with (first
                  | go_big_skip
                  | (go_at_call 7; (with_reducible refine HNX.out.mono ?_); rintro e w6 ⟨rfl, C6⟩)
                  | (go_at_call 19; (with_reducible refine (awake14 _).mono ?_); rintro e w7 ⟨rfl, C7⟩; replace C6 := C6.trans C7)
                  | (go_at_call 22; (with_reducible refine (HCX.out _ C6).mono ?_); rintro e w8 ⟨rfl, C8⟩; replace C6 := C6.trans C8))
                go_ret
                exact ⟨rfl, (C5.trans C6).nil_below⟩
      · have hbg2 := of_decide_eq_true hbg
        have hlt : k < n := by omega
        have hl10 : k < 10 := by omega
        clear hbg hbg2
        obtain ⟨b, off, rfl, hb, hr⟩ := HRE.out (by omega)
        obtain ⟨t, ht⟩ : ∃ t, l[k]? = some t := ⟨_, List.getElem?_eq_getElem (by rw [HNL.out]; exact hlt)⟩
        have hmem := List.mem_of_getElem? ht
        have HRX := hid (fun (w' : World) (c : Ch [] wc w') => range_ch (hr k t ht) (CX.trans c) hb (by simp))
        have H1 := hid (fun (x : After wc) => tenValid x.w t W.heap.size (HTI.out _ (CX.trans x.ch) t hmem).good (HTI.out _ (CX.trans x.ch) t hmem).u (HTI.out _ (CX.trans x.ch) t hmem).p (HTI.out _ (CX.trans x.ch) t hmem).r (CX.trans x.ch).size)
        have H2 := hid (fun (x : After wc) => refTenValid x.w t W.heap.size (HTI.out _ (CX.trans x.ch) t hmem).good (HTI.out _ (CX.trans x.ch) t hmem).u (HTI.out _ (CX.trans x.ch) t hmem).p (HTI.out _ (CX.trans x.ch) t hmem).r (CX.trans x.ch).size)
        have HIT : Hid ((Tryd.prog.info? 47).map (·.size) = some (tnC t).length) := tn_info
        generalize validT t = vt at H1 H2
        generalize tnC t = ct at HRX H1 H2 HIT
        have hvv : (vt != vt) = false := by simp
        have hi0 : (0 : Int) ≤ k := by omega
        have hik : (k : Int) < n := by omega
        clear ht hmem hr
        go_upto_region 4 with fail
        refine wp_region_quietA (wc) (by kernel_rfl) (by kernel_rfl) (Ch.refl _ _) ?_
        repeat (first
          | (go_big_quiet_want; refine quiet_rowA 47 _ rfl b (off + k * 6) rfl ct _ HRX.out Tryd.underlying47 rfl HIT.out ?_; simp only [Act.put, List.setIfInBounds_toArray, List.set_cons_succ, List.set_cons_zero]; go_big_quiet_on)
          | go_big_quiet_step (first
            | (go_at_call 20; with_reducible exact after_of (H1.out _))
            | (go_at_call 21; with_reducible exact after_of (H2.out _))))
        refine wpQuiet_nil ?_
        intro wq hwq
        go_wp2_with fail
        go_roundw
        case rel => exact ⟨k + 1, by go_num, by omega, by omega, CX.trans hwq⟩
        case measure => simp [intOf]; omega
end Go.Proofs.YtbmbnibamhgfmaaDoor
