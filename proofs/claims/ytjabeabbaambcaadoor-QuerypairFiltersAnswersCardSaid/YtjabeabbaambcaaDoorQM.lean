/- Several texts in one: QAns, RAns, QMore, RMore, QPf, LawQP0. -/
import Derived.Test.YtjabeabbaambcaaDoorQB
import Derived.Test.YtjabeabbaambcaaDoorRVal
import Derived.Test.YtjabeabbaambcaaDoorIpValid
import Derived.Test.YtjabeabbaambcaaDoorQuietC
import Derived.Test.YtjabeabbaambcaaDoorRowM
import Derived.Deep.DeepCutAuto
/- Answer, where it records (printed by mk_qans.py): the program. -/
namespace Go.Proofs.YtjabeabbaambcaaDoor
open Go.RowKit
set_option maxRecDepth 20000 in
set_option maxHeartbeats 8000000 in
theorem qpAnsF (p : Nat) (x : QP) (now : Int) (w : World) (A0 A1 : Option Addr) (c0 c1 : Nat) (hP : PG false w p x A0 c0 A1 c1) (hw : x.wf) (hcan : x.can = false) (han : x.an0 = false) (A : Option Addr) (n cap B : Nat) (l : AL) (h : Rd w B 17 A n (l.flatMap adrC)) (hB : B ≤ w.heap.size) (hA : ∀ g ∈ blkOf A, g ≠ p ∧ g ∉ blkOf A0 ∧ g ∉ blkOf A1) (hl : n ≤ 1000000000000) (hG : ∀ a ∈ l, GoodA a.2) :
    Calls Tryd.prog 16 #[.pointer (some ⟨p, 0, none⟩), .int .u64 now, .bool false, .slice A n cap] w fun e w' => ∃ A' c', e = .returned (.tuple #[.int .i64 (keepL false x.l0 l).length, .int .i64 0]) ∧ PG false w' p (x.put false now (keepL false x.l0 l)) A' c' A1 c1 ∧ Ch (p :: blkOf A0) w w' ∧ ∀ g ∈ blkOf A', g ∈ blkOf A0 ∨ w.heap.size ≤ g := by
  obtain ⟨d, can, an0, an1, at0, at1, l0, l1⟩ := x
  simp only at hcan han
  subst hcan han
  have hn0 := hw.n0
  have hg0 := hw.g0
  simp only at hn0 hg0
  have B0 : Blk w p 84 [.int .u64 d, .bool false, .bool false, .int .u64 at0, .slice A0 l0.length c0, .bool an1, .int .u64 at1, .slice A1 l1.length c1] := hP.blk
  have own0 := hP.own0
  have ownO := hP.own1
  have hap := hP.apart
  simp only at own0 ownO
  clear hP hw
  have hf : ∀ x ∈ l, (adrC x).length = 17 := fun x hx => adr_len (hG x hx).1
  obtain ⟨hn, h1⟩ := h.rangeE hf (by omega)
  have HN := hid hn
  have H1 := hid h1
  have HG := hid hG
  have HG0 := hid hg0
  clear h hn h1 hf hG hg0
  have e1 : w.cell? ⟨p, 1, none⟩ = some (.bool false) := B0.cell 1
  have ea : w.cell? ⟨p, 2, none⟩ = some (.bool false) := B0.cell 2
  have et : w.cell? ⟨p, 3, none⟩ = some (.int .u64 at0) := B0.cell 3
  have fa := B0.frozen 2
  have ft := B0.frozen 3
  have hp0 := B0.lt
  have HF : Hid (∀ g ∈ blkOf A0, p + 1 ≤ g ∧ g < w.heap.size) := own0.blks
  have HFO : Hid (∀ g ∈ blkOf A1, p + 1 ≤ g ∧ g < w.heap.size) := ownO.blks
  go_enter Tryd.func16, Tryd.ntmps16
  go_wp2_with (first | (go_at_call 57; (with_reducible refine (qpFam _ _ _).mono ?_); rintro e w' ⟨rfl, rfl⟩; try simp only [Bool.false_eq_true, if_false]))
  go_loopw [35] (fun i wr => ∃ (k m : Nat) (A' : Option Addr) (c' : Nat) (acc : AL), i = .int .i64 k ∧ k ≤ n ∧ Hid (acc = keepL false l0 (l.take k)) ∧ Hid (acc.length = m) ∧ m ≤ 16 ∧ Blk wr p 84 [.int .u64 d, .bool false, .bool true, .int .u64 now, .slice A' m c', .bool an1, .int .u64 at1, .slice A1 l1.length c1] ∧ Own wr (p + 1) 29 17 A' m c' (acc.flatMap adrC) ∧ Own wr (p + 1) 29 17 A1 l1.length c1 (l1.flatMap adrC) ∧ Hid (∀ g ∈ blkOf A', g ∈ blkOf A0 ∨ w.heap.size ≤ g) ∧ Ch (p :: blkOf A0) w wr) (fun i _ => n - (intOf i).toNat)
  case atStart => exact ⟨0, _, A0, c0, l0, rfl, by omega, rfl, rfl, by omega, (B0.set 2 (.bool true)).set 3 (.int .u64 now), (own0.ch (((Ch.refl [p] w).setCell (.inl (by simp)) _).setCell (.inl (by simp)) _) (fun g hg => by have := HF.out g hg; simp; omega)), (ownO.ch (((Ch.refl [p] w).setCell (.inl (by simp)) _).setCell (.inl (by simp)) _) (fun g hg => by have := HFO.out g hg; simp; omega)), fun g hg => .inl hg, ((Ch.refl _ w).setCell (.inl (by simp)) _).setCell (.inl (by simp)) _⟩
  case round =>
    clear B0 own0 ownO e1 ea et fa ft
    obtain ⟨k, m, A', c', acc, rfl, hk, HA, HM, hm, BP, own, ownO, HNW, CC⟩ := hrel
    have hpw := BP.lt
    by_cases hlt : k < n
    · skip
      obtain ⟨b1, off1, rfl, hb1, hr1⟩ := H1.out (by omega)
      obtain ⟨x, hx⟩ : ∃ x, l[k]? = some x := ⟨_, List.getElem?_eq_getElem (by rw [HN.out]; exact hlt)⟩
      have hgx := HG.out x (List.mem_of_getElem? hx)
      have hAx := hA b1 (by simp [blkOf])
      have HR1 : Hid (wr.rangeAt b1 (off1 + k * 17) (adrC x)) := range_ch (hr1 k x hx) CC (by omega) (by simp only [List.mem_cons, not_or]; exact ⟨hAx.1, hAx.2.1⟩)
      have HIX := hid (adr_inf (a := x) hgx.1)
      have HLX := hid (adr_len (a := x) hgx.1)
      have HSN : Hid (keepL false l0 (l.take (k + 1)) = keepA false acc x) := by show _ = _; rw [keepL_snoc hx, HA.out]
      have HVL : Hid (∀ w, Calls Tryd.prog 58 #[.agg (adrC x).toArray] w fun e w' => e = .returned (.bool (validA x.1 x.2)) ∧ Ch [] w w') := ipValid x.1 x.2 hgx.1 hgx.2
      have HGA : Hid (∀ a ∈ acc, a.2.length = 16) := fun a ha => by
        rw [HA.out] at ha
        rcases keepL_mem _ ha with h | h
        · exact (HG0.out a h).1
        · exact (HG.out a (List.mem_of_mem_take h)).1
      have hi0 : (0 : Int) ≤ k := by omega
      have hi1 : (k : Int) < n := by omega
      clear hr1 hb1
      go_upto_region 10 with (first
        | (refine wpList_load_want rfl 29 _ rfl b1 (off1 + k * 17) rfl (adrC x) _ HR1.out Tryd.underlying29 rfl HIX.out ?_)
        | (refine wpList_storeB rfl 29 _ _ rfl wr.heap.size 29 (adrC (false, zeros)) (adrC x) rfl rfl (Blk.new _ _ _) HIX.out ((adr_len (a := (false, zeros)) rfl).trans HLX.out.symm) (adr_one _) ?_; intro w3 B3 C3 Z3))
      have CX : Ch [] wr w3 := ((Ch.refl [] wr).alloc _).step C3 (fun i hi => .inr (by simp at hi; omega))
      have BP3 := BP.ch CX (by simp)
      have own3 := own.ch CX (by simp)
      have ownO3 := ownO.ch CX (by simp)
      have CC3 := CC.step CX (by simp)
      have HBX := hid B3
      generalize wr.heap.size = gx at B3 HBX ⊢
      clear BP own ownO CC C3 Z3 CX HR1 hpw
      have HCT : Hid (∀ y : After w3, Calls Tryd.prog 59 #[.slice A' m c', .agg (adrC x).toArray] y.w fun e w' => e = .returned (.bool (decide (x ∈ acc))) ∧ Ch [] y.w w') := fun y => slCont x hgx.1 y.w A' m c' y.w.heap.size acc (own3.ch y.ch (by simp)).rd (Nat.le_refl _) (by omega) HGA.out
      have cs : ∀ y : After w3, y.w.cell? ⟨p, 4, none⟩ = some (.slice A' m c') := fun y => (BP3.ch y.ch (by simp)).cell 4
      have c0 : ∀ y : After w3, y.w.cell? ⟨gx, 0, none⟩ = some (.bool x.1) := fun y => (B3.ch y.ch (by simp)).cell 0
      have HRX : Hid (∀ w', Ch [] w3 w' → w'.rangeAt gx 0 (adrC x)) := fun w' c => (B3.ch c (by simp)).range
      obtain ⟨s6, bs⟩ := x
      simp only at HVL c0 hgx
      have HBS := hid hgx.1
      clear hx hgx HGA HG0
      cases s6
      · skip
        rcases Bool.eq_false_or_eq_true (validA false bs) with hv | hv
        · rw [hv] at HVL
          by_cases hm16 : m < 16
          · have hm16i : (m : Int) < 16 := by omega
            rcases Bool.eq_false_or_eq_true (decide ((false, bs) ∈ acc)) with hc | hc
            · skip
              rw [hc] at HCT
              have hcm : (false, bs) ∈ acc := of_decide_eq_true hc
              have HNO : Hid (keepA false acc (false, bs) = acc) := by show _ = _; unfold keepA; rw [if_neg]; simp [hcm]
              clear hc hcm
              generalize adrC (false, bs) = cx at *
              try simp only [Act.put]
              refine wp_region_quietA (w3) (by kernel_rfl) (by kernel_rfl) (Ch.refl _ _) ?_
              repeat (first
                | (go_big_quiet_want; refine quiet_rowA 29 _ rfl gx 0 rfl cx _ HRX.out Tryd.underlying29 rfl HIX.out ?_; simp only [Act.put, List.setIfInBounds_toArray, List.set_cons_succ, List.set_cons_zero]; go_big_quiet_on)
                | go_big_quiet_step (first
                  | (go_at_call 58; with_reducible exact after_of (HVL.out _))
                  | (go_at_call 59; with_reducible exact after_of (HCT.out _))))
              refine wpQuiet_nil ?_
              intro wq hwq
              go_wp2_with fail
              go_roundw
              case rel => exact ⟨k + 1, m, A', c', acc, by go_num, by omega, (by show _ = _; rw [HSN.out, HNO.out]), HM, hm, BP3.ch hwq (by simp), own3.ch hwq (by simp), ownO3.ch hwq (by simp), HNW, CC3.step hwq (by simp)⟩
              case measure => simp [intOf]; omega
            · skip
              rw [hc] at HCT
              have HNO : Hid (keepA false acc (false, bs) = acc ++ [(false, bs)]) := by show _ = _; unfold keepA; rw [if_pos ⟨rfl, hv, by rw [HM.out]; exact hm16, of_decide_eq_false hc⟩]
              clear hc
              try simp only [Act.put]
              refine wp_region_quietA (w3) (by kernel_rfl) (by kernel_rfl) (Ch.refl _ _) ?_
              repeat (first
                | (go_big_quiet_want; refine quiet_rowA 29 _ rfl gx 0 rfl (adrC (false, bs)) _ HRX.out Tryd.underlying29 rfl HIX.out ?_; simp only [Act.put, List.setIfInBounds_toArray, List.set_cons_succ, List.set_cons_zero]; go_big_quiet_on)
                | go_big_quiet_step (first
                  | (go_at_call 58; with_reducible exact after_of (HVL.out _))
                  | (go_at_call 59; with_reducible exact after_of (HCT.out _))))
              refine wpQuiet_nil ?_
              intro wq hwq
              obtain ⟨y0, y1, y2, y3, y4, y5, y6, y7, y8, y9, y10, y11, y12, y13, y14, y15, rfl⟩ := len16 HBS.out
              have BPq := BP3.ch hwq (by simp)
              have ownq := own3.ch hwq (by simp)
              have ownOq := ownO3.ch hwq (by simp)
              have CCq := CC3.step hwq (by simp)
              have BXq := B3.ch hwq (by simp)
              clear HCT cs c0 hwq
              have es : wq.cell? ⟨p, 4, none⟩ = some (.slice A' m c') := BPq.cell 4
              go_upto_region 11 with fail
              try simp only [Act.put, List.setIfInBounds_toArray, List.set_cons_succ, List.set_cons_zero]
              refine wp_region_stagesM [⟨0, 1024, 18446744073709551616⟩, ⟨0, 1024, 36893488147419103232⟩, ⟨2, 36893488147419103232, 73786976294838206464⟩, ⟨4, 73786976294838206464, 147573952589676412928⟩, ⟨8, 147573952589676412928, 295147905179352825856⟩, ⟨0, 4096, 590295810358705651712⟩, ⟨32, 590295810358705651712, 1180591620717411303424⟩, ⟨80, 1475739525896764129280, 2361183241434822606848⟩, ⟨255, 18446744073709551616, 4722366482869645213696⟩, ⟨511, 4722366482869645213696, 9444732965739290427392⟩, ⟨767, 11805916207174113034240, 0⟩] [([0, 1, 2, 3, 4, 5], 6, [0, 1, 2, 3, 4]), ([], 7, [0]), ([8, 9], 10, [])] [] (by kernel_rfl) (by kernel_rfl) ?_
              refine wpStages_step ?_
              simp only [pick, List.map_cons, List.map_nil, List.getD_cons_zero, List.getD_cons_succ]
              repeat (first
                | (refine wpQuiet_row rfl 29 _ rfl gx 0 rfl (adrC (false, [y0, y1, y2, y3, y4, y5, y6, y7, y8, y9, y10, y11, y12, y13, y14, y15])) _ (fun w' ⟨q, hq⟩ => hq ▸ (BXq.drewN q).range) Tryd.underlying29 rfl HIX.out ?_; simp only [Act.put, List.setIfInBounds_toArray, List.set_cons_succ, List.set_cons_zero])
                | go_big_quiet_step (fail))
              refine wpQuiet_nil ?_
              intro n0
              simp only [pick, List.map_cons, List.map_nil, List.getD_cons_zero, List.getD_cons_succ]
              go_wp2_with (refine wpList_buildRows rfl 22 29 1 _ rfl (adrC (false, [y0, y1, y2, y3, y4, y5, y6, y7, y8, y9, y10, y11, y12, y13, y14, y15])) _ 17 _ Tryd.underlying22 addr_infoZ (by decide) (by decide) (by kernel_rfl) ?_)
              have es1 : ((wq.drewN n0).alloc (.cells (adrC (false, [y0, y1, y2, y3, y4, y5, y6, y7, y8, y9, y10, y11, y12, y13, y14, y15])).toArray 29)).cell? ⟨p, 4, none⟩ = some (.slice A' m c') := ((BPq.drewN n0).alloc _).cell 4
              refine stagePost_mk ?_ ?_
              · intro o ho
                simp only [pick, List.map_cons, List.map_nil, List.getD_cons_zero, List.getD_cons_succ, List.mem_cons, List.not_mem_nil, or_false] at ho
                rcases ho with rfl | rfl | rfl | rfl | rfl
                all_goals
                  refine float_any ?_
                  repeat (go_big_quiet_step (fail))
                  refine wpQuiet_nil ?_
                  rfl
              refine wpStages_step ?_
              try simp only [pick, List.map_nil]
              refine wpQuiet_nil ?_
              intro n1
              simp only [pick, List.map_cons, List.map_nil, List.getD_cons_zero, List.getD_cons_succ]
              go_wp2_with (at_builtin; (refine wpList_app _ rfl (.tmp 68) (.tmp 70) _ rfl (p + 1) 29 _ 17 17 Tryd.underlying22 addr_infoZ rfl (by omega) _ _ _ _ rfl (((ownq.drewN n0).alloc _).drewN n1) _ _ _ _ (adrC (false, [y0, y1, y2, y3, y4, y5, y6, y7, y8, y9, y10, y11, y12, y13, y14, y15])) rfl ((Rd.new (wq.drewN n0) 17 (adrC (false, [y0, y1, y2, y3, y4, y5, y6, y7, y8, y9, y10, y11, y12, y13, y14, y15])) 1 rfl _).drewN n1) (List.all_eq_true.1 (adr_one _)) (by unfold maxLen; omega) (by omega) (by have := (((BPq.drewN n0).alloc (.cells (adrC (false, [y0, y1, y2, y3, y4, y5, y6, y7, y8, y9, y10, y11, y12, y13, y14, y15])).toArray 29)).drewN n1).lt; omega) ?_; intro A4 c4 w4 own4 ch4 at4))
              have hpA : p ∉ blkOf A' := fun hm => by have := ownq.blks p hm; omega
              have BP4 := (((BPq.drewN n0).alloc (.cells (adrC (false, [y0, y1, y2, y3, y4, y5, y6, y7, y8, y9, y10, y11, y12, y13, y14, y15])).toArray 29)).drewN n1).ch ch4 hpA
              have es4 : w4.cell? ⟨p, 4, none⟩ = some (.slice A' m c') := BP4.cell 4
              have fs4 := BP4.frozen 4
              refine stagePost_mk ?_ ?_
              · intro o ho
                simp only [pick, List.map_cons, List.map_nil, List.getD_cons_zero, List.mem_cons, List.not_mem_nil, or_false] at ho
                rcases ho with rfl
                all_goals
                  refine float_any ?_
                  repeat (go_big_quiet_step (fail))
                  refine wpQuiet_nil ?_
                  rfl
              refine wpStages_step ?_
              simp only [pick, List.map_cons, List.map_nil, List.getD_cons_zero, List.getD_cons_succ]
              repeat (go_big_quiet_step (fail))
              refine wpQuiet_nil ?_
              intro n2
              simp only [pick, List.map_cons, List.map_nil, List.getD_cons_zero, List.getD_cons_succ]
              go_wp2_with fail
              refine stagePost_mk (by simp [pick]) ?_
              refine wpStages_last ?_
              try simp only [pick, List.map_nil]
              refine wpQuiet_nil ?_
              intro n3
              go_wp2_with fail
              go_roundw
              case rel =>
                have C4 : Ch (blkOf A') wq w4 := ((((Ch.refl (blkOf A') wq).drewN n0).alloc (.cells (adrC (false, [y0, y1, y2, y3, y4, y5, y6, y7, y8, y9, y10, y11, y12, y13, y14, y15])).toArray 29)).drewN n1).trans ch4
                have hszw := CCq.size
                have hsz4 := C4.size
                have CP : Ch [p] w4 (((w4.drewN n2).setCell ⟨p, 4, none⟩ (.slice A4 (m + 1) c4)).drewN n3) := (((Ch.refl [p] w4).drewN n2).setCell (.inl (by simp)) _).drewN n3
                have ownO4 := ownOq.ch C4 (fun g hg0 hg => by
                  rcases HNW.out g hg with h | h
                  · exact hap g h g hg0 rfl
                  · have := HFO.out g hg0; omega)
                refine ⟨k + 1, m + 1, A4, c4, acc ++ [(false, [y0, y1, y2, y3, y4, y5, y6, y7, y8, y9, y10, y11, y12, y13, y14, y15])], by go_num, by omega, (by show _ = _; rw [HSN.out, HNO.out]), (by show _ = _; rw [List.length_append, HM.out]; rfl), by omega, ((BP4.drewN n2).set 4 _).drewN n3, ?_, ownO4.ch CP (fun g hg => by have := ownO4.blks g hg; simp; omega), ?_, ?_⟩
                · rw [List.flatMap_append]
                  have := own4.ch CP (fun g hg => by (have := own4.blks g hg); simp; omega)
                  simpa using this
                · intro g hg
                  rcases at4 g hg with h | h
                  · exact HNW.out g h
                  · right
                    have h3 : (((wq.drewN n0).alloc (.cells (adrC (false, [y0, y1, y2, y3, y4, y5, y6, y7, y8, y9, y10, y11, y12, y13, y14, y15])).toArray 29)).drewN n1).heap.size = wq.heap.size + 1 := by
                      show ((wq.drewN n0).alloc _).heap.size = _
                      rw [World.size_alloc]; rfl
                    omega
                · refine (CCq.step C4 (fun g hg => ?_)).step CP (fun g hg => .inl (by simp at hg; simp [hg]))
                  rcases HNW.out g hg with h | h
                  · exact .inl (by simp [h])
                  · exact .inr h
              case measure => simp [intOf]; omega
          · skip
            have hm16i : ¬ (m : Int) < 16 := by omega
            have HNO : Hid (keepA false acc (false, bs) = acc) := by show _ = _; unfold keepA; rw [if_neg]; have := HM.out; simp; omega
            generalize adrC (false, bs) = cx at *
            try simp only [Act.put]
            refine wp_region_quietA (w3) (by kernel_rfl) (by kernel_rfl) (Ch.refl _ _) ?_
            repeat (first
              | (go_big_quiet_want; refine quiet_rowA 29 _ rfl gx 0 rfl cx _ HRX.out Tryd.underlying29 rfl HIX.out ?_; simp only [Act.put, List.setIfInBounds_toArray, List.set_cons_succ, List.set_cons_zero]; go_big_quiet_on)
              | go_big_quiet_step (first
                | (go_at_call 58; with_reducible exact after_of (HVL.out _))
                | (go_at_call 59; with_reducible exact after_of (HCT.out _))))
            refine wpQuiet_nil ?_
            intro wq hwq
            go_wp2_with fail
            go_roundw
            case rel => exact ⟨k + 1, m, A', c', acc, by go_num, by omega, (by show _ = _; rw [HSN.out, HNO.out]), HM, hm, BP3.ch hwq (by simp), own3.ch hwq (by simp), ownO3.ch hwq (by simp), HNW, CC3.step hwq (by simp)⟩
            case measure => simp [intOf]; omega
        · rw [hv] at HVL
          have HNO : Hid (keepA false acc (false, bs) = acc) := by show _ = _; unfold keepA; rw [if_neg]; simp [hv]
          generalize adrC (false, bs) = cx at *
          try simp only [Act.put]
          refine wp_region_quietA (w3) (by kernel_rfl) (by kernel_rfl) (Ch.refl _ _) ?_
          repeat (first
            | (go_big_quiet_want; refine quiet_rowA 29 _ rfl gx 0 rfl cx _ HRX.out Tryd.underlying29 rfl HIX.out ?_; simp only [Act.put, List.setIfInBounds_toArray, List.set_cons_succ, List.set_cons_zero]; go_big_quiet_on)
            | go_big_quiet_step (first
              | (go_at_call 58; with_reducible exact after_of (HVL.out _))
              | (go_at_call 59; with_reducible exact after_of (HCT.out _))))
          refine wpQuiet_nil ?_
          intro wq hwq
          go_wp2_with fail
          go_roundw
          case rel => exact ⟨k + 1, m, A', c', acc, by go_num, by omega, (by show _ = _; rw [HSN.out, HNO.out]), HM, hm, BP3.ch hwq (by simp), own3.ch hwq (by simp), ownO3.ch hwq (by simp), HNW, CC3.step hwq (by simp)⟩
          case measure => simp [intOf]; omega
      · skip
        have HNO : Hid (keepA false acc (true, bs) = acc) := by show _ = _; unfold keepA; rw [if_neg]; simp
        generalize adrC (true, bs) = cx at *
        try simp only [Act.put]
        refine wp_region_quietA (w3) (by kernel_rfl) (by kernel_rfl) (Ch.refl _ _) ?_
        repeat (first
          | (go_big_quiet_want; refine quiet_rowA 29 _ rfl gx 0 rfl cx _ HRX.out Tryd.underlying29 rfl HIX.out ?_; simp only [Act.put, List.setIfInBounds_toArray, List.set_cons_succ, List.set_cons_zero]; go_big_quiet_on)
          | go_big_quiet_step (first
            | (go_at_call 58; with_reducible exact after_of (HVL.out _))
            | (go_at_call 59; with_reducible exact after_of (HCT.out _))))
        refine wpQuiet_nil ?_
        intro wq hwq
        go_wp2_with fail
        go_roundw
        case rel => exact ⟨k + 1, m, A', c', acc, by go_num, by omega, (by show _ = _; rw [HSN.out, HNO.out]), HM, hm, BP3.ch hwq (by simp), own3.ch hwq (by simp), ownO3.ch hwq (by simp), HNW, CC3.step hwq (by simp)⟩
        case measure => simp [intOf]; omega
    · obtain rfl : k = n := by omega
      have HV : Hid (keepL false l0 l = acc) := by show _ = _; rw [HA.out, List.take_of_length_le (by have := HN.out; omega)]
      have es : wr.cell? ⟨p, 4, none⟩ = some (.slice A' m c') := BP.cell 4
      go_wp2_with fail
      go_ret2
      refine ⟨A', c', ?_, ?_, CC, HNW.out⟩
      · rw [HV.out, HM.out]; rfl
      · rw [HV.out]
        refine ⟨?_, ?_, ?_, ?_⟩
        · have := HM.out; subst this; exact BP
        · have := HM.out; subst this; exact own
        · exact ownO
        · intro a ha b hb
          rcases HNW.out a ha with h | h
          · exact hap a h b hb
          · have := HFO.out b hb; omega
set_option maxRecDepth 20000 in
set_option maxHeartbeats 8000000 in
theorem qpAnsT (p : Nat) (x : QP) (now : Int) (w : World) (A0 A1 : Option Addr) (c0 c1 : Nat) (hP : PG false w p x A0 c0 A1 c1) (hw : x.wf) (hcan : x.can = false) (han : x.an1 = false) (A : Option Addr) (n cap B : Nat) (l : AL) (h : Rd w B 17 A n (l.flatMap adrC)) (hB : B ≤ w.heap.size) (hA : ∀ g ∈ blkOf A, g ≠ p ∧ g ∉ blkOf A0 ∧ g ∉ blkOf A1) (hl : n ≤ 1000000000000) (hG : ∀ a ∈ l, GoodA a.2) :
    Calls Tryd.prog 16 #[.pointer (some ⟨p, 0, none⟩), .int .u64 now, .bool true, .slice A n cap] w fun e w' => ∃ A' c', e = .returned (.tuple #[.int .i64 (keepL true x.l1 l).length, .int .i64 0]) ∧ PG false w' p (x.put true now (keepL true x.l1 l)) A0 c0 A' c' ∧ Ch (p :: blkOf A1) w w' ∧ ∀ g ∈ blkOf A', g ∈ blkOf A1 ∨ w.heap.size ≤ g := by
  obtain ⟨d, can, an0, an1, at0, at1, l0, l1⟩ := x
  simp only at hcan han
  subst hcan han
  have hn1 := hw.n1
  have hg1 := hw.g1
  simp only at hn1 hg1
  have B0 : Blk w p 84 [.int .u64 d, .bool false, .bool an0, .int .u64 at0, .slice A0 l0.length c0, .bool false, .int .u64 at1, .slice A1 l1.length c1] := hP.blk
  have own0 := hP.own1
  have ownO := hP.own0
  have hap := hP.apart
  simp only at own0 ownO
  clear hP hw
  have hf : ∀ x ∈ l, (adrC x).length = 17 := fun x hx => adr_len (hG x hx).1
  obtain ⟨hn, h1⟩ := h.rangeE hf (by omega)
  have HN := hid hn
  have H1 := hid h1
  have HG := hid hG
  have HG0 := hid hg1
  clear h hn h1 hf hG hg1
  have e1 : w.cell? ⟨p, 1, none⟩ = some (.bool false) := B0.cell 1
  have ea : w.cell? ⟨p, 5, none⟩ = some (.bool false) := B0.cell 5
  have et : w.cell? ⟨p, 6, none⟩ = some (.int .u64 at1) := B0.cell 6
  have fa := B0.frozen 5
  have ft := B0.frozen 6
  have hp0 := B0.lt
  have HF : Hid (∀ g ∈ blkOf A1, p + 1 ≤ g ∧ g < w.heap.size) := own0.blks
  have HFO : Hid (∀ g ∈ blkOf A0, p + 1 ≤ g ∧ g < w.heap.size) := ownO.blks
  go_enter Tryd.func16, Tryd.ntmps16
  go_wp2_with (first | (go_at_call 57; (with_reducible refine (qpFam _ _ _).mono ?_); rintro e w' ⟨rfl, rfl⟩; try simp only [if_true]))
  go_loopw [35] (fun i wr => ∃ (k m : Nat) (A' : Option Addr) (c' : Nat) (acc : AL), i = .int .i64 k ∧ k ≤ n ∧ Hid (acc = keepL true l1 (l.take k)) ∧ Hid (acc.length = m) ∧ m ≤ 16 ∧ Blk wr p 84 [.int .u64 d, .bool false, .bool an0, .int .u64 at0, .slice A0 l0.length c0, .bool true, .int .u64 now, .slice A' m c'] ∧ Own wr (p + 1) 29 17 A' m c' (acc.flatMap adrC) ∧ Own wr (p + 1) 29 17 A0 l0.length c0 (l0.flatMap adrC) ∧ Hid (∀ g ∈ blkOf A', g ∈ blkOf A1 ∨ w.heap.size ≤ g) ∧ Ch (p :: blkOf A1) w wr) (fun i _ => n - (intOf i).toNat)
  case atStart => exact ⟨0, _, A1, c1, l1, rfl, by omega, rfl, rfl, by omega, (B0.set 5 (.bool true)).set 6 (.int .u64 now), (own0.ch (((Ch.refl [p] w).setCell (.inl (by simp)) _).setCell (.inl (by simp)) _) (fun g hg => by have := HF.out g hg; simp; omega)), (ownO.ch (((Ch.refl [p] w).setCell (.inl (by simp)) _).setCell (.inl (by simp)) _) (fun g hg => by have := HFO.out g hg; simp; omega)), fun g hg => .inl hg, ((Ch.refl _ w).setCell (.inl (by simp)) _).setCell (.inl (by simp)) _⟩
  case round =>
    clear B0 own0 ownO e1 ea et fa ft
    obtain ⟨k, m, A', c', acc, rfl, hk, HA, HM, hm, BP, own, ownO, HNW, CC⟩ := hrel
    have hpw := BP.lt
    by_cases hlt : k < n
    · skip
      obtain ⟨b1, off1, rfl, hb1, hr1⟩ := H1.out (by omega)
      obtain ⟨x, hx⟩ : ∃ x, l[k]? = some x := ⟨_, List.getElem?_eq_getElem (by rw [HN.out]; exact hlt)⟩
      have hgx := HG.out x (List.mem_of_getElem? hx)
      have hAx := hA b1 (by simp [blkOf])
      have HR1 : Hid (wr.rangeAt b1 (off1 + k * 17) (adrC x)) := range_ch (hr1 k x hx) CC (by omega) (by simp only [List.mem_cons, not_or]; exact ⟨hAx.1, hAx.2.2⟩)
      have HIX := hid (adr_inf (a := x) hgx.1)
      have HLX := hid (adr_len (a := x) hgx.1)
      have HSN : Hid (keepL true l1 (l.take (k + 1)) = keepA true acc x) := by show _ = _; rw [keepL_snoc hx, HA.out]
      have HVL : Hid (∀ w, Calls Tryd.prog 58 #[.agg (adrC x).toArray] w fun e w' => e = .returned (.bool (validA x.1 x.2)) ∧ Ch [] w w') := ipValid x.1 x.2 hgx.1 hgx.2
      have HGA : Hid (∀ a ∈ acc, a.2.length = 16) := fun a ha => by
        rw [HA.out] at ha
        rcases keepL_mem _ ha with h | h
        · exact (HG0.out a h).1
        · exact (HG.out a (List.mem_of_mem_take h)).1
      have hi0 : (0 : Int) ≤ k := by omega
      have hi1 : (k : Int) < n := by omega
      clear hr1 hb1
      go_upto_region 10 with (first
        | (refine wpList_load_want rfl 29 _ rfl b1 (off1 + k * 17) rfl (adrC x) _ HR1.out Tryd.underlying29 rfl HIX.out ?_)
        | (refine wpList_storeB rfl 29 _ _ rfl wr.heap.size 29 (adrC (false, zeros)) (adrC x) rfl rfl (Blk.new _ _ _) HIX.out ((adr_len (a := (false, zeros)) rfl).trans HLX.out.symm) (adr_one _) ?_; intro w3 B3 C3 Z3))
      have CX : Ch [] wr w3 := ((Ch.refl [] wr).alloc _).step C3 (fun i hi => .inr (by simp at hi; omega))
      have BP3 := BP.ch CX (by simp)
      have own3 := own.ch CX (by simp)
      have ownO3 := ownO.ch CX (by simp)
      have CC3 := CC.step CX (by simp)
      have HBX := hid B3
      generalize wr.heap.size = gx at B3 HBX ⊢
      clear BP own ownO CC C3 Z3 CX HR1 hpw
      have HCT : Hid (∀ y : After w3, Calls Tryd.prog 59 #[.slice A' m c', .agg (adrC x).toArray] y.w fun e w' => e = .returned (.bool (decide (x ∈ acc))) ∧ Ch [] y.w w') := fun y => slCont x hgx.1 y.w A' m c' y.w.heap.size acc (own3.ch y.ch (by simp)).rd (Nat.le_refl _) (by omega) HGA.out
      have cs : ∀ y : After w3, y.w.cell? ⟨p, 7, none⟩ = some (.slice A' m c') := fun y => (BP3.ch y.ch (by simp)).cell 7
      have c0 : ∀ y : After w3, y.w.cell? ⟨gx, 0, none⟩ = some (.bool x.1) := fun y => (B3.ch y.ch (by simp)).cell 0
      have HRX : Hid (∀ w', Ch [] w3 w' → w'.rangeAt gx 0 (adrC x)) := fun w' c => (B3.ch c (by simp)).range
      obtain ⟨s6, bs⟩ := x
      simp only at HVL c0 hgx
      have HBS := hid hgx.1
      clear hx hgx HGA HG0
      cases s6
      · skip
        have HNO : Hid (keepA true acc (false, bs) = acc) := by show _ = _; unfold keepA; rw [if_neg]; simp
        generalize adrC (false, bs) = cx at *
        try simp only [Act.put]
        refine wp_region_quietA (w3) (by kernel_rfl) (by kernel_rfl) (Ch.refl _ _) ?_
        repeat (first
          | (go_big_quiet_want; refine quiet_rowA 29 _ rfl gx 0 rfl cx _ HRX.out Tryd.underlying29 rfl HIX.out ?_; simp only [Act.put, List.setIfInBounds_toArray, List.set_cons_succ, List.set_cons_zero]; go_big_quiet_on)
          | go_big_quiet_step (first
            | (go_at_call 58; with_reducible exact after_of (HVL.out _))
            | (go_at_call 59; with_reducible exact after_of (HCT.out _))))
        refine wpQuiet_nil ?_
        intro wq hwq
        go_wp2_with fail
        go_roundw
        case rel => exact ⟨k + 1, m, A', c', acc, by go_num, by omega, (by show _ = _; rw [HSN.out, HNO.out]), HM, hm, BP3.ch hwq (by simp), own3.ch hwq (by simp), ownO3.ch hwq (by simp), HNW, CC3.step hwq (by simp)⟩
        case measure => simp [intOf]; omega
      · skip
        rcases Bool.eq_false_or_eq_true (validA true bs) with hv | hv
        · rw [hv] at HVL
          by_cases hm16 : m < 16
          · have hm16i : (m : Int) < 16 := by omega
            rcases Bool.eq_false_or_eq_true (decide ((true, bs) ∈ acc)) with hc | hc
            · skip
              rw [hc] at HCT
              have hcm : (true, bs) ∈ acc := of_decide_eq_true hc
              have HNO : Hid (keepA true acc (true, bs) = acc) := by show _ = _; unfold keepA; rw [if_neg]; simp [hcm]
              clear hc hcm
              generalize adrC (true, bs) = cx at *
              try simp only [Act.put]
              refine wp_region_quietA (w3) (by kernel_rfl) (by kernel_rfl) (Ch.refl _ _) ?_
              repeat (first
                | (go_big_quiet_want; refine quiet_rowA 29 _ rfl gx 0 rfl cx _ HRX.out Tryd.underlying29 rfl HIX.out ?_; simp only [Act.put, List.setIfInBounds_toArray, List.set_cons_succ, List.set_cons_zero]; go_big_quiet_on)
                | go_big_quiet_step (first
                  | (go_at_call 58; with_reducible exact after_of (HVL.out _))
                  | (go_at_call 59; with_reducible exact after_of (HCT.out _))))
              refine wpQuiet_nil ?_
              intro wq hwq
              go_wp2_with fail
              go_roundw
              case rel => exact ⟨k + 1, m, A', c', acc, by go_num, by omega, (by show _ = _; rw [HSN.out, HNO.out]), HM, hm, BP3.ch hwq (by simp), own3.ch hwq (by simp), ownO3.ch hwq (by simp), HNW, CC3.step hwq (by simp)⟩
              case measure => simp [intOf]; omega
            · skip
              rw [hc] at HCT
              have HNO : Hid (keepA true acc (true, bs) = acc ++ [(true, bs)]) := by show _ = _; unfold keepA; rw [if_pos ⟨rfl, hv, by rw [HM.out]; exact hm16, of_decide_eq_false hc⟩]
              clear hc
              try simp only [Act.put]
              refine wp_region_quietA (w3) (by kernel_rfl) (by kernel_rfl) (Ch.refl _ _) ?_
              repeat (first
                | (go_big_quiet_want; refine quiet_rowA 29 _ rfl gx 0 rfl (adrC (true, bs)) _ HRX.out Tryd.underlying29 rfl HIX.out ?_; simp only [Act.put, List.setIfInBounds_toArray, List.set_cons_succ, List.set_cons_zero]; go_big_quiet_on)
                | go_big_quiet_step (first
                  | (go_at_call 58; with_reducible exact after_of (HVL.out _))
                  | (go_at_call 59; with_reducible exact after_of (HCT.out _))))
              refine wpQuiet_nil ?_
              intro wq hwq
              obtain ⟨y0, y1, y2, y3, y4, y5, y6, y7, y8, y9, y10, y11, y12, y13, y14, y15, rfl⟩ := len16 HBS.out
              have BPq := BP3.ch hwq (by simp)
              have ownq := own3.ch hwq (by simp)
              have ownOq := ownO3.ch hwq (by simp)
              have CCq := CC3.step hwq (by simp)
              have BXq := B3.ch hwq (by simp)
              clear HCT cs c0 hwq
              have es : wq.cell? ⟨p, 7, none⟩ = some (.slice A' m c') := BPq.cell 7
              go_upto_region 11 with fail
              try simp only [Act.put, List.setIfInBounds_toArray, List.set_cons_succ, List.set_cons_zero]
              refine wp_region_stagesM [⟨0, 1024, 18446744073709551616⟩, ⟨0, 1024, 36893488147419103232⟩, ⟨2, 36893488147419103232, 73786976294838206464⟩, ⟨4, 73786976294838206464, 147573952589676412928⟩, ⟨8, 147573952589676412928, 295147905179352825856⟩, ⟨0, 4096, 590295810358705651712⟩, ⟨32, 590295810358705651712, 1180591620717411303424⟩, ⟨80, 1475739525896764129280, 2361183241434822606848⟩, ⟨255, 18446744073709551616, 4722366482869645213696⟩, ⟨511, 4722366482869645213696, 9444732965739290427392⟩, ⟨767, 11805916207174113034240, 0⟩] [([0, 1, 2, 3, 4, 5], 6, [0, 1, 2, 3, 4]), ([], 7, [0]), ([8, 9], 10, [])] [] (by kernel_rfl) (by kernel_rfl) ?_
              refine wpStages_step ?_
              simp only [pick, List.map_cons, List.map_nil, List.getD_cons_zero, List.getD_cons_succ]
              repeat (first
                | (refine wpQuiet_row rfl 29 _ rfl gx 0 rfl (adrC (true, [y0, y1, y2, y3, y4, y5, y6, y7, y8, y9, y10, y11, y12, y13, y14, y15])) _ (fun w' ⟨q, hq⟩ => hq ▸ (BXq.drewN q).range) Tryd.underlying29 rfl HIX.out ?_; simp only [Act.put, List.setIfInBounds_toArray, List.set_cons_succ, List.set_cons_zero])
                | go_big_quiet_step (fail))
              refine wpQuiet_nil ?_
              intro n0
              simp only [pick, List.map_cons, List.map_nil, List.getD_cons_zero, List.getD_cons_succ]
              go_wp2_with (refine wpList_buildRows rfl 22 29 1 _ rfl (adrC (true, [y0, y1, y2, y3, y4, y5, y6, y7, y8, y9, y10, y11, y12, y13, y14, y15])) _ 17 _ Tryd.underlying22 addr_infoZ (by decide) (by decide) (by kernel_rfl) ?_)
              have es1 : ((wq.drewN n0).alloc (.cells (adrC (true, [y0, y1, y2, y3, y4, y5, y6, y7, y8, y9, y10, y11, y12, y13, y14, y15])).toArray 29)).cell? ⟨p, 7, none⟩ = some (.slice A' m c') := ((BPq.drewN n0).alloc _).cell 7
              refine stagePost_mk ?_ ?_
              · intro o ho
                simp only [pick, List.map_cons, List.map_nil, List.getD_cons_zero, List.getD_cons_succ, List.mem_cons, List.not_mem_nil, or_false] at ho
                rcases ho with rfl | rfl | rfl | rfl | rfl
                all_goals
                  refine float_any ?_
                  repeat (go_big_quiet_step (fail))
                  refine wpQuiet_nil ?_
                  rfl
              refine wpStages_step ?_
              try simp only [pick, List.map_nil]
              refine wpQuiet_nil ?_
              intro n1
              simp only [pick, List.map_cons, List.map_nil, List.getD_cons_zero, List.getD_cons_succ]
              go_wp2_with (at_builtin; (refine wpList_app _ rfl (.tmp 68) (.tmp 70) _ rfl (p + 1) 29 _ 17 17 Tryd.underlying22 addr_infoZ rfl (by omega) _ _ _ _ rfl (((ownq.drewN n0).alloc _).drewN n1) _ _ _ _ (adrC (true, [y0, y1, y2, y3, y4, y5, y6, y7, y8, y9, y10, y11, y12, y13, y14, y15])) rfl ((Rd.new (wq.drewN n0) 17 (adrC (true, [y0, y1, y2, y3, y4, y5, y6, y7, y8, y9, y10, y11, y12, y13, y14, y15])) 1 rfl _).drewN n1) (List.all_eq_true.1 (adr_one _)) (by unfold maxLen; omega) (by omega) (by have := (((BPq.drewN n0).alloc (.cells (adrC (true, [y0, y1, y2, y3, y4, y5, y6, y7, y8, y9, y10, y11, y12, y13, y14, y15])).toArray 29)).drewN n1).lt; omega) ?_; intro A4 c4 w4 own4 ch4 at4))
              have hpA : p ∉ blkOf A' := fun hm => by have := ownq.blks p hm; omega
              have BP4 := (((BPq.drewN n0).alloc (.cells (adrC (true, [y0, y1, y2, y3, y4, y5, y6, y7, y8, y9, y10, y11, y12, y13, y14, y15])).toArray 29)).drewN n1).ch ch4 hpA
              have es4 : w4.cell? ⟨p, 7, none⟩ = some (.slice A' m c') := BP4.cell 7
              have fs4 := BP4.frozen 7
              refine stagePost_mk ?_ ?_
              · intro o ho
                simp only [pick, List.map_cons, List.map_nil, List.getD_cons_zero, List.mem_cons, List.not_mem_nil, or_false] at ho
                rcases ho with rfl
                all_goals
                  refine float_any ?_
                  repeat (go_big_quiet_step (fail))
                  refine wpQuiet_nil ?_
                  rfl
              refine wpStages_step ?_
              simp only [pick, List.map_cons, List.map_nil, List.getD_cons_zero, List.getD_cons_succ]
              repeat (go_big_quiet_step (fail))
              refine wpQuiet_nil ?_
              intro n2
              simp only [pick, List.map_cons, List.map_nil, List.getD_cons_zero, List.getD_cons_succ]
              go_wp2_with fail
              refine stagePost_mk (by simp [pick]) ?_
              refine wpStages_last ?_
              try simp only [pick, List.map_nil]
              refine wpQuiet_nil ?_
              intro n3
              go_wp2_with fail
              go_roundw
              case rel =>
                have C4 : Ch (blkOf A') wq w4 := ((((Ch.refl (blkOf A') wq).drewN n0).alloc (.cells (adrC (true, [y0, y1, y2, y3, y4, y5, y6, y7, y8, y9, y10, y11, y12, y13, y14, y15])).toArray 29)).drewN n1).trans ch4
                have hszw := CCq.size
                have hsz4 := C4.size
                have CP : Ch [p] w4 (((w4.drewN n2).setCell ⟨p, 7, none⟩ (.slice A4 (m + 1) c4)).drewN n3) := (((Ch.refl [p] w4).drewN n2).setCell (.inl (by simp)) _).drewN n3
                have ownO4 := ownOq.ch C4 (fun g hg0 hg => by
                  rcases HNW.out g hg with h | h
                  · exact hap g hg0 g h rfl
                  · have := HFO.out g hg0; omega)
                refine ⟨k + 1, m + 1, A4, c4, acc ++ [(true, [y0, y1, y2, y3, y4, y5, y6, y7, y8, y9, y10, y11, y12, y13, y14, y15])], by go_num, by omega, (by show _ = _; rw [HSN.out, HNO.out]), (by show _ = _; rw [List.length_append, HM.out]; rfl), by omega, ((BP4.drewN n2).set 7 _).drewN n3, ?_, ownO4.ch CP (fun g hg => by have := ownO4.blks g hg; simp; omega), ?_, ?_⟩
                · rw [List.flatMap_append]
                  have := own4.ch CP (fun g hg => by (have := own4.blks g hg); simp; omega)
                  simpa using this
                · intro g hg
                  rcases at4 g hg with h | h
                  · exact HNW.out g h
                  · right
                    have h3 : (((wq.drewN n0).alloc (.cells (adrC (true, [y0, y1, y2, y3, y4, y5, y6, y7, y8, y9, y10, y11, y12, y13, y14, y15])).toArray 29)).drewN n1).heap.size = wq.heap.size + 1 := by
                      show ((wq.drewN n0).alloc _).heap.size = _
                      rw [World.size_alloc]; rfl
                    omega
                · refine (CCq.step C4 (fun g hg => ?_)).step CP (fun g hg => .inl (by simp at hg; simp [hg]))
                  rcases HNW.out g hg with h | h
                  · exact .inl (by simp [h])
                  · exact .inr h
              case measure => simp [intOf]; omega
          · skip
            have hm16i : ¬ (m : Int) < 16 := by omega
            have HNO : Hid (keepA true acc (true, bs) = acc) := by show _ = _; unfold keepA; rw [if_neg]; have := HM.out; simp; omega
            generalize adrC (true, bs) = cx at *
            try simp only [Act.put]
            refine wp_region_quietA (w3) (by kernel_rfl) (by kernel_rfl) (Ch.refl _ _) ?_
            repeat (first
              | (go_big_quiet_want; refine quiet_rowA 29 _ rfl gx 0 rfl cx _ HRX.out Tryd.underlying29 rfl HIX.out ?_; simp only [Act.put, List.setIfInBounds_toArray, List.set_cons_succ, List.set_cons_zero]; go_big_quiet_on)
              | go_big_quiet_step (first
                | (go_at_call 58; with_reducible exact after_of (HVL.out _))
                | (go_at_call 59; with_reducible exact after_of (HCT.out _))))
            refine wpQuiet_nil ?_
            intro wq hwq
            go_wp2_with fail
            go_roundw
            case rel => exact ⟨k + 1, m, A', c', acc, by go_num, by omega, (by show _ = _; rw [HSN.out, HNO.out]), HM, hm, BP3.ch hwq (by simp), own3.ch hwq (by simp), ownO3.ch hwq (by simp), HNW, CC3.step hwq (by simp)⟩
            case measure => simp [intOf]; omega
        · rw [hv] at HVL
          have HNO : Hid (keepA true acc (true, bs) = acc) := by show _ = _; unfold keepA; rw [if_neg]; simp [hv]
          generalize adrC (true, bs) = cx at *
          try simp only [Act.put]
          refine wp_region_quietA (w3) (by kernel_rfl) (by kernel_rfl) (Ch.refl _ _) ?_
          repeat (first
            | (go_big_quiet_want; refine quiet_rowA 29 _ rfl gx 0 rfl cx _ HRX.out Tryd.underlying29 rfl HIX.out ?_; simp only [Act.put, List.setIfInBounds_toArray, List.set_cons_succ, List.set_cons_zero]; go_big_quiet_on)
            | go_big_quiet_step (first
              | (go_at_call 58; with_reducible exact after_of (HVL.out _))
              | (go_at_call 59; with_reducible exact after_of (HCT.out _))))
          refine wpQuiet_nil ?_
          intro wq hwq
          go_wp2_with fail
          go_roundw
          case rel => exact ⟨k + 1, m, A', c', acc, by go_num, by omega, (by show _ = _; rw [HSN.out, HNO.out]), HM, hm, BP3.ch hwq (by simp), own3.ch hwq (by simp), ownO3.ch hwq (by simp), HNW, CC3.step hwq (by simp)⟩
          case measure => simp [intOf]; omega
    · obtain rfl : k = n := by omega
      have HV : Hid (keepL true l1 l = acc) := by show _ = _; rw [HA.out, List.take_of_length_le (by have := HN.out; omega)]
      have es : wr.cell? ⟨p, 7, none⟩ = some (.slice A' m c') := BP.cell 7
      go_wp2_with fail
      go_ret2
      refine ⟨A', c', ?_, ?_, CC, HNW.out⟩
      · rw [HV.out, HM.out]; rfl
      · rw [HV.out]
        refine ⟨?_, ?_, ?_, ?_⟩
        · have := HM.out; subst this; exact BP
        · exact ownO
        · have := HM.out; subst this; exact own
        · intro a ha b hb
          rcases HNW.out b hb with h | h
          · exact hap a ha b h
          · have := HFO.out a ha; omega
end Go.Proofs.YtjabeabbaambcaaDoor

/- Answer, where it records (printed by mk_qans.py): the reference. -/
namespace Go.Proofs.YtjabeabbaambcaaDoor
open Go.RowKit
set_option maxRecDepth 20000 in
set_option maxHeartbeats 8000000 in
theorem rpAnsF (p : Nat) (x : QP) (now : Int) (w : World) (A0 A1 : Option Addr) (c0 c1 : Nat) (hP : PG true w p x A0 c0 A1 c1) (hw : x.wf) (hcan : x.can = false) (han : x.an0 = false) (A : Option Addr) (n cap B : Nat) (l : AL) (h : Rd w B 17 A n (l.flatMap adrC)) (hB : B ≤ w.heap.size) (hA : ∀ g ∈ blkOf A, g ≠ p ∧ g ∉ blkOf A0 ∧ g ∉ blkOf A1) (hl : n ≤ 1000000000000) (hG : ∀ a ∈ l, GoodA a.2) :
    Calls Tryd.prog 17 #[.pointer (some ⟨p, 0, none⟩), .int .u64 now, .bool false, .slice A n cap] w fun e w' => ∃ A' c', e = .returned (.tuple #[.int .i64 (keepL false x.l0 l).length, .int .i64 0]) ∧ PG true w' p (x.put false now (keepL false x.l0 l)) A' c' A1 c1 ∧ Ch (p :: blkOf A0) w w' ∧ ∀ g ∈ blkOf A', g ∈ blkOf A0 ∨ w.heap.size ≤ g := by
  obtain ⟨d, can, an0, an1, at0, at1, l0, l1⟩ := x
  simp only at hcan han
  subst hcan han
  have hn0 := hw.n0
  have hg0 := hw.g0
  simp only at hn0 hg0
  have B0 : Blk w p 39 [.int .u64 d, .bool false, .bool false, .bool an1, .int .u64 at0, .int .u64 at1, .slice A0 l0.length c0, .slice A1 l1.length c1] := hP.blk
  have own0 := hP.own0
  have ownO := hP.own1
  have hap := hP.apart
  simp only at own0 ownO
  clear hP hw
  have hf : ∀ x ∈ l, (adrC x).length = 17 := fun x hx => adr_len (hG x hx).1
  obtain ⟨hn, h1⟩ := h.rangeE hf (by omega)
  have HN := hid hn
  have H1 := hid h1
  have HG := hid hG
  have HG0 := hid hg0
  clear h hn h1 hf hG hg0
  have e1 : w.cell? ⟨p, 1, none⟩ = some (.bool false) := B0.cell 1
  have ea : w.cell? ⟨p, 2, none⟩ = some (.bool false) := B0.cell 2
  have et : w.cell? ⟨p, 4, none⟩ = some (.int .u64 at0) := B0.cell 4
  have fa := B0.frozen 2
  have ft := B0.frozen 4
  have hp0 := B0.lt
  have HF : Hid (∀ g ∈ blkOf A0, p + 1 ≤ g ∧ g < w.heap.size) := own0.blks
  have HFO : Hid (∀ g ∈ blkOf A1, p + 1 ≤ g ∧ g < w.heap.size) := ownO.blks
  go_enter Tryd.func17, Tryd.ntmps17
  go_wp2_with (first | (go_at_call 60; (with_reducible refine (rpIdx _ _).mono ?_); rintro e w' ⟨rfl, rfl⟩; try simp only [Bool.false_eq_true, if_false]))
  go_loopw [11] (fun i wr => ∃ (k m : Nat) (A' : Option Addr) (c' : Nat) (acc : AL), i = .int .i64 k ∧ k ≤ n ∧ Hid (acc = keepL false l0 (l.take k)) ∧ Hid (acc.length = m) ∧ m ≤ 16 ∧ Blk wr p 39 [.int .u64 d, .bool false, .bool false, .bool an1, .int .u64 at0, .int .u64 at1, .slice A' m c', .slice A1 l1.length c1] ∧ Own wr (p + 1) 29 17 A' m c' (acc.flatMap adrC) ∧ Own wr (p + 1) 29 17 A1 l1.length c1 (l1.flatMap adrC) ∧ Hid (∀ g ∈ blkOf A', g ∈ blkOf A0 ∨ w.heap.size ≤ g) ∧ Ch (p :: blkOf A0) w wr) (fun i _ => n - (intOf i).toNat)
  case atStart => exact ⟨0, _, A0, c0, l0, rfl, by omega, rfl, rfl, by omega, B0, own0, ownO, fun g hg => .inl hg, Ch.refl _ _⟩
  case round =>
    clear B0 own0 ownO e1 ea et fa ft
    obtain ⟨k, m, A', c', acc, rfl, hk, HA, HM, hm, BP, own, ownO, HNW, CC⟩ := hrel
    have hpw := BP.lt
    by_cases hlt : k < n
    · skip
      have gs : wr.cell? ⟨p, 6, none⟩ = some (.slice A' m c') := BP.cell 6
      by_cases hm16 : m < 16
      · have hm16i : (m : Int) < 16 := by omega
        obtain ⟨b1, off1, rfl, hb1, hr1⟩ := H1.out (by omega)
        obtain ⟨x, hx⟩ : ∃ x, l[k]? = some x := ⟨_, List.getElem?_eq_getElem (by rw [HN.out]; exact hlt)⟩
        have hgx := HG.out x (List.mem_of_getElem? hx)
        have hAx := hA b1 (by simp [blkOf])
        have HR1 : Hid (wr.rangeAt b1 (off1 + k * 17) (adrC x)) := range_ch (hr1 k x hx) CC (by omega) (by simp only [List.mem_cons, not_or]; exact ⟨hAx.1, hAx.2.1⟩)
        have HIX := hid (adr_inf (a := x) hgx.1)
        have HLX := hid (adr_len (a := x) hgx.1)
        have HSN : Hid (keepL false l0 (l.take (k + 1)) = keepA false acc x) := by show _ = _; rw [keepL_snoc hx, HA.out]
        have HVL : Hid (∀ w, Calls Tryd.prog 30 #[.agg (adrC x).toArray] w fun e w' => e = .returned (.bool (validA x.1 x.2)) ∧ Ch [] w w') := refValid x.1 x.2 hgx.1
        have HGA : Hid (∀ a ∈ acc, a.2.length = 16) := fun a ha => by
          rw [HA.out] at ha
          rcases keepL_mem _ ha with h | h
          · exact (HG0.out a h).1
          · exact (HG.out a (List.mem_of_mem_take h)).1
        have hi0 : (0 : Int) ≤ k := by omega
        have hi1 : (k : Int) < n := by omega
        skip
        have HCT : Hid (∀ y : After wr, Calls Tryd.prog 61 #[.slice A' m c', .agg (adrC x).toArray] y.w fun e w' => e = .returned (.bool (decide (x ∈ acc))) ∧ Ch [] y.w w') := fun y => refContA x hgx.1 y.w A' m c' y.w.heap.size acc (own.ch y.ch (by simp)).rd (Nat.le_refl _) (by omega) HGA.out
        have cs : ∀ y : After wr, y.w.cell? ⟨p, 6, none⟩ = some (.slice A' m c') := fun y => (BP.ch y.ch (by simp)).cell 6
        have HRX : Hid (∀ w', Ch [] wr w' → w'.rangeAt b1 (off1 + k * 17) (adrC x)) := fun w' c => range_ch (hr1 k x hx) (CC.step c (by simp)) (by omega) (by simp only [List.mem_cons, not_or]; exact ⟨hAx.1, hAx.2.1⟩)
        clear hr1
        have c0 : ∀ y : After wr, y.w.cell? ⟨b1, off1 + k * 17, none⟩ = some (.bool x.1) := fun y => HRX.out _ y.ch 0 _ rfl
        obtain ⟨s6, bs⟩ := x
        simp only at HVL c0 hgx
        have HBS := hid hgx.1
        clear hx hgx HGA HG0
        cases s6
        · skip
          go_upto_region 9 with fail
          rcases Bool.eq_false_or_eq_true (validA false bs) with hv | hv
          · rw [hv] at HVL
            rcases Bool.eq_false_or_eq_true (decide ((false, bs) ∈ acc)) with hc | hc
            · skip
              rw [hc] at HCT
              have hcm : (false, bs) ∈ acc := of_decide_eq_true hc
              have HNO : Hid (keepA false acc (false, bs) = acc) := by show _ = _; unfold keepA; rw [if_neg]; simp [hcm]
              clear hc hcm
              generalize adrC (false, bs) = cx at *
              try simp only [Act.put, List.setIfInBounds_toArray, List.set_cons_succ, List.set_cons_zero]
              refine wp_region_quietA (wr) (by kernel_rfl) (by kernel_rfl) (Ch.refl _ _) ?_
              repeat (first
                | (go_big_quiet_want; refine quiet_rowA 29 _ rfl b1 (off1 + k * 17) rfl cx _ HRX.out Tryd.underlying29 rfl HIX.out ?_; simp only [Act.put, List.setIfInBounds_toArray, List.set_cons_succ, List.set_cons_zero]; go_big_quiet_on)
                | go_big_quiet_step (first
                  | (go_at_call 30; with_reducible exact after_of (HVL.out _))
                  | (go_at_call 61; with_reducible exact after_of (HCT.out _))))
              refine wpQuiet_nil ?_
              intro wq hwq
              go_wp2_with fail
              go_roundw
              case rel => exact ⟨k + 1, m, A', c', acc, by go_num, by omega, (by show _ = _; rw [HSN.out, HNO.out]), HM, hm, BP.ch hwq (by simp), own.ch hwq (by simp), ownO.ch hwq (by simp), HNW, CC.step hwq (by simp)⟩
              case measure => simp [intOf]; omega
            · skip
              rw [hc] at HCT
              have HNO : Hid (keepA false acc (false, bs) = acc ++ [(false, bs)]) := by show _ = _; unfold keepA; rw [if_pos ⟨rfl, hv, by rw [HM.out]; exact hm16, of_decide_eq_false hc⟩]
              clear hc
              try simp only [Act.put, List.setIfInBounds_toArray, List.set_cons_succ, List.set_cons_zero]
              refine wp_region_quietA (wr) (by kernel_rfl) (by kernel_rfl) (Ch.refl _ _) ?_
              repeat (first
                | (go_big_quiet_want; refine quiet_rowA 29 _ rfl b1 (off1 + k * 17) rfl (adrC (false, bs)) _ HRX.out Tryd.underlying29 rfl HIX.out ?_; simp only [Act.put, List.setIfInBounds_toArray, List.set_cons_succ, List.set_cons_zero]; go_big_quiet_on)
                | go_big_quiet_step (first
                  | (go_at_call 30; with_reducible exact after_of (HVL.out _))
                  | (go_at_call 61; with_reducible exact after_of (HCT.out _))))
              refine wpQuiet_nil ?_
              intro wq hwq
              obtain ⟨y0, y1, y2, y3, y4, y5, y6, y7, y8, y9, y10, y11, y12, y13, y14, y15, rfl⟩ := len16 HBS.out
              have BPq := BP.ch hwq (by simp)
              have ownq := own.ch hwq (by simp)
              have ownOq := ownO.ch hwq (by simp)
              have CCq := CC.step hwq (by simp)
              have HRQ : Hid (∀ q, (wq.drewN q).rangeAt b1 (off1 + k * 17) (adrC (false, [y0, y1, y2, y3, y4, y5, y6, y7, y8, y9, y10, y11, y12, y13, y14, y15]))) := fun q => HRX.out _ (hwq.drewN q)
              clear HCT cs c0 hwq
              have es : wq.cell? ⟨p, 6, none⟩ = some (.slice A' m c') := BPq.cell 6
              go_upto_region 10 with fail
              try simp only [Act.put, List.setIfInBounds_toArray, List.set_cons_succ, List.set_cons_zero]
              refine wp_region_stagesM [⟨0, 1, 295147905179352825856⟩, ⟨0, 1024, 590295810358705651712⟩, ⟨0, 1, 1180591620717411303424⟩, ⟨0, 1024, 2361183241434822606848⟩, ⟨4, 1180591620717411303424, 4722366482869645213696⟩, ⟨16, 4722366482869645213696, 9444732965739290427392⟩, ⟨40, 11805916207174113034240, 18889465931478580854784⟩, ⟨64, 18889465931478580854784, 37778931862957161709568⟩, ⟨0, 8, 75557863725914323419136⟩, ⟨0, 2048, 151115727451828646838272⟩, ⟨768, 226673591177742970257408, 302231454903657293676544⟩, ⟨1024, 302231454903657293676544, 604462909807314587353088⟩, ⟨2048, 604462909807314587353088, 1208925819614629174706176⟩, ⟨4224, 1246704751477586336415744, 2417851639229258349412352⟩, ⟨1, 295147905179352825856, 4835703278458516698824704⟩, ⟨16384, 4835703278458516698824704, 9671406556917033397649408⟩, ⟨49151, 9671996852727392103301120, 19342813113834066795298816⟩, ⟨81919, 21760664753063325144711168, 0⟩] [([0, 1, 2, 3, 4, 5, 6, 7, 8, 9, 10, 11, 14, 15], 12, [0, 1, 2, 3, 4, 5, 6, 7, 14, 15]), ([], 13, [0, 1, 14, 15]), ([16], 17, [])] [] (by kernel_rfl) (by kernel_rfl) ?_
              refine wpStages_step ?_
              simp only [pick, List.map_cons, List.map_nil, List.getD_cons_zero, List.getD_cons_succ]
              repeat (first
                | (refine wpQuiet_row rfl 29 _ rfl b1 (off1 + k * 17) rfl (adrC (false, [y0, y1, y2, y3, y4, y5, y6, y7, y8, y9, y10, y11, y12, y13, y14, y15])) _ (fun w' ⟨q, hq⟩ => hq ▸ HRQ.out q) Tryd.underlying29 rfl HIX.out ?_; simp only [Act.put, List.setIfInBounds_toArray, List.set_cons_succ, List.set_cons_zero])
                | go_big_quiet_step (fail))
              refine wpQuiet_nil ?_
              intro n0
              simp only [pick, List.map_cons, List.map_nil, List.getD_cons_zero, List.getD_cons_succ]
              go_wp2_with (refine wpList_buildRows rfl 22 29 1 _ rfl (adrC (false, [y0, y1, y2, y3, y4, y5, y6, y7, y8, y9, y10, y11, y12, y13, y14, y15])) _ 17 _ Tryd.underlying22 addr_infoZ (by decide) (by decide) (by kernel_rfl) ?_)
              have es1 : ((wq.drewN n0).alloc (.cells (adrC (false, [y0, y1, y2, y3, y4, y5, y6, y7, y8, y9, y10, y11, y12, y13, y14, y15])).toArray 29)).cell? ⟨p, 6, none⟩ = some (.slice A' m c') := ((BPq.drewN n0).alloc _).cell 6
              refine stagePost_mk ?_ ?_
              · intro o ho
                simp only [pick, List.map_cons, List.map_nil, List.getD_cons_zero, List.getD_cons_succ, List.mem_cons, List.not_mem_nil, or_false] at ho
                rcases ho with rfl | rfl | rfl | rfl | rfl | rfl | rfl | rfl | rfl | rfl
                all_goals
                  refine float_any ?_
                  repeat (go_big_quiet_step (fail))
                  refine wpQuiet_nil ?_
                  rfl
              refine wpStages_step ?_
              try simp only [pick, List.map_nil]
              refine wpQuiet_nil ?_
              intro n1
              simp only [pick, List.map_cons, List.map_nil, List.getD_cons_zero, List.getD_cons_succ]
              go_wp2_with (at_builtin; (refine wpList_app _ rfl (.tmp 75) (.tmp 80) _ rfl (p + 1) 29 _ 17 17 Tryd.underlying22 addr_infoZ rfl (by omega) _ _ _ _ rfl (((ownq.drewN n0).alloc _).drewN n1) _ _ _ _ (adrC (false, [y0, y1, y2, y3, y4, y5, y6, y7, y8, y9, y10, y11, y12, y13, y14, y15])) rfl ((Rd.new (wq.drewN n0) 17 (adrC (false, [y0, y1, y2, y3, y4, y5, y6, y7, y8, y9, y10, y11, y12, y13, y14, y15])) 1 rfl _).drewN n1) (List.all_eq_true.1 (adr_one _)) (by unfold maxLen; omega) (by omega) (by have := (((BPq.drewN n0).alloc (.cells (adrC (false, [y0, y1, y2, y3, y4, y5, y6, y7, y8, y9, y10, y11, y12, y13, y14, y15])).toArray 29)).drewN n1).lt; omega) ?_; intro A4 c4 w4 own4 ch4 at4))
              have hpA : p ∉ blkOf A' := fun hm => by have := ownq.blks p hm; omega
              have BP4 := (((BPq.drewN n0).alloc (.cells (adrC (false, [y0, y1, y2, y3, y4, y5, y6, y7, y8, y9, y10, y11, y12, y13, y14, y15])).toArray 29)).drewN n1).ch ch4 hpA
              have es4 : w4.cell? ⟨p, 6, none⟩ = some (.slice A' m c') := BP4.cell 6
              have fs4 := BP4.frozen 6
              refine stagePost_mk ?_ ?_
              · intro o ho
                simp only [pick, List.map_cons, List.map_nil, List.getD_cons_zero, List.getD_cons_succ, List.mem_cons, List.not_mem_nil, or_false] at ho
                rcases ho with rfl | rfl | rfl | rfl
                all_goals
                  refine float_any ?_
                  repeat (go_big_quiet_step (fail))
                  refine wpQuiet_nil ?_
                  rfl
              refine wpStages_step ?_
              simp only [pick, List.map_cons, List.map_nil, List.getD_cons_zero, List.getD_cons_succ]
              repeat (go_big_quiet_step (fail))
              refine wpQuiet_nil ?_
              intro n2
              simp only [pick, List.map_cons, List.map_nil, List.getD_cons_zero, List.getD_cons_succ]
              go_wp2_with fail
              refine stagePost_mk (by simp [pick]) ?_
              refine wpStages_last ?_
              try simp only [pick, List.map_nil]
              refine wpQuiet_nil ?_
              intro n3
              go_wp2_with fail
              go_roundw
              case rel =>
                have C4 : Ch (blkOf A') wq w4 := ((((Ch.refl (blkOf A') wq).drewN n0).alloc (.cells (adrC (false, [y0, y1, y2, y3, y4, y5, y6, y7, y8, y9, y10, y11, y12, y13, y14, y15])).toArray 29)).drewN n1).trans ch4
                have hszw := CCq.size
                have hsz4 := C4.size
                have CP : Ch [p] w4 (((w4.drewN n2).setCell ⟨p, 6, none⟩ (.slice A4 (m + 1) c4)).drewN n3) := (((Ch.refl [p] w4).drewN n2).setCell (.inl (by simp)) _).drewN n3
                have ownO4 := ownOq.ch C4 (fun g hg0 hg => by
                  rcases HNW.out g hg with h | h
                  · exact hap g h g hg0 rfl
                  · have := HFO.out g hg0; omega)
                refine ⟨k + 1, m + 1, A4, c4, acc ++ [(false, [y0, y1, y2, y3, y4, y5, y6, y7, y8, y9, y10, y11, y12, y13, y14, y15])], by go_num, by omega, (by show _ = _; rw [HSN.out, HNO.out]), (by show _ = _; rw [List.length_append, HM.out]; rfl), by omega, ((BP4.drewN n2).set 6 _).drewN n3, ?_, ownO4.ch CP (fun g hg => by have := ownO4.blks g hg; simp; omega), ?_, ?_⟩
                · rw [List.flatMap_append]
                  have := own4.ch CP (fun g hg => by (have := own4.blks g hg); simp; omega)
                  simpa using this
                · intro g hg
                  rcases at4 g hg with h | h
                  · exact HNW.out g h
                  · right
                    have h3 : (((wq.drewN n0).alloc (.cells (adrC (false, [y0, y1, y2, y3, y4, y5, y6, y7, y8, y9, y10, y11, y12, y13, y14, y15])).toArray 29)).drewN n1).heap.size = wq.heap.size + 1 := by
                      show ((wq.drewN n0).alloc _).heap.size = _
                      rw [World.size_alloc]; rfl
                    omega
                · refine (CCq.step C4 (fun g hg => ?_)).step CP (fun g hg => .inl (by simp at hg; simp [hg]))
                  rcases HNW.out g hg with h | h
                  · exact .inl (by simp [h])
                  · exact .inr h
              case measure => simp [intOf]; omega
          · rw [hv] at HVL
            have HNO : Hid (keepA false acc (false, bs) = acc) := by show _ = _; unfold keepA; rw [if_neg]; simp [hv]
            generalize adrC (false, bs) = cx at *
            try simp only [Act.put, List.setIfInBounds_toArray, List.set_cons_succ, List.set_cons_zero]
            refine wp_region_quietA (wr) (by kernel_rfl) (by kernel_rfl) (Ch.refl _ _) ?_
            repeat (first
              | (go_big_quiet_want; refine quiet_rowA 29 _ rfl b1 (off1 + k * 17) rfl cx _ HRX.out Tryd.underlying29 rfl HIX.out ?_; simp only [Act.put, List.setIfInBounds_toArray, List.set_cons_succ, List.set_cons_zero]; go_big_quiet_on)
              | go_big_quiet_step (first
                | (go_at_call 30; with_reducible exact after_of (HVL.out _))
                | (go_at_call 61; with_reducible exact after_of (HCT.out _))))
            refine wpQuiet_nil ?_
            intro wq hwq
            go_wp2_with fail
            go_roundw
            case rel => exact ⟨k + 1, m, A', c', acc, by go_num, by omega, (by show _ = _; rw [HSN.out, HNO.out]), HM, hm, BP.ch hwq (by simp), own.ch hwq (by simp), ownO.ch hwq (by simp), HNW, CC.step hwq (by simp)⟩
            case measure => simp [intOf]; omega
        · skip
          have HNO : Hid (keepA false acc (true, bs) = acc) := by show _ = _; unfold keepA; rw [if_neg]; simp
          go_upto_region 9 with fail
          generalize adrC (true, bs) = cx at *
          try simp only [Act.put, List.setIfInBounds_toArray, List.set_cons_succ, List.set_cons_zero]
          refine wp_region_quietA (wr) (by kernel_rfl) (by kernel_rfl) (Ch.refl _ _) ?_
          repeat (first
            | (go_big_quiet_want; refine quiet_rowA 29 _ rfl b1 (off1 + k * 17) rfl cx _ HRX.out Tryd.underlying29 rfl HIX.out ?_; simp only [Act.put, List.setIfInBounds_toArray, List.set_cons_succ, List.set_cons_zero]; go_big_quiet_on)
            | go_big_quiet_step (first
              | (go_at_call 30; with_reducible exact after_of (HVL.out _))
              | (go_at_call 61; with_reducible exact after_of (HCT.out _))))
          refine wpQuiet_nil ?_
          intro wq hwq
          go_wp2_with fail
          go_roundw
          case rel => exact ⟨k + 1, m, A', c', acc, by go_num, by omega, (by show _ = _; rw [HSN.out, HNO.out]), HM, hm, BP.ch hwq (by simp), own.ch hwq (by simp), ownO.ch hwq (by simp), HNW, CC.step hwq (by simp)⟩
          case measure => simp [intOf]; omega
      · skip
        have HV : Hid (keepL false l0 l = acc) := by show _ = _; rw [keepL_stop l k (by rw [← HA.out, HM.out]; omega), HA.out]
        have hm16i : ¬ (m : Int) < 16 := by omega
        have hi0 : (0 : Int) ≤ k := by omega
        have hi1 : (k : Int) < n := by omega
        have es : wr.cell? ⟨p, 6, none⟩ = some (.slice A' m c') := BP.cell 6
        have ga : wr.cell? ⟨p, 2, none⟩ = some (.bool false) := BP.cell 2
        have gt : wr.cell? ⟨p, 4, none⟩ = some (.int .u64 at0) := BP.cell 4
        have ka := BP.frozen 2
        have kt := BP.frozen 4
        go_upto_region 11 with fail
        refine wp_region_stagesM [⟨0, 1, 38685626227668133590597632⟩, ⟨0, 1024, 77371252455336267181195264⟩, ⟨0, 1, 154742504910672534362390528⟩, ⟨0, 1024, 309485009821345068724781056⟩, ⟨0, 2, 618970019642690137449562112⟩, ⟨1, 38685626227668133590597632, 1237940039285380274899124224⟩, ⟨32, 1237940039285380274899124224, 2475880078570760549798248448⟩, ⟨67, 2553251331026096816979443712, 4951760157141521099596496896⟩, ⟨131, 4951760157141521099596496896, 0⟩, ⟨4, 154742504910672534362390528, 9903520314283042199192993792⟩, ⟨512, 9903520314283042199192993792, 19807040628566084398385987584⟩, ⟨1535, 20116525638387429467110768640, 39614081257132168796771975168⟩, ⟨2559, 40233051276774858934221537280, 0⟩] [([0, 1, 2, 3, 4, 5, 6, 7, 9, 10], 8, [2, 3, 4, 9, 10]), ([11], 12, [])] [] (by kernel_rfl) (by kernel_rfl) ?_
        refine wpStages_step ?_
        simp only [pick, List.map_cons, List.map_nil, List.getD_cons_zero, List.getD_cons_succ]
        repeat (go_big_quiet_step (fail))
        refine wpQuiet_nil ?_
        intro n0
        simp only [pick, List.map_cons, List.map_nil, List.getD_cons_zero, List.getD_cons_succ]
        go_wp2_with fail
        refine stagePost_mk ?_ ?_
        · intro o ho
          simp only [pick, List.map_cons, List.map_nil, List.getD_cons_zero, List.getD_cons_succ, List.mem_cons, List.not_mem_nil, or_false] at ho
          rcases ho with rfl | rfl | rfl | rfl | rfl | rfl
          all_goals
            refine float_any ?_
            repeat (go_big_quiet_step (fail))
            refine wpQuiet_nil ?_
            rfl
        refine wpStages_step ?_
        simp only [pick, List.map_cons, List.map_nil, List.getD_cons_zero, List.getD_cons_succ]
        repeat (go_big_quiet_step (fail))
        refine wpQuiet_nil ?_
        intro n1
        simp only [pick, List.map_cons, List.map_nil, List.getD_cons_zero, List.getD_cons_succ]
        go_wp2_with fail
        refine stagePost_mk (by simp [pick]) ?_
        refine wpStages_last ?_
        try simp only [pick, List.map_nil]
        refine wpQuiet_nil ?_
        intro n2
        have BZ := ((((BP.drewN n0).set 2 (.bool true)).drewN n1).set 4 (.int .u64 now)).drewN n2
        have CZ : Ch [p] wr _ := (((((Ch.refl [p] wr).drewN n0).setCell (p := ⟨p, 2, none⟩) (.inl (by simp)) (.bool true)).drewN n1).setCell (p := ⟨p, 4, none⟩) (.inl (by simp)) (.int .u64 now)).drewN n2
        have ownZ := own.ch CZ (fun g hg => by have := own.blks g hg; simp; omega)
        have ownOZ := ownO.ch CZ (fun g hg => by have := ownO.blks g hg; simp; omega)
        have CCZ := CC.step CZ (fun g hg => .inl (by simp at hg; simp [hg]))
        have ez := BZ.cell 6
        go_wp2_with fail
        go_ret2
        refine ⟨A', c', ?_, ?_, CCZ, HNW.out⟩
        · rw [HV.out, HM.out]; rfl
        · rw [HV.out]
          refine ⟨?_, ?_, ?_, ?_⟩
          · have := HM.out; subst this; exact BZ
          · have := HM.out; subst this; exact ownZ
          · exact ownOZ
          · intro a ha b hb
            rcases HNW.out a ha with h | h
            · exact hap a h b hb
            · have := HFO.out b hb; omega
    · obtain rfl : k = n := by omega
      have HV : Hid (keepL false l0 l = acc) := by show _ = _; rw [HA.out, List.take_of_length_le (by have := HN.out; omega)]
      have es : wr.cell? ⟨p, 6, none⟩ = some (.slice A' m c') := BP.cell 6
      have ga : wr.cell? ⟨p, 2, none⟩ = some (.bool false) := BP.cell 2
      have gt : wr.cell? ⟨p, 4, none⟩ = some (.int .u64 at0) := BP.cell 4
      have ka := BP.frozen 2
      have kt := BP.frozen 4
      go_upto_region 11 with fail
      refine wp_region_stagesM [⟨0, 1, 38685626227668133590597632⟩, ⟨0, 1024, 77371252455336267181195264⟩, ⟨0, 1, 154742504910672534362390528⟩, ⟨0, 1024, 309485009821345068724781056⟩, ⟨0, 2, 618970019642690137449562112⟩, ⟨1, 38685626227668133590597632, 1237940039285380274899124224⟩, ⟨32, 1237940039285380274899124224, 2475880078570760549798248448⟩, ⟨67, 2553251331026096816979443712, 4951760157141521099596496896⟩, ⟨131, 4951760157141521099596496896, 0⟩, ⟨4, 154742504910672534362390528, 9903520314283042199192993792⟩, ⟨512, 9903520314283042199192993792, 19807040628566084398385987584⟩, ⟨1535, 20116525638387429467110768640, 39614081257132168796771975168⟩, ⟨2559, 40233051276774858934221537280, 0⟩] [([0, 1, 2, 3, 4, 5, 6, 7, 9, 10], 8, [2, 3, 4, 9, 10]), ([11], 12, [])] [] (by kernel_rfl) (by kernel_rfl) ?_
      refine wpStages_step ?_
      simp only [pick, List.map_cons, List.map_nil, List.getD_cons_zero, List.getD_cons_succ]
      repeat (go_big_quiet_step (fail))
      refine wpQuiet_nil ?_
      intro n0
      simp only [pick, List.map_cons, List.map_nil, List.getD_cons_zero, List.getD_cons_succ]
      go_wp2_with fail
      refine stagePost_mk ?_ ?_
      · intro o ho
        simp only [pick, List.map_cons, List.map_nil, List.getD_cons_zero, List.getD_cons_succ, List.mem_cons, List.not_mem_nil, or_false] at ho
        rcases ho with rfl | rfl | rfl | rfl | rfl | rfl
        all_goals
          refine float_any ?_
          repeat (go_big_quiet_step (fail))
          refine wpQuiet_nil ?_
          rfl
      refine wpStages_step ?_
      simp only [pick, List.map_cons, List.map_nil, List.getD_cons_zero, List.getD_cons_succ]
      repeat (go_big_quiet_step (fail))
      refine wpQuiet_nil ?_
      intro n1
      simp only [pick, List.map_cons, List.map_nil, List.getD_cons_zero, List.getD_cons_succ]
      go_wp2_with fail
      refine stagePost_mk (by simp [pick]) ?_
      refine wpStages_last ?_
      try simp only [pick, List.map_nil]
      refine wpQuiet_nil ?_
      intro n2
      have BZ := ((((BP.drewN n0).set 2 (.bool true)).drewN n1).set 4 (.int .u64 now)).drewN n2
      have CZ : Ch [p] wr _ := (((((Ch.refl [p] wr).drewN n0).setCell (p := ⟨p, 2, none⟩) (.inl (by simp)) (.bool true)).drewN n1).setCell (p := ⟨p, 4, none⟩) (.inl (by simp)) (.int .u64 now)).drewN n2
      have ownZ := own.ch CZ (fun g hg => by have := own.blks g hg; simp; omega)
      have ownOZ := ownO.ch CZ (fun g hg => by have := ownO.blks g hg; simp; omega)
      have CCZ := CC.step CZ (fun g hg => .inl (by simp at hg; simp [hg]))
      have ez := BZ.cell 6
      go_wp2_with fail
      go_ret2
      refine ⟨A', c', ?_, ?_, CCZ, HNW.out⟩
      · rw [HV.out, HM.out]; rfl
      · rw [HV.out]
        refine ⟨?_, ?_, ?_, ?_⟩
        · have := HM.out; subst this; exact BZ
        · have := HM.out; subst this; exact ownZ
        · exact ownOZ
        · intro a ha b hb
          rcases HNW.out a ha with h | h
          · exact hap a h b hb
          · have := HFO.out b hb; omega
set_option maxRecDepth 20000 in
set_option maxHeartbeats 8000000 in
theorem rpAnsT (p : Nat) (x : QP) (now : Int) (w : World) (A0 A1 : Option Addr) (c0 c1 : Nat) (hP : PG true w p x A0 c0 A1 c1) (hw : x.wf) (hcan : x.can = false) (han : x.an1 = false) (A : Option Addr) (n cap B : Nat) (l : AL) (h : Rd w B 17 A n (l.flatMap adrC)) (hB : B ≤ w.heap.size) (hA : ∀ g ∈ blkOf A, g ≠ p ∧ g ∉ blkOf A0 ∧ g ∉ blkOf A1) (hl : n ≤ 1000000000000) (hG : ∀ a ∈ l, GoodA a.2) :
    Calls Tryd.prog 17 #[.pointer (some ⟨p, 0, none⟩), .int .u64 now, .bool true, .slice A n cap] w fun e w' => ∃ A' c', e = .returned (.tuple #[.int .i64 (keepL true x.l1 l).length, .int .i64 0]) ∧ PG true w' p (x.put true now (keepL true x.l1 l)) A0 c0 A' c' ∧ Ch (p :: blkOf A1) w w' ∧ ∀ g ∈ blkOf A', g ∈ blkOf A1 ∨ w.heap.size ≤ g := by
  obtain ⟨d, can, an0, an1, at0, at1, l0, l1⟩ := x
  simp only at hcan han
  subst hcan han
  have hn1 := hw.n1
  have hg1 := hw.g1
  simp only at hn1 hg1
  have B0 : Blk w p 39 [.int .u64 d, .bool false, .bool an0, .bool false, .int .u64 at0, .int .u64 at1, .slice A0 l0.length c0, .slice A1 l1.length c1] := hP.blk
  have own0 := hP.own1
  have ownO := hP.own0
  have hap := hP.apart
  simp only at own0 ownO
  clear hP hw
  have hf : ∀ x ∈ l, (adrC x).length = 17 := fun x hx => adr_len (hG x hx).1
  obtain ⟨hn, h1⟩ := h.rangeE hf (by omega)
  have HN := hid hn
  have H1 := hid h1
  have HG := hid hG
  have HG0 := hid hg1
  clear h hn h1 hf hG hg1
  have e1 : w.cell? ⟨p, 1, none⟩ = some (.bool false) := B0.cell 1
  have ea : w.cell? ⟨p, 3, none⟩ = some (.bool false) := B0.cell 3
  have et : w.cell? ⟨p, 5, none⟩ = some (.int .u64 at1) := B0.cell 5
  have fa := B0.frozen 3
  have ft := B0.frozen 5
  have hp0 := B0.lt
  have HF : Hid (∀ g ∈ blkOf A1, p + 1 ≤ g ∧ g < w.heap.size) := own0.blks
  have HFO : Hid (∀ g ∈ blkOf A0, p + 1 ≤ g ∧ g < w.heap.size) := ownO.blks
  go_enter Tryd.func17, Tryd.ntmps17
  go_wp2_with (first | (go_at_call 60; (with_reducible refine (rpIdx _ _).mono ?_); rintro e w' ⟨rfl, rfl⟩; try simp only [if_true]))
  go_loopw [11] (fun i wr => ∃ (k m : Nat) (A' : Option Addr) (c' : Nat) (acc : AL), i = .int .i64 k ∧ k ≤ n ∧ Hid (acc = keepL true l1 (l.take k)) ∧ Hid (acc.length = m) ∧ m ≤ 16 ∧ Blk wr p 39 [.int .u64 d, .bool false, .bool an0, .bool false, .int .u64 at0, .int .u64 at1, .slice A0 l0.length c0, .slice A' m c'] ∧ Own wr (p + 1) 29 17 A' m c' (acc.flatMap adrC) ∧ Own wr (p + 1) 29 17 A0 l0.length c0 (l0.flatMap adrC) ∧ Hid (∀ g ∈ blkOf A', g ∈ blkOf A1 ∨ w.heap.size ≤ g) ∧ Ch (p :: blkOf A1) w wr) (fun i _ => n - (intOf i).toNat)
  case atStart => exact ⟨0, _, A1, c1, l1, rfl, by omega, rfl, rfl, by omega, B0, own0, ownO, fun g hg => .inl hg, Ch.refl _ _⟩
  case round =>
    clear B0 own0 ownO e1 ea et fa ft
    obtain ⟨k, m, A', c', acc, rfl, hk, HA, HM, hm, BP, own, ownO, HNW, CC⟩ := hrel
    have hpw := BP.lt
    by_cases hlt : k < n
    · skip
      have gs : wr.cell? ⟨p, 7, none⟩ = some (.slice A' m c') := BP.cell 7
      by_cases hm16 : m < 16
      · have hm16i : (m : Int) < 16 := by omega
        obtain ⟨b1, off1, rfl, hb1, hr1⟩ := H1.out (by omega)
        obtain ⟨x, hx⟩ : ∃ x, l[k]? = some x := ⟨_, List.getElem?_eq_getElem (by rw [HN.out]; exact hlt)⟩
        have hgx := HG.out x (List.mem_of_getElem? hx)
        have hAx := hA b1 (by simp [blkOf])
        have HR1 : Hid (wr.rangeAt b1 (off1 + k * 17) (adrC x)) := range_ch (hr1 k x hx) CC (by omega) (by simp only [List.mem_cons, not_or]; exact ⟨hAx.1, hAx.2.2⟩)
        have HIX := hid (adr_inf (a := x) hgx.1)
        have HLX := hid (adr_len (a := x) hgx.1)
        have HSN : Hid (keepL true l1 (l.take (k + 1)) = keepA true acc x) := by show _ = _; rw [keepL_snoc hx, HA.out]
        have HVL : Hid (∀ w, Calls Tryd.prog 30 #[.agg (adrC x).toArray] w fun e w' => e = .returned (.bool (validA x.1 x.2)) ∧ Ch [] w w') := refValid x.1 x.2 hgx.1
        have HGA : Hid (∀ a ∈ acc, a.2.length = 16) := fun a ha => by
          rw [HA.out] at ha
          rcases keepL_mem _ ha with h | h
          · exact (HG0.out a h).1
          · exact (HG.out a (List.mem_of_mem_take h)).1
        have hi0 : (0 : Int) ≤ k := by omega
        have hi1 : (k : Int) < n := by omega
        skip
        have HCT : Hid (∀ y : After wr, Calls Tryd.prog 61 #[.slice A' m c', .agg (adrC x).toArray] y.w fun e w' => e = .returned (.bool (decide (x ∈ acc))) ∧ Ch [] y.w w') := fun y => refContA x hgx.1 y.w A' m c' y.w.heap.size acc (own.ch y.ch (by simp)).rd (Nat.le_refl _) (by omega) HGA.out
        have cs : ∀ y : After wr, y.w.cell? ⟨p, 7, none⟩ = some (.slice A' m c') := fun y => (BP.ch y.ch (by simp)).cell 7
        have HRX : Hid (∀ w', Ch [] wr w' → w'.rangeAt b1 (off1 + k * 17) (adrC x)) := fun w' c => range_ch (hr1 k x hx) (CC.step c (by simp)) (by omega) (by simp only [List.mem_cons, not_or]; exact ⟨hAx.1, hAx.2.2⟩)
        clear hr1
        have c0 : ∀ y : After wr, y.w.cell? ⟨b1, off1 + k * 17, none⟩ = some (.bool x.1) := fun y => HRX.out _ y.ch 0 _ rfl
        obtain ⟨s6, bs⟩ := x
        simp only at HVL c0 hgx
        have HBS := hid hgx.1
        clear hx hgx HGA HG0
        cases s6
        · skip
          have HNO : Hid (keepA true acc (false, bs) = acc) := by show _ = _; unfold keepA; rw [if_neg]; simp
          go_upto_region 9 with fail
          generalize adrC (false, bs) = cx at *
          try simp only [Act.put, List.setIfInBounds_toArray, List.set_cons_succ, List.set_cons_zero]
          refine wp_region_quietA (wr) (by kernel_rfl) (by kernel_rfl) (Ch.refl _ _) ?_
          repeat (first
            | (go_big_quiet_want; refine quiet_rowA 29 _ rfl b1 (off1 + k * 17) rfl cx _ HRX.out Tryd.underlying29 rfl HIX.out ?_; simp only [Act.put, List.setIfInBounds_toArray, List.set_cons_succ, List.set_cons_zero]; go_big_quiet_on)
            | go_big_quiet_step (first
              | (go_at_call 30; with_reducible exact after_of (HVL.out _))
              | (go_at_call 61; with_reducible exact after_of (HCT.out _))))
          refine wpQuiet_nil ?_
          intro wq hwq
          go_wp2_with fail
          go_roundw
          case rel => exact ⟨k + 1, m, A', c', acc, by go_num, by omega, (by show _ = _; rw [HSN.out, HNO.out]), HM, hm, BP.ch hwq (by simp), own.ch hwq (by simp), ownO.ch hwq (by simp), HNW, CC.step hwq (by simp)⟩
          case measure => simp [intOf]; omega
        · skip
          go_upto_region 9 with fail
          rcases Bool.eq_false_or_eq_true (validA true bs) with hv | hv
          · rw [hv] at HVL
            rcases Bool.eq_false_or_eq_true (decide ((true, bs) ∈ acc)) with hc | hc
            · skip
              rw [hc] at HCT
              have hcm : (true, bs) ∈ acc := of_decide_eq_true hc
              have HNO : Hid (keepA true acc (true, bs) = acc) := by show _ = _; unfold keepA; rw [if_neg]; simp [hcm]
              clear hc hcm
              generalize adrC (true, bs) = cx at *
              try simp only [Act.put, List.setIfInBounds_toArray, List.set_cons_succ, List.set_cons_zero]
              refine wp_region_quietA (wr) (by kernel_rfl) (by kernel_rfl) (Ch.refl _ _) ?_
              repeat (first
                | (go_big_quiet_want; refine quiet_rowA 29 _ rfl b1 (off1 + k * 17) rfl cx _ HRX.out Tryd.underlying29 rfl HIX.out ?_; simp only [Act.put, List.setIfInBounds_toArray, List.set_cons_succ, List.set_cons_zero]; go_big_quiet_on)
                | go_big_quiet_step (first
                  | (go_at_call 30; with_reducible exact after_of (HVL.out _))
                  | (go_at_call 61; with_reducible exact after_of (HCT.out _))))
              refine wpQuiet_nil ?_
              intro wq hwq
              go_wp2_with fail
              go_roundw
              case rel => exact ⟨k + 1, m, A', c', acc, by go_num, by omega, (by show _ = _; rw [HSN.out, HNO.out]), HM, hm, BP.ch hwq (by simp), own.ch hwq (by simp), ownO.ch hwq (by simp), HNW, CC.step hwq (by simp)⟩
              case measure => simp [intOf]; omega
            · skip
              rw [hc] at HCT
              have HNO : Hid (keepA true acc (true, bs) = acc ++ [(true, bs)]) := by show _ = _; unfold keepA; rw [if_pos ⟨rfl, hv, by rw [HM.out]; exact hm16, of_decide_eq_false hc⟩]
              clear hc
              try simp only [Act.put, List.setIfInBounds_toArray, List.set_cons_succ, List.set_cons_zero]
              refine wp_region_quietA (wr) (by kernel_rfl) (by kernel_rfl) (Ch.refl _ _) ?_
              repeat (first
                | (go_big_quiet_want; refine quiet_rowA 29 _ rfl b1 (off1 + k * 17) rfl (adrC (true, bs)) _ HRX.out Tryd.underlying29 rfl HIX.out ?_; simp only [Act.put, List.setIfInBounds_toArray, List.set_cons_succ, List.set_cons_zero]; go_big_quiet_on)
                | go_big_quiet_step (first
                  | (go_at_call 30; with_reducible exact after_of (HVL.out _))
                  | (go_at_call 61; with_reducible exact after_of (HCT.out _))))
              refine wpQuiet_nil ?_
              intro wq hwq
              obtain ⟨y0, y1, y2, y3, y4, y5, y6, y7, y8, y9, y10, y11, y12, y13, y14, y15, rfl⟩ := len16 HBS.out
              have BPq := BP.ch hwq (by simp)
              have ownq := own.ch hwq (by simp)
              have ownOq := ownO.ch hwq (by simp)
              have CCq := CC.step hwq (by simp)
              have HRQ : Hid (∀ q, (wq.drewN q).rangeAt b1 (off1 + k * 17) (adrC (true, [y0, y1, y2, y3, y4, y5, y6, y7, y8, y9, y10, y11, y12, y13, y14, y15]))) := fun q => HRX.out _ (hwq.drewN q)
              clear HCT cs c0 hwq
              have es : wq.cell? ⟨p, 7, none⟩ = some (.slice A' m c') := BPq.cell 7
              go_upto_region 10 with fail
              try simp only [Act.put, List.setIfInBounds_toArray, List.set_cons_succ, List.set_cons_zero]
              refine wp_region_stagesM [⟨0, 1, 295147905179352825856⟩, ⟨0, 1024, 590295810358705651712⟩, ⟨0, 1, 1180591620717411303424⟩, ⟨0, 1024, 2361183241434822606848⟩, ⟨4, 1180591620717411303424, 4722366482869645213696⟩, ⟨16, 4722366482869645213696, 9444732965739290427392⟩, ⟨40, 11805916207174113034240, 18889465931478580854784⟩, ⟨64, 18889465931478580854784, 37778931862957161709568⟩, ⟨0, 8, 75557863725914323419136⟩, ⟨0, 2048, 151115727451828646838272⟩, ⟨768, 226673591177742970257408, 302231454903657293676544⟩, ⟨1024, 302231454903657293676544, 604462909807314587353088⟩, ⟨2048, 604462909807314587353088, 1208925819614629174706176⟩, ⟨4224, 1246704751477586336415744, 2417851639229258349412352⟩, ⟨1, 295147905179352825856, 4835703278458516698824704⟩, ⟨16384, 4835703278458516698824704, 9671406556917033397649408⟩, ⟨49151, 9671996852727392103301120, 19342813113834066795298816⟩, ⟨81919, 21760664753063325144711168, 0⟩] [([0, 1, 2, 3, 4, 5, 6, 7, 8, 9, 10, 11, 14, 15], 12, [0, 1, 2, 3, 4, 5, 6, 7, 14, 15]), ([], 13, [0, 1, 14, 15]), ([16], 17, [])] [] (by kernel_rfl) (by kernel_rfl) ?_
              refine wpStages_step ?_
              simp only [pick, List.map_cons, List.map_nil, List.getD_cons_zero, List.getD_cons_succ]
              repeat (first
                | (refine wpQuiet_row rfl 29 _ rfl b1 (off1 + k * 17) rfl (adrC (true, [y0, y1, y2, y3, y4, y5, y6, y7, y8, y9, y10, y11, y12, y13, y14, y15])) _ (fun w' ⟨q, hq⟩ => hq ▸ HRQ.out q) Tryd.underlying29 rfl HIX.out ?_; simp only [Act.put, List.setIfInBounds_toArray, List.set_cons_succ, List.set_cons_zero])
                | go_big_quiet_step (fail))
              refine wpQuiet_nil ?_
              intro n0
              simp only [pick, List.map_cons, List.map_nil, List.getD_cons_zero, List.getD_cons_succ]
              go_wp2_with (refine wpList_buildRows rfl 22 29 1 _ rfl (adrC (true, [y0, y1, y2, y3, y4, y5, y6, y7, y8, y9, y10, y11, y12, y13, y14, y15])) _ 17 _ Tryd.underlying22 addr_infoZ (by decide) (by decide) (by kernel_rfl) ?_)
              have es1 : ((wq.drewN n0).alloc (.cells (adrC (true, [y0, y1, y2, y3, y4, y5, y6, y7, y8, y9, y10, y11, y12, y13, y14, y15])).toArray 29)).cell? ⟨p, 7, none⟩ = some (.slice A' m c') := ((BPq.drewN n0).alloc _).cell 7
              refine stagePost_mk ?_ ?_
              · intro o ho
                simp only [pick, List.map_cons, List.map_nil, List.getD_cons_zero, List.getD_cons_succ, List.mem_cons, List.not_mem_nil, or_false] at ho
                rcases ho with rfl | rfl | rfl | rfl | rfl | rfl | rfl | rfl | rfl | rfl
                all_goals
                  refine float_any ?_
                  repeat (go_big_quiet_step (fail))
                  refine wpQuiet_nil ?_
                  rfl
              refine wpStages_step ?_
              try simp only [pick, List.map_nil]
              refine wpQuiet_nil ?_
              intro n1
              simp only [pick, List.map_cons, List.map_nil, List.getD_cons_zero, List.getD_cons_succ]
              go_wp2_with (at_builtin; (refine wpList_app _ rfl (.tmp 75) (.tmp 80) _ rfl (p + 1) 29 _ 17 17 Tryd.underlying22 addr_infoZ rfl (by omega) _ _ _ _ rfl (((ownq.drewN n0).alloc _).drewN n1) _ _ _ _ (adrC (true, [y0, y1, y2, y3, y4, y5, y6, y7, y8, y9, y10, y11, y12, y13, y14, y15])) rfl ((Rd.new (wq.drewN n0) 17 (adrC (true, [y0, y1, y2, y3, y4, y5, y6, y7, y8, y9, y10, y11, y12, y13, y14, y15])) 1 rfl _).drewN n1) (List.all_eq_true.1 (adr_one _)) (by unfold maxLen; omega) (by omega) (by have := (((BPq.drewN n0).alloc (.cells (adrC (true, [y0, y1, y2, y3, y4, y5, y6, y7, y8, y9, y10, y11, y12, y13, y14, y15])).toArray 29)).drewN n1).lt; omega) ?_; intro A4 c4 w4 own4 ch4 at4))
              have hpA : p ∉ blkOf A' := fun hm => by have := ownq.blks p hm; omega
              have BP4 := (((BPq.drewN n0).alloc (.cells (adrC (true, [y0, y1, y2, y3, y4, y5, y6, y7, y8, y9, y10, y11, y12, y13, y14, y15])).toArray 29)).drewN n1).ch ch4 hpA
              have es4 : w4.cell? ⟨p, 7, none⟩ = some (.slice A' m c') := BP4.cell 7
              have fs4 := BP4.frozen 7
              refine stagePost_mk ?_ ?_
              · intro o ho
                simp only [pick, List.map_cons, List.map_nil, List.getD_cons_zero, List.getD_cons_succ, List.mem_cons, List.not_mem_nil, or_false] at ho
                rcases ho with rfl | rfl | rfl | rfl
                all_goals
                  refine float_any ?_
                  repeat (go_big_quiet_step (fail))
                  refine wpQuiet_nil ?_
                  rfl
              refine wpStages_step ?_
              simp only [pick, List.map_cons, List.map_nil, List.getD_cons_zero, List.getD_cons_succ]
              repeat (go_big_quiet_step (fail))
              refine wpQuiet_nil ?_
              intro n2
              simp only [pick, List.map_cons, List.map_nil, List.getD_cons_zero, List.getD_cons_succ]
              go_wp2_with fail
              refine stagePost_mk (by simp [pick]) ?_
              refine wpStages_last ?_
              try simp only [pick, List.map_nil]
              refine wpQuiet_nil ?_
              intro n3
              go_wp2_with fail
              go_roundw
              case rel =>
                have C4 : Ch (blkOf A') wq w4 := ((((Ch.refl (blkOf A') wq).drewN n0).alloc (.cells (adrC (true, [y0, y1, y2, y3, y4, y5, y6, y7, y8, y9, y10, y11, y12, y13, y14, y15])).toArray 29)).drewN n1).trans ch4
                have hszw := CCq.size
                have hsz4 := C4.size
                have CP : Ch [p] w4 (((w4.drewN n2).setCell ⟨p, 7, none⟩ (.slice A4 (m + 1) c4)).drewN n3) := (((Ch.refl [p] w4).drewN n2).setCell (.inl (by simp)) _).drewN n3
                have ownO4 := ownOq.ch C4 (fun g hg0 hg => by
                  rcases HNW.out g hg with h | h
                  · exact hap g hg0 g h rfl
                  · have := HFO.out g hg0; omega)
                refine ⟨k + 1, m + 1, A4, c4, acc ++ [(true, [y0, y1, y2, y3, y4, y5, y6, y7, y8, y9, y10, y11, y12, y13, y14, y15])], by go_num, by omega, (by show _ = _; rw [HSN.out, HNO.out]), (by show _ = _; rw [List.length_append, HM.out]; rfl), by omega, ((BP4.drewN n2).set 7 _).drewN n3, ?_, ownO4.ch CP (fun g hg => by have := ownO4.blks g hg; simp; omega), ?_, ?_⟩
                · rw [List.flatMap_append]
                  have := own4.ch CP (fun g hg => by (have := own4.blks g hg); simp; omega)
                  simpa using this
                · intro g hg
                  rcases at4 g hg with h | h
                  · exact HNW.out g h
                  · right
                    have h3 : (((wq.drewN n0).alloc (.cells (adrC (true, [y0, y1, y2, y3, y4, y5, y6, y7, y8, y9, y10, y11, y12, y13, y14, y15])).toArray 29)).drewN n1).heap.size = wq.heap.size + 1 := by
                      show ((wq.drewN n0).alloc _).heap.size = _
                      rw [World.size_alloc]; rfl
                    omega
                · refine (CCq.step C4 (fun g hg => ?_)).step CP (fun g hg => .inl (by simp at hg; simp [hg]))
                  rcases HNW.out g hg with h | h
                  · exact .inl (by simp [h])
                  · exact .inr h
              case measure => simp [intOf]; omega
          · rw [hv] at HVL
            have HNO : Hid (keepA true acc (true, bs) = acc) := by show _ = _; unfold keepA; rw [if_neg]; simp [hv]
            generalize adrC (true, bs) = cx at *
            try simp only [Act.put, List.setIfInBounds_toArray, List.set_cons_succ, List.set_cons_zero]
            refine wp_region_quietA (wr) (by kernel_rfl) (by kernel_rfl) (Ch.refl _ _) ?_
            repeat (first
              | (go_big_quiet_want; refine quiet_rowA 29 _ rfl b1 (off1 + k * 17) rfl cx _ HRX.out Tryd.underlying29 rfl HIX.out ?_; simp only [Act.put, List.setIfInBounds_toArray, List.set_cons_succ, List.set_cons_zero]; go_big_quiet_on)
              | go_big_quiet_step (first
                | (go_at_call 30; with_reducible exact after_of (HVL.out _))
                | (go_at_call 61; with_reducible exact after_of (HCT.out _))))
            refine wpQuiet_nil ?_
            intro wq hwq
            go_wp2_with fail
            go_roundw
            case rel => exact ⟨k + 1, m, A', c', acc, by go_num, by omega, (by show _ = _; rw [HSN.out, HNO.out]), HM, hm, BP.ch hwq (by simp), own.ch hwq (by simp), ownO.ch hwq (by simp), HNW, CC.step hwq (by simp)⟩
            case measure => simp [intOf]; omega
      · skip
        have HV : Hid (keepL true l1 l = acc) := by show _ = _; rw [keepL_stop l k (by rw [← HA.out, HM.out]; omega), HA.out]
        have hm16i : ¬ (m : Int) < 16 := by omega
        have hi0 : (0 : Int) ≤ k := by omega
        have hi1 : (k : Int) < n := by omega
        have es : wr.cell? ⟨p, 7, none⟩ = some (.slice A' m c') := BP.cell 7
        have ga : wr.cell? ⟨p, 3, none⟩ = some (.bool false) := BP.cell 3
        have gt : wr.cell? ⟨p, 5, none⟩ = some (.int .u64 at1) := BP.cell 5
        have ka := BP.frozen 3
        have kt := BP.frozen 5
        go_upto_region 11 with fail
        refine wp_region_stagesM [⟨0, 1, 38685626227668133590597632⟩, ⟨0, 1024, 77371252455336267181195264⟩, ⟨0, 1, 154742504910672534362390528⟩, ⟨0, 1024, 309485009821345068724781056⟩, ⟨0, 2, 618970019642690137449562112⟩, ⟨1, 38685626227668133590597632, 1237940039285380274899124224⟩, ⟨32, 1237940039285380274899124224, 2475880078570760549798248448⟩, ⟨67, 2553251331026096816979443712, 4951760157141521099596496896⟩, ⟨131, 4951760157141521099596496896, 0⟩, ⟨4, 154742504910672534362390528, 9903520314283042199192993792⟩, ⟨512, 9903520314283042199192993792, 19807040628566084398385987584⟩, ⟨1535, 20116525638387429467110768640, 39614081257132168796771975168⟩, ⟨2559, 40233051276774858934221537280, 0⟩] [([0, 1, 2, 3, 4, 5, 6, 7, 9, 10], 8, [2, 3, 4, 9, 10]), ([11], 12, [])] [] (by kernel_rfl) (by kernel_rfl) ?_
        refine wpStages_step ?_
        simp only [pick, List.map_cons, List.map_nil, List.getD_cons_zero, List.getD_cons_succ]
        repeat (go_big_quiet_step (fail))
        refine wpQuiet_nil ?_
        intro n0
        simp only [pick, List.map_cons, List.map_nil, List.getD_cons_zero, List.getD_cons_succ]
        go_wp2_with fail
        refine stagePost_mk ?_ ?_
        · intro o ho
          simp only [pick, List.map_cons, List.map_nil, List.getD_cons_zero, List.getD_cons_succ, List.mem_cons, List.not_mem_nil, or_false] at ho
          rcases ho with rfl | rfl | rfl | rfl | rfl | rfl
          all_goals
            refine float_any ?_
            repeat (go_big_quiet_step (fail))
            refine wpQuiet_nil ?_
            rfl
        refine wpStages_step ?_
        simp only [pick, List.map_cons, List.map_nil, List.getD_cons_zero, List.getD_cons_succ]
        repeat (go_big_quiet_step (fail))
        refine wpQuiet_nil ?_
        intro n1
        simp only [pick, List.map_cons, List.map_nil, List.getD_cons_zero, List.getD_cons_succ]
        go_wp2_with fail
        refine stagePost_mk (by simp [pick]) ?_
        refine wpStages_last ?_
        try simp only [pick, List.map_nil]
        refine wpQuiet_nil ?_
        intro n2
        have BZ := ((((BP.drewN n0).set 3 (.bool true)).drewN n1).set 5 (.int .u64 now)).drewN n2
        have CZ : Ch [p] wr _ := (((((Ch.refl [p] wr).drewN n0).setCell (p := ⟨p, 3, none⟩) (.inl (by simp)) (.bool true)).drewN n1).setCell (p := ⟨p, 5, none⟩) (.inl (by simp)) (.int .u64 now)).drewN n2
        have ownZ := own.ch CZ (fun g hg => by have := own.blks g hg; simp; omega)
        have ownOZ := ownO.ch CZ (fun g hg => by have := ownO.blks g hg; simp; omega)
        have CCZ := CC.step CZ (fun g hg => .inl (by simp at hg; simp [hg]))
        have ez := BZ.cell 7
        go_wp2_with fail
        go_ret2
        refine ⟨A', c', ?_, ?_, CCZ, HNW.out⟩
        · rw [HV.out, HM.out]; rfl
        · rw [HV.out]
          refine ⟨?_, ?_, ?_, ?_⟩
          · have := HM.out; subst this; exact BZ
          · exact ownOZ
          · have := HM.out; subst this; exact ownZ
          · intro a ha b hb
            rcases HNW.out b hb with h | h
            · exact hap a ha b h
            · have := HFO.out a ha; omega
    · obtain rfl : k = n := by omega
      have HV : Hid (keepL true l1 l = acc) := by show _ = _; rw [HA.out, List.take_of_length_le (by have := HN.out; omega)]
      have es : wr.cell? ⟨p, 7, none⟩ = some (.slice A' m c') := BP.cell 7
      have ga : wr.cell? ⟨p, 3, none⟩ = some (.bool false) := BP.cell 3
      have gt : wr.cell? ⟨p, 5, none⟩ = some (.int .u64 at1) := BP.cell 5
      have ka := BP.frozen 3
      have kt := BP.frozen 5
      go_upto_region 11 with fail
      refine wp_region_stagesM [⟨0, 1, 38685626227668133590597632⟩, ⟨0, 1024, 77371252455336267181195264⟩, ⟨0, 1, 154742504910672534362390528⟩, ⟨0, 1024, 309485009821345068724781056⟩, ⟨0, 2, 618970019642690137449562112⟩, ⟨1, 38685626227668133590597632, 1237940039285380274899124224⟩, ⟨32, 1237940039285380274899124224, 2475880078570760549798248448⟩, ⟨67, 2553251331026096816979443712, 4951760157141521099596496896⟩, ⟨131, 4951760157141521099596496896, 0⟩, ⟨4, 154742504910672534362390528, 9903520314283042199192993792⟩, ⟨512, 9903520314283042199192993792, 19807040628566084398385987584⟩, ⟨1535, 20116525638387429467110768640, 39614081257132168796771975168⟩, ⟨2559, 40233051276774858934221537280, 0⟩] [([0, 1, 2, 3, 4, 5, 6, 7, 9, 10], 8, [2, 3, 4, 9, 10]), ([11], 12, [])] [] (by kernel_rfl) (by kernel_rfl) ?_
      refine wpStages_step ?_
      simp only [pick, List.map_cons, List.map_nil, List.getD_cons_zero, List.getD_cons_succ]
      repeat (go_big_quiet_step (fail))
      refine wpQuiet_nil ?_
      intro n0
      simp only [pick, List.map_cons, List.map_nil, List.getD_cons_zero, List.getD_cons_succ]
      go_wp2_with fail
      refine stagePost_mk ?_ ?_
      · intro o ho
        simp only [pick, List.map_cons, List.map_nil, List.getD_cons_zero, List.getD_cons_succ, List.mem_cons, List.not_mem_nil, or_false] at ho
        rcases ho with rfl | rfl | rfl | rfl | rfl | rfl
        all_goals
          refine float_any ?_
          repeat (go_big_quiet_step (fail))
          refine wpQuiet_nil ?_
          rfl
      refine wpStages_step ?_
      simp only [pick, List.map_cons, List.map_nil, List.getD_cons_zero, List.getD_cons_succ]
      repeat (go_big_quiet_step (fail))
      refine wpQuiet_nil ?_
      intro n1
      simp only [pick, List.map_cons, List.map_nil, List.getD_cons_zero, List.getD_cons_succ]
      go_wp2_with fail
      refine stagePost_mk (by simp [pick]) ?_
      refine wpStages_last ?_
      try simp only [pick, List.map_nil]
      refine wpQuiet_nil ?_
      intro n2
      have BZ := ((((BP.drewN n0).set 3 (.bool true)).drewN n1).set 5 (.int .u64 now)).drewN n2
      have CZ : Ch [p] wr _ := (((((Ch.refl [p] wr).drewN n0).setCell (p := ⟨p, 3, none⟩) (.inl (by simp)) (.bool true)).drewN n1).setCell (p := ⟨p, 5, none⟩) (.inl (by simp)) (.int .u64 now)).drewN n2
      have ownZ := own.ch CZ (fun g hg => by have := own.blks g hg; simp; omega)
      have ownOZ := ownO.ch CZ (fun g hg => by have := ownO.blks g hg; simp; omega)
      have CCZ := CC.step CZ (fun g hg => .inl (by simp at hg; simp [hg]))
      have ez := BZ.cell 7
      go_wp2_with fail
      go_ret2
      refine ⟨A', c', ?_, ?_, CCZ, HNW.out⟩
      · rw [HV.out, HM.out]; rfl
      · rw [HV.out]
        refine ⟨?_, ?_, ?_, ?_⟩
        · have := HM.out; subst this; exact BZ
        · exact ownOZ
        · have := HM.out; subst this; exact ownZ
        · intro a ha b hb
          rcases HNW.out b hb with h | h
          · exact hap a ha b h
          · have := HFO.out a ha; omega
end Go.Proofs.YtjabeabbaambcaaDoor

/- The other methods of a pair (printed by mk_qmore.py): the program. -/
namespace Go.Proofs.YtjabeabbaambcaaDoor
open Go.RowKit
theorem qpNew (d : Int) (w : World) : Calls Tryd.prog 13 #[.int .u64 d] w fun e w' => e = .returned (.pointer (some ⟨w.heap.size, 0, none⟩)) ∧ PG false w' w.heap.size ⟨d, false, false, false, 0, 0, [], []⟩ none 0 none 0 ∧ Ch [] w w' := by
  go_enter Tryd.func13, Tryd.ntmps13
  go_wp2_with fail
  go_ret
  exact ⟨rfl, ⟨Blk.new _ _ _, Own.nil _ _ _ _, Own.nil _ _ _ _, by simp [blkOf]⟩, (Ch.refl _ _).alloc _⟩
set_option maxRecDepth 20000 in
set_option maxHeartbeats 4000000 in
theorem qpAddrs (p : Nat) (x : QP) (w : World) (A0 A1 : Option Addr) (c0 c1 : Nat) (hP : PG false w p x A0 c0 A1 c1) (hw : x.wf) (v : Bool) :
    Calls Tryd.prog 20 #[.pointer (some ⟨p, 0, none⟩), .bool v] w fun e w' => ∃ A' c', e = .returned (.slice A' (x.lst v).length c') ∧ Own w' w.heap.size 29 17 A' (x.lst v).length c' ((x.lst v).flatMap adrC) ∧ Ch [] w w' := by
  obtain ⟨d, can, an0, an1, at0, at1, l0, l1⟩ := x
  have BP : Blk w p 84 [.int .u64 d, .bool can, .bool an0, .int .u64 at0, .slice A0 l0.length c0, .bool an1, .int .u64 at1, .slice A1 l1.length c1] := hP.blk
  have k4 : w.cell? ⟨p, 4, none⟩ = some (.slice A0 l0.length c0) := BP.cell 4
  have k7 : w.cell? ⟨p, 7, none⟩ = some (.slice A1 l1.length c1) := BP.cell 7
  have HC0 : Hid (Calls Tryd.prog 62 #[.slice A0 l0.length c0] w fun e w' => ∃ A' c', e = .returned (.slice A' l0.length c') ∧ Own w' w.heap.size 29 17 A' l0.length c' (l0.flatMap adrC) ∧ Ch [] w w') := slCloneOwn w A0 _ c0 _ l0 hP.own0 (by have := hw.n0; simp only at this; omega)
  have HC1 : Hid (Calls Tryd.prog 62 #[.slice A1 l1.length c1] w fun e w' => ∃ A' c', e = .returned (.slice A' l1.length c') ∧ Own w' w.heap.size 29 17 A' l1.length c' (l1.flatMap adrC) ∧ Ch [] w w') := slCloneOwn w A1 _ c1 _ l1 hP.own1 (by have := hw.n1; simp only at this; omega)
  clear hP hw
  cases v
  · go_enter Tryd.func20, Tryd.ntmps20
    go_wp2_with (first
      | (go_at_call 57; (with_reducible refine (qpFam _ _ _).mono ?_); rintro e w' ⟨rfl, rfl⟩; try simp only [Bool.false_eq_true, if_false])
      | (go_at_call 62; (with_reducible refine (HC0.out).mono ?_); rintro e w2 ⟨A', c', rfl, own, C2⟩))
    go_ret
    exact ⟨A', c', rfl, own, C2⟩
  · go_enter Tryd.func20, Tryd.ntmps20
    go_wp2_with (first
      | (go_at_call 57; (with_reducible refine (qpFam _ _ _).mono ?_); rintro e w' ⟨rfl, rfl⟩; try simp only [if_true])
      | (go_at_call 62; (with_reducible refine (HC1.out).mono ?_); rintro e w2 ⟨A', c', rfl, own, C2⟩))
    go_ret
    exact ⟨A', c', rfl, own, C2⟩
set_option maxRecDepth 20000 in
set_option maxHeartbeats 4000000 in
theorem qpAnsCan (p : Nat) (x : QP) (w : World) (A0 A1 : Option Addr) (c0 c1 : Nat) (hP : PG false w p x A0 c0 A1 c1) (hc : x.can = true) (now : Int) (v : Bool) (A : Option Addr) (n cap : Nat) :
    Calls Tryd.prog 16 #[.pointer (some ⟨p, 0, none⟩), .int .u64 now, .bool v, .slice A n cap] w fun e w' => e = .returned (.tuple #[.int .i64 0, .int .i64 7]) ∧ Ch [] w w' := by
  obtain ⟨d, can, an0, an1, at0, at1, l0, l1⟩ := x
  simp only at hc
  subst hc
  have BP : Blk w p 84 [.int .u64 d, .bool true, .bool an0, .int .u64 at0, .slice A0 l0.length c0, .bool an1, .int .u64 at1, .slice A1 l1.length c1] := hP.blk
  have k1 : w.cell? ⟨p, 1, none⟩ = some (.bool true) := BP.cell 1
  cases v
  all_goals
    go_enter Tryd.func16, Tryd.ntmps16
    go_wp2_with (first | (go_at_call 57; (with_reducible refine (qpFam _ _ _).mono ?_); rintro e w' ⟨rfl, rfl⟩; try simp only [if_true, Bool.false_eq_true, if_false]))
    go_ret2
    exact ⟨rfl, Ch.refl _ _⟩
set_option maxRecDepth 20000 in
set_option maxHeartbeats 4000000 in
theorem qpAnsDup (p : Nat) (x : QP) (w : World) (A0 A1 : Option Addr) (c0 c1 : Nat) (hP : PG false w p x A0 c0 A1 c1) (hc : x.can = false) (now : Int) (v : Bool) (hd : x.an v = true) (A : Option Addr) (n cap : Nat) :
    Calls Tryd.prog 16 #[.pointer (some ⟨p, 0, none⟩), .int .u64 now, .bool v, .slice A n cap] w fun e w' => e = .returned (.tuple #[.int .i64 0, .int .i64 5]) ∧ Ch [] w w' := by
  obtain ⟨d, can, an0, an1, at0, at1, l0, l1⟩ := x
  simp only at hc
  subst hc
  have BP : Blk w p 84 [.int .u64 d, .bool false, .bool an0, .int .u64 at0, .slice A0 l0.length c0, .bool an1, .int .u64 at1, .slice A1 l1.length c1] := hP.blk
  have k1 : w.cell? ⟨p, 1, none⟩ = some (.bool false) := BP.cell 1
  cases v
  · have hx : an0 = true := hd
    subst hx
    have k2 : w.cell? ⟨p, 2, none⟩ = some (.bool true) := BP.cell 2
    go_enter Tryd.func16, Tryd.ntmps16
    go_wp2_with (first | (go_at_call 57; (with_reducible refine (qpFam _ _ _).mono ?_); rintro e w' ⟨rfl, rfl⟩; try simp only [Bool.false_eq_true, if_false]))
    go_ret2
    exact ⟨rfl, Ch.refl _ _⟩
  · have hx : an1 = true := hd
    subst hx
    have k2 : w.cell? ⟨p, 5, none⟩ = some (.bool true) := BP.cell 5
    go_enter Tryd.func16, Tryd.ntmps16
    go_wp2_with (first | (go_at_call 57; (with_reducible refine (qpFam _ _ _).mono ?_); rintro e w' ⟨rfl, rfl⟩; try simp only [if_true]))
    go_ret2
    exact ⟨rfl, Ch.refl _ _⟩
set_option maxRecDepth 20000 in
set_option maxHeartbeats 4000000 in
theorem qpComplete (p : Nat) (x : QP) (w : World) (A0 A1 : Option Addr) (c0 c1 : Nat) (hP : PG false w p x A0 c0 A1 c1) :
    Calls Tryd.prog 41 #[.pointer (some ⟨p, 0, none⟩)] w fun e w' => e = .returned (.bool (x.an0 && x.an1)) ∧ Ch [] w w' := by
  obtain ⟨d, can, an0, an1, at0, at1, l0, l1⟩ := x
  have BP : Blk w p 84 [.int .u64 d, .bool can, .bool an0, .int .u64 at0, .slice A0 l0.length c0, .bool an1, .int .u64 at1, .slice A1 l1.length c1] := hP.blk
  have e2 : w.cell? ⟨p, 2, none⟩ = some (.bool an0) := BP.cell 2
  have e5 : w.cell? ⟨p, 5, none⟩ = some (.bool an1) := BP.cell 5
  clear hP BP
  cases an0
  all_goals
    go_enter Tryd.func41, Tryd.ntmps41
    go_wp2_with fail
    go_ret
    exact ⟨rfl, Ch.refl _ _⟩
set_option maxRecDepth 20000 in
set_option maxHeartbeats 4000000 in
theorem qpCancel (p : Nat) (x : QP) (w : World) (A0 A1 : Option Addr) (c0 c1 : Nat) (hP : PG false w p x A0 c0 A1 c1) :
    Calls Tryd.prog 36 #[.pointer (some ⟨p, 0, none⟩)] w fun e w' => e = .returned (.tuple #[]) ∧ PG false w' p x.cancel A0 c0 A1 c1 ∧ Ch [p] w w' := by
  obtain ⟨d, can, an0, an1, at0, at1, l0, l1⟩ := x
  have BP : Blk w p 84 [.int .u64 d, .bool can, .bool an0, .int .u64 at0, .slice A0 l0.length c0, .bool an1, .int .u64 at1, .slice A1 l1.length c1] := hP.blk
  have k1 : w.cell? ⟨p, 1, none⟩ = some (.bool can) := BP.cell 1
  have f1 := BP.frozen 1
  have own0 := hP.own0
  have own1 := hP.own1
  have hap := hP.apart
  clear hP
  go_enter Tryd.func36, Tryd.ntmps36
  go_wp2_with fail
  go_loopw [6] (fun i wr => ∃ (k : Nat) (u v : Bool), i = .int .i64 k ∧ (k = 0 ∨ k = 1 ∨ k = 2) ∧ Blk wr p 84 [.int .u64 d, .bool true, .bool u, .int .u64 at0, .slice A0 l0.length c0, .bool v, .int .u64 at1, .slice A1 l1.length c1] ∧ (1 ≤ k → u = true) ∧ (2 ≤ k → v = true) ∧ Ch [p] w wr) (fun i _ => 2 - (intOf i).toNat)
  case atStart => exact ⟨0, an0, an1, rfl, .inl rfl, BP.set 1 _, by omega, by omega, (Ch.refl [p] w).setCell (.inl (by simp)) _⟩
  case round =>
    clear BP k1 f1
    obtain ⟨k, u, v, rfl, hk, BP, hu, hv, CC⟩ := hrel
    have f2 := BP.frozen 2
    have f5 := BP.frozen 5
    have k2 : wr.cell? ⟨p, 2, none⟩ = some (.bool u) := BP.cell 2
    have k5 : wr.cell? ⟨p, 5, none⟩ = some (.bool v) := BP.cell 5
    rcases hk with rfl | rfl | rfl
    · go_wp2_with fail
      go_roundw
      case rel => exact ⟨1, true, v, by go_num, by omega, BP.set 2 _, fun _ => rfl, by omega, CC.setCell (.inl (by simp)) _⟩
      case measure => simp [intOf]
    · go_wp2_with fail
      go_roundw
      case rel => exact ⟨2, u, true, by go_num, by omega, BP.set 5 _, fun _ => hu (by omega), fun _ => rfl, CC.setCell (.inl (by simp)) _⟩
      case measure => simp [intOf]
    · obtain rfl := hu (by omega)
      obtain rfl := hv (by omega)
      go_wp2_with fail
      go_end0
      exact ⟨rfl, ⟨BP, own0.ch CC (fun g hg => by have := own0.blks g hg; simp; omega), own1.ch CC (fun g hg => by have := own1.blks g hg; simp; omega), hap⟩, CC⟩
set_option maxRecDepth 20000 in
set_option maxHeartbeats 4000000 in
theorem qpDelay (p : Nat) (x : QP) (w : World) (A0 A1 : Option Addr) (c0 c1 : Nat) (hP : PG false w p x A0 c0 A1 c1) (hw : x.wf) :
    Calls Tryd.prog 39 #[.pointer (some ⟨p, 0, none⟩)] w fun e w' => e = .returned (.tuple #[.int .u64 x.dl, .bool x.dlOk]) ∧ Ch [] w w' := by
  obtain ⟨d, can, an0, an1, at0, at1, l0, l1⟩ := x
  have BP : Blk w p 84 [.int .u64 d, .bool can, .bool an0, .int .u64 at0, .slice A0 l0.length c0, .bool an1, .int .u64 at1, .slice A1 l1.length c1] := hP.blk
  have k_d : w.cell? ⟨p, 0, none⟩ = some (.int .u64 d) := BP.cell 0
  have k_can : w.cell? ⟨p, 1, none⟩ = some (.bool can) := BP.cell 1
  have k_an0 : w.cell? ⟨p, 2, none⟩ = some (.bool an0) := BP.cell 2
  have k_an1 : w.cell? ⟨p, 5, none⟩ = some (.bool an1) := BP.cell 5
  have k_at0 : w.cell? ⟨p, 3, none⟩ = some (.int .u64 at0) := BP.cell 3
  have k_l0 : w.cell? ⟨p, 4, none⟩ = some (.slice A0 l0.length c0) := BP.cell 4
  have k_l1 : w.cell? ⟨p, 7, none⟩ = some (.slice A1 l1.length c1) := BP.cell 7
  have hd0 := hw.d
  have ha0 := hw.at0
  have he0 := hw.e0
  simp only at hd0 ha0 he0
  have HADD : Hid (∀ w, Calls Tryd.prog 76 #[.int .u64 at0, .int .u64 d] w fun e w' => e = .returned (.int .u64 (addT at0 d)) ∧ Ch [] w w') := fun w => (tickAdd at0 d w ha0.1 ha0.2 hd0.1 hd0.2).mono fun e w' h => ⟨h.1, h.2 ▸ Ch.refl _ _⟩
  have j_d : ∀ y : After w, y.w.cell? ⟨p, 0, none⟩ = some (.int .u64 d) := fun y => (BP.ch y.ch (by simp)).cell 0
  have j_at0 : ∀ y : After w, y.w.cell? ⟨p, 3, none⟩ = some (.int .u64 at0) := fun y => (BP.ch y.ch (by simp)).cell 3
  clear hP hw
  generalize hn0 : l0.length = n0 at *
  have HZ : Hid (an0 = false → n0 = 0) := fun h => by rw [← hn0, he0 h]; rfl
  have HV : Hid ((QP.mk d can an0 an1 at0 at1 l0 l1).dlOk = (an0 && !an1 && decide (0 < n0))) := by show _ = _; unfold QP.dlOk; rw [hn0]
  have HL : Hid ((QP.mk d can an0 an1 at0 at1 l0 l1).dl = if (an0 && !an1 && decide (0 < n0)) then addT at0 d else 0) := by show _ = _; unfold QP.dl; rw [HV.out]
  clear hn0 he0
  cases an1
  · by_cases hz : 0 < n0
    · obtain rfl : an0 = true := by
        cases an0
        · have := HZ.out rfl; omega
        · rfl
      have hzi : ¬ (n0 : Int) = 0 := by omega
      go_enter Tryd.func39, Tryd.ntmps39
      go_upto_region 4 with (go_at_call 57; (with_reducible refine (qpFam _ _ _).mono ?_); rintro e w' ⟨rfl, rfl⟩; try simp only [if_true, Bool.false_eq_true, if_false])
      refine wp_region_quietA (w) (by kernel_rfl) (by kernel_rfl) (Ch.refl _ _) ?_
      repeat (first
        | go_big_quiet_step (first
          | (go_at_call 76; with_reducible exact after_of (HADD.out _))))
      refine wpQuiet_nil ?_
      intro wq hwq
      go_wp2_with fail
      go_ret2
      exact ⟨by rw [HL.out, HV.out]; simp [hz], hwq⟩
    · have hzi : (n0 : Int) = 0 := by omega
      go_enter Tryd.func39, Tryd.ntmps39
      go_wp2_with (go_at_call 57; (with_reducible refine (qpFam _ _ _).mono ?_); rintro e w' ⟨rfl, rfl⟩; try simp only [if_true, Bool.false_eq_true, if_false])
      go_ret2
      exact ⟨by rw [HL.out, HV.out]; simp [hz], Ch.refl _ _⟩
  · skip
    go_enter Tryd.func39, Tryd.ntmps39
    go_wp2_with (go_at_call 57; (with_reducible refine (qpFam _ _ _).mono ?_); rintro e w' ⟨rfl, rfl⟩; try simp only [if_true, Bool.false_eq_true, if_false])
    go_ret2
    exact ⟨by rw [HL.out, HV.out]; simp, Ch.refl _ _⟩
set_option maxRecDepth 20000 in
set_option maxHeartbeats 4000000 in
theorem qpReady (p : Nat) (x : QP) (w : World) (A0 A1 : Option Addr) (c0 c1 : Nat) (hP : PG false w p x A0 c0 A1 c1) (hw : x.wf) (now : Int) :
    Calls Tryd.prog 43 #[.pointer (some ⟨p, 0, none⟩), .int .u64 now] w fun e w' => e = .returned (.bool (x.ready now)) ∧ Ch [] w w' := by
  have HCO : Hid (∀ y : After w, Calls Tryd.prog 41 #[.pointer (some ⟨p, 0, none⟩)] y.w fun e w' => e = .returned (.bool (x.an0 && x.an1)) ∧ Ch [] y.w w') := fun y => qpComplete p x y.w A0 A1 c0 c1 (hP.ch y.ch (by simp) (by simp) (by simp))
  obtain ⟨d, can, an0, an1, at0, at1, l0, l1⟩ := x
  have BP : Blk w p 84 [.int .u64 d, .bool can, .bool an0, .int .u64 at0, .slice A0 l0.length c0, .bool an1, .int .u64 at1, .slice A1 l1.length c1] := hP.blk
  have k_d : ∀ y : After w, y.w.cell? ⟨p, 0, none⟩ = some (.int .u64 d) := fun y => (BP.ch y.ch (by simp)).cell 0
  have k_can : ∀ y : After w, y.w.cell? ⟨p, 1, none⟩ = some (.bool can) := fun y => (BP.ch y.ch (by simp)).cell 1
  have k_an0 : ∀ y : After w, y.w.cell? ⟨p, 2, none⟩ = some (.bool an0) := fun y => (BP.ch y.ch (by simp)).cell 2
  have k_an1 : ∀ y : After w, y.w.cell? ⟨p, 5, none⟩ = some (.bool an1) := fun y => (BP.ch y.ch (by simp)).cell 5
  have k_at0 : ∀ y : After w, y.w.cell? ⟨p, 3, none⟩ = some (.int .u64 at0) := fun y => (BP.ch y.ch (by simp)).cell 3
  have k_l0 : ∀ y : After w, y.w.cell? ⟨p, 4, none⟩ = some (.slice A0 l0.length c0) := fun y => (BP.ch y.ch (by simp)).cell 4
  have k_l1 : ∀ y : After w, y.w.cell? ⟨p, 7, none⟩ = some (.slice A1 l1.length c1) := fun y => (BP.ch y.ch (by simp)).cell 7
  have hd0 := hw.d
  have ha0 := hw.at0
  simp only at hd0 ha0
  have HADD : Hid (∀ w, Calls Tryd.prog 76 #[.int .u64 at0, .int .u64 d] w fun e w' => e = .returned (.int .u64 (addT at0 d)) ∧ Ch [] w w') := fun w => (tickAdd at0 d w ha0.1 ha0.2 hd0.1 hd0.2).mono fun e w' h => ⟨h.1, h.2 ▸ Ch.refl _ _⟩
  clear hP hw
  generalize hn0 : l0.length = n0 at *
  generalize hn1 : l1.length = n1 at *
  have HV : Hid ((QP.mk d can an0 an1 at0 at1 l0 l1).ready now = ((an0 && an1) || decide (0 < n1) || (decide (0 < n0) && decide (addT at0 d ≤ now)))) := by show _ = _; unfold QP.ready; simp only; rw [hn0, hn1]
  clear hn0 hn1
  simp only at HCO
  generalize addT at0 d = tt at HADD HV
  generalize hc : (an0 && an1) = cc at HCO HV
  clear hc
  cases cc
  · by_cases h1 : 0 < n1
    · have i1 : (n1 : Int) > 0 := by omega
      go_enter Tryd.func43, Tryd.ntmps43
      go_upto_region 2 with (go_at_call 57; (with_reducible refine (qpFam _ _ _).mono ?_); rintro e w' ⟨rfl, rfl⟩; try simp only [if_true, Bool.false_eq_true, if_false])
      refine wp_region_quietA (w) (by kernel_rfl) (by kernel_rfl) (Ch.refl _ _) ?_
      repeat (first
        | go_big_quiet_step (first
          | (go_at_call 41; with_reducible exact after_of (HCO.out _))
          | (go_at_call 76; with_reducible exact after_of (HADD.out _))))
      refine wpQuiet_nil ?_
      intro wq hwq
      go_wp2_with fail
      go_ret
      exact ⟨by rw [HV.out]; simp [h1], hwq⟩
    · have i1 : ¬ (n1 : Int) > 0 := by omega
      by_cases h2 : 0 < n0
      · have i2 : (n0 : Int) > 0 := by omega
        by_cases h3 : tt ≤ now
        · have i3 : now ≥ tt := h3
          go_enter Tryd.func43, Tryd.ntmps43
          go_upto_region 2 with (go_at_call 57; (with_reducible refine (qpFam _ _ _).mono ?_); rintro e w' ⟨rfl, rfl⟩; try simp only [if_true, Bool.false_eq_true, if_false])
          refine wp_region_quietA (w) (by kernel_rfl) (by kernel_rfl) (Ch.refl _ _) ?_
          repeat (first
            | go_big_quiet_step (first
              | (go_at_call 41; with_reducible exact after_of (HCO.out _))
              | (go_at_call 76; with_reducible exact after_of (HADD.out _))))
          refine wpQuiet_nil ?_
          intro wq hwq
          go_wp2_with fail
          go_ret
          exact ⟨by rw [HV.out]; simp [h1, h2, h3], hwq⟩
        · have i3 : ¬ now ≥ tt := h3
          go_enter Tryd.func43, Tryd.ntmps43
          go_upto_region 2 with (go_at_call 57; (with_reducible refine (qpFam _ _ _).mono ?_); rintro e w' ⟨rfl, rfl⟩; try simp only [if_true, Bool.false_eq_true, if_false])
          refine wp_region_quietA (w) (by kernel_rfl) (by kernel_rfl) (Ch.refl _ _) ?_
          repeat (first
            | go_big_quiet_step (first
              | (go_at_call 41; with_reducible exact after_of (HCO.out _))
              | (go_at_call 76; with_reducible exact after_of (HADD.out _))))
          refine wpQuiet_nil ?_
          intro wq hwq
          go_wp2_with fail
          go_ret
          exact ⟨by rw [HV.out]; simp [h1, h2, h3], hwq⟩
      · have i2 : ¬ (n0 : Int) > 0 := by omega
        go_enter Tryd.func43, Tryd.ntmps43
        go_upto_region 2 with (go_at_call 57; (with_reducible refine (qpFam _ _ _).mono ?_); rintro e w' ⟨rfl, rfl⟩; try simp only [if_true, Bool.false_eq_true, if_false])
        refine wp_region_quietA (w) (by kernel_rfl) (by kernel_rfl) (Ch.refl _ _) ?_
        repeat (first
          | go_big_quiet_step (first
            | (go_at_call 41; with_reducible exact after_of (HCO.out _))
            | (go_at_call 76; with_reducible exact after_of (HADD.out _))))
        refine wpQuiet_nil ?_
        intro wq hwq
        go_wp2_with fail
        go_ret
        exact ⟨by rw [HV.out]; simp [h1, h2], hwq⟩
  · skip
    go_enter Tryd.func43, Tryd.ntmps43
    go_upto_region 2 with (go_at_call 57; (with_reducible refine (qpFam _ _ _).mono ?_); rintro e w' ⟨rfl, rfl⟩; try simp only [if_true, Bool.false_eq_true, if_false])
    refine wp_region_quietA (w) (by kernel_rfl) (by kernel_rfl) (Ch.refl _ _) ?_
    repeat (first
      | go_big_quiet_step (first
        | (go_at_call 41; with_reducible exact after_of (HCO.out _))
        | (go_at_call 76; with_reducible exact after_of (HADD.out _))))
    refine wpQuiet_nil ?_
    intro wq hwq
    go_wp2_with fail
    go_ret
    exact ⟨by rw [HV.out]; simp, hwq⟩
end Go.Proofs.YtjabeabbaambcaaDoor

/- The other methods of a pair (printed by mk_qmore.py): the reference. -/
namespace Go.Proofs.YtjabeabbaambcaaDoor
open Go.RowKit
set_option maxRecDepth 20000 in
set_option maxHeartbeats 4000000 in
theorem rpAnsCan (p : Nat) (x : QP) (w : World) (A0 A1 : Option Addr) (c0 c1 : Nat) (hP : PG true w p x A0 c0 A1 c1) (hc : x.can = true) (now : Int) (v : Bool) (A : Option Addr) (n cap : Nat) :
    Calls Tryd.prog 17 #[.pointer (some ⟨p, 0, none⟩), .int .u64 now, .bool v, .slice A n cap] w fun e w' => e = .returned (.tuple #[.int .i64 0, .int .i64 7]) ∧ Ch [] w w' := by
  obtain ⟨d, can, an0, an1, at0, at1, l0, l1⟩ := x
  simp only at hc
  subst hc
  have BP : Blk w p 39 [.int .u64 d, .bool true, .bool an0, .bool an1, .int .u64 at0, .int .u64 at1, .slice A0 l0.length c0, .slice A1 l1.length c1] := hP.blk
  have k1 : w.cell? ⟨p, 1, none⟩ = some (.bool true) := BP.cell 1
  cases v
  all_goals
    go_enter Tryd.func17, Tryd.ntmps17
    go_wp2_with (first | (go_at_call 60; (with_reducible refine (rpIdx _ _).mono ?_); rintro e w' ⟨rfl, rfl⟩; try simp only [if_true, Bool.false_eq_true, if_false]))
    go_ret2
    exact ⟨rfl, Ch.refl _ _⟩
set_option maxRecDepth 20000 in
set_option maxHeartbeats 4000000 in
theorem rpAnsDup (p : Nat) (x : QP) (w : World) (A0 A1 : Option Addr) (c0 c1 : Nat) (hP : PG true w p x A0 c0 A1 c1) (hc : x.can = false) (now : Int) (v : Bool) (hd : x.an v = true) (A : Option Addr) (n cap : Nat) :
    Calls Tryd.prog 17 #[.pointer (some ⟨p, 0, none⟩), .int .u64 now, .bool v, .slice A n cap] w fun e w' => e = .returned (.tuple #[.int .i64 0, .int .i64 5]) ∧ Ch [] w w' := by
  obtain ⟨d, can, an0, an1, at0, at1, l0, l1⟩ := x
  simp only at hc
  subst hc
  have BP : Blk w p 39 [.int .u64 d, .bool false, .bool an0, .bool an1, .int .u64 at0, .int .u64 at1, .slice A0 l0.length c0, .slice A1 l1.length c1] := hP.blk
  have k1 : w.cell? ⟨p, 1, none⟩ = some (.bool false) := BP.cell 1
  cases v
  · have hx : an0 = true := hd
    subst hx
    have k2 : w.cell? ⟨p, 2, none⟩ = some (.bool true) := BP.cell 2
    go_enter Tryd.func17, Tryd.ntmps17
    go_wp2_with (first | (go_at_call 60; (with_reducible refine (rpIdx _ _).mono ?_); rintro e w' ⟨rfl, rfl⟩; try simp only [Bool.false_eq_true, if_false]))
    go_ret2
    exact ⟨rfl, Ch.refl _ _⟩
  · have hx : an1 = true := hd
    subst hx
    have k2 : w.cell? ⟨p, 3, none⟩ = some (.bool true) := BP.cell 3
    go_enter Tryd.func17, Tryd.ntmps17
    go_wp2_with (first | (go_at_call 60; (with_reducible refine (rpIdx _ _).mono ?_); rintro e w' ⟨rfl, rfl⟩; try simp only [if_true]))
    go_ret2
    exact ⟨rfl, Ch.refl _ _⟩
set_option maxRecDepth 20000 in
set_option maxHeartbeats 4000000 in
theorem rpComplete (p : Nat) (x : QP) (w : World) (A0 A1 : Option Addr) (c0 c1 : Nat) (hP : PG true w p x A0 c0 A1 c1) :
    Calls Tryd.prog 42 #[.pointer (some ⟨p, 0, none⟩)] w fun e w' => e = .returned (.bool (x.an0 && x.an1)) ∧ Ch [] w w' := by
  obtain ⟨d, can, an0, an1, at0, at1, l0, l1⟩ := x
  have BP : Blk w p 39 [.int .u64 d, .bool can, .bool an0, .bool an1, .int .u64 at0, .int .u64 at1, .slice A0 l0.length c0, .slice A1 l1.length c1] := hP.blk
  have e2 : w.cell? ⟨p, 2, none⟩ = some (.bool an0) := BP.cell 2
  have e5 : w.cell? ⟨p, 3, none⟩ = some (.bool an1) := BP.cell 3
  clear hP BP
  cases an0
  all_goals
    go_enter Tryd.func42, Tryd.ntmps42
    go_wp2_with fail
    go_ret
    exact ⟨rfl, Ch.refl _ _⟩
set_option maxRecDepth 20000 in
set_option maxHeartbeats 4000000 in
theorem rpCancel (p : Nat) (x : QP) (w : World) (A0 A1 : Option Addr) (c0 c1 : Nat) (hP : PG true w p x A0 c0 A1 c1) :
    Calls Tryd.prog 37 #[.pointer (some ⟨p, 0, none⟩)] w fun e w' => e = .returned (.tuple #[]) ∧ PG true w' p x.cancel A0 c0 A1 c1 ∧ Ch [p] w w' := by
  obtain ⟨d, can, an0, an1, at0, at1, l0, l1⟩ := x
  have BP : Blk w p 39 [.int .u64 d, .bool can, .bool an0, .bool an1, .int .u64 at0, .int .u64 at1, .slice A0 l0.length c0, .slice A1 l1.length c1] := hP.blk
  have k1 : w.cell? ⟨p, 1, none⟩ = some (.bool can) := BP.cell 1
  have f1 := BP.frozen 1
  have own0 := hP.own0
  have own1 := hP.own1
  have hap := hP.apart
  clear hP
  have k2 : w.cell? ⟨p, 2, none⟩ = some (.bool an0) := BP.cell 2
  have k3 : w.cell? ⟨p, 3, none⟩ = some (.bool an1) := BP.cell 3
  have f2 := BP.frozen 2
  have f3 := BP.frozen 3
  go_enter Tryd.func37, Tryd.ntmps37
  go_wp2_with fail
  go_end0
  have CC : Ch [p] w (((w.setCell ⟨p, 1, none⟩ (.bool true)).setCell ⟨p, 2, none⟩ (.bool true)).setCell ⟨p, 3, none⟩ (.bool true)) := (((Ch.refl [p] w).setCell (.inl (by simp)) _).setCell (.inl (by simp)) _).setCell (.inl (by simp)) _
  exact ⟨rfl, ⟨((BP.set 1 _).set 2 _).set 3 _, own0.ch CC (fun g hg => by have := own0.blks g hg; simp; omega), own1.ch CC (fun g hg => by have := own1.blks g hg; simp; omega), hap⟩, CC⟩
set_option maxRecDepth 20000 in
set_option maxHeartbeats 4000000 in
theorem rpDelay (p : Nat) (x : QP) (w : World) (A0 A1 : Option Addr) (c0 c1 : Nat) (hP : PG true w p x A0 c0 A1 c1) (hw : x.wf) :
    Calls Tryd.prog 40 #[.pointer (some ⟨p, 0, none⟩)] w fun e w' => e = .returned (.tuple #[.int .u64 x.dl, .bool x.dlOk]) ∧ Ch [] w w' := by
  obtain ⟨d, can, an0, an1, at0, at1, l0, l1⟩ := x
  have BP : Blk w p 39 [.int .u64 d, .bool can, .bool an0, .bool an1, .int .u64 at0, .int .u64 at1, .slice A0 l0.length c0, .slice A1 l1.length c1] := hP.blk
  have k_d : w.cell? ⟨p, 0, none⟩ = some (.int .u64 d) := BP.cell 0
  have k_can : w.cell? ⟨p, 1, none⟩ = some (.bool can) := BP.cell 1
  have k_an0 : w.cell? ⟨p, 2, none⟩ = some (.bool an0) := BP.cell 2
  have k_an1 : w.cell? ⟨p, 3, none⟩ = some (.bool an1) := BP.cell 3
  have k_at0 : w.cell? ⟨p, 4, none⟩ = some (.int .u64 at0) := BP.cell 4
  have k_l0 : w.cell? ⟨p, 6, none⟩ = some (.slice A0 l0.length c0) := BP.cell 6
  have k_l1 : w.cell? ⟨p, 7, none⟩ = some (.slice A1 l1.length c1) := BP.cell 7
  have hd0 := hw.d
  have ha0 := hw.at0
  have he0 := hw.e0
  simp only at hd0 ha0 he0
  have HADD : Hid (∀ w, Calls Tryd.prog 77 #[.int .u64 at0, .int .u64 d] w fun e w' => e = .returned (.int .u64 (addT at0 d)) ∧ Ch [] w w') := fun w => (refAdd at0 d w ha0.1 ha0.2 hd0.1 hd0.2).mono fun e w' h => ⟨h.1, h.2 ▸ Ch.refl _ _⟩
  have j_d : ∀ y : After w, y.w.cell? ⟨p, 0, none⟩ = some (.int .u64 d) := fun y => (BP.ch y.ch (by simp)).cell 0
  have j_at0 : ∀ y : After w, y.w.cell? ⟨p, 4, none⟩ = some (.int .u64 at0) := fun y => (BP.ch y.ch (by simp)).cell 4
  clear hP hw
  generalize hn0 : l0.length = n0 at *
  have HZ : Hid (an0 = false → n0 = 0) := fun h => by rw [← hn0, he0 h]; rfl
  have HV : Hid ((QP.mk d can an0 an1 at0 at1 l0 l1).dlOk = (an0 && !an1 && decide (0 < n0))) := by show _ = _; unfold QP.dlOk; rw [hn0]
  have HL : Hid ((QP.mk d can an0 an1 at0 at1 l0 l1).dl = if (an0 && !an1 && decide (0 < n0)) then addT at0 d else 0) := by show _ = _; unfold QP.dl; rw [HV.out]
  clear hn0 he0
  cases an0
  · have := HZ.out rfl
    subst this
    cases an1
    all_goals
      go_enter Tryd.func40, Tryd.ntmps40
      go_wp2_with fail
      go_ret2
      exact ⟨by rw [HL.out, HV.out]; simp, Ch.refl _ _⟩
  · cases an1
    · by_cases hz : 0 < n0
      · have hzi : ¬ (n0 : Int) = 0 := by omega
        go_enter Tryd.func40, Tryd.ntmps40
        go_upto_region 3 with fail
        refine wp_region_quietA (w) (by kernel_rfl) (by kernel_rfl) (Ch.refl _ _) ?_
        repeat (first
          | go_big_quiet_step (first
            | (go_at_call 77; with_reducible exact after_of (HADD.out _))))
        refine wpQuiet_nil ?_
        intro wq hwq
        go_wp2_with fail
        go_ret2
        exact ⟨by rw [HL.out, HV.out]; simp [hz], hwq⟩
      · have hzi : (n0 : Int) = 0 := by omega
        go_enter Tryd.func40, Tryd.ntmps40
        go_wp2_with fail
        go_ret2
        exact ⟨by rw [HL.out, HV.out]; simp [hz], Ch.refl _ _⟩
    · skip
      go_enter Tryd.func40, Tryd.ntmps40
      go_wp2_with fail
      go_ret2
      exact ⟨by rw [HL.out, HV.out]; simp, Ch.refl _ _⟩
set_option maxRecDepth 20000 in
set_option maxHeartbeats 4000000 in
theorem rpReady (p : Nat) (x : QP) (w : World) (A0 A1 : Option Addr) (c0 c1 : Nat) (hP : PG true w p x A0 c0 A1 c1) (hw : x.wf) (now : Int) :
    Calls Tryd.prog 44 #[.pointer (some ⟨p, 0, none⟩), .int .u64 now] w fun e w' => e = .returned (.bool (x.ready now)) ∧ Ch [] w w' := by
  have HCO : Hid (∀ w', Ch [] w w' → Calls Tryd.prog 42 #[.pointer (some ⟨p, 0, none⟩)] w' fun e w'' => e = .returned (.bool (x.an0 && x.an1)) ∧ Ch [] w' w'') := fun w' c => rpComplete p x w' A0 A1 c0 c1 (hP.ch c (by simp) (by simp) (by simp))
  have HDL : Hid (∀ w', Ch [] w w' → Calls Tryd.prog 40 #[.pointer (some ⟨p, 0, none⟩)] w' fun e w'' => e = .returned (.tuple #[.int .u64 x.dl, .bool x.dlOk]) ∧ Ch [] w' w'') := fun w' c => rpDelay p x w' A0 A1 c0 c1 (hP.ch c (by simp) (by simp) (by simp)) hw
  have HPC : Hid (∀ w', Ch [] w w' → PG true w' p x A0 c0 A1 c1) := fun w' c => hP.ch c (by simp) (by simp) (by simp)
  have HV : Hid (x.ready now = ((x.an0 && x.an1) || (x.an1 && decide (0 < x.l1.length)) || (x.dlOk && decide (x.dl ≤ now)))) := by
    have h0 := hw.e0
    have h1 := hw.e1
    show _ = _
    unfold QP.dl QP.ready QP.dlOk
    obtain ⟨d, can, an0, an1, at0, at1, l0, l1⟩ := x
    simp only at h0 h1 ⊢
    cases an0 <;> cases an1
    · simp [h0 rfl, h1 rfl]
    · simp [h0 rfl]
    · rw [h1 rfl]
      cases l0 <;> simp
    · simp
  generalize x.dl = dl at HDL HV
  generalize x.dlOk = dk at HDL HV
  clear hP hw
  obtain ⟨d, can, an0, an1, at0, at1, l0, l1⟩ := x
  simp only at HCO HV HPC
  generalize hn1 : l1.length = n1 at *
  generalize hcc : (an0 && an1) = cc at HCO HV
  clear hcc
  cases an1
  · skip
    by_cases h1 : 0 < n1
    · have i1 : (n1 : Int) > 0 := by omega
      by_cases h3 : dl ≤ now
      · have i3 : now ≥ dl := h3
        cases cc <;> cases dk
        all_goals
          go_enter Tryd.func44, Tryd.ntmps44
          go_wp2_with (first | (go_at_call 40; (with_reducible refine (HDL.out _ (Ch.refl _ _)).mono ?_); rintro e w1 ⟨rfl, C1⟩; have BP1 : Blk w1 p 39 [.int .u64 d, .bool can, .bool an0, .bool false, .int .u64 at0, .int .u64 at1, .slice A0 l0.length c0, .slice A1 l1.length c1] := (HPC.out _ C1).blk; have e5 : w1.cell? ⟨p, 3, none⟩ = some (.bool false) := BP1.cell 3; have e7 : w1.cell? ⟨p, 7, none⟩ = some (.slice A1 n1 c1) := by (rw [← hn1]; exact BP1.cell 7)) | (go_at_call 42; (with_reducible refine (HCO.out _ C1).mono ?_); rintro e w2 ⟨rfl, C2⟩; have BP2 := BP1.ch C2 (by simp); have g5 : w2.cell? ⟨p, 3, none⟩ = some (.bool false) := BP2.cell 3; have g7 : w2.cell? ⟨p, 7, none⟩ = some (.slice A1 n1 c1) := by (rw [← hn1]; exact BP2.cell 7)))
          go_ret
          exact ⟨by rw [HV.out]; simp [h1, h3], C1.trans C2⟩
      · have i3 : ¬ now ≥ dl := h3
        cases cc <;> cases dk
        all_goals
          go_enter Tryd.func44, Tryd.ntmps44
          go_wp2_with (first | (go_at_call 40; (with_reducible refine (HDL.out _ (Ch.refl _ _)).mono ?_); rintro e w1 ⟨rfl, C1⟩; have BP1 : Blk w1 p 39 [.int .u64 d, .bool can, .bool an0, .bool false, .int .u64 at0, .int .u64 at1, .slice A0 l0.length c0, .slice A1 l1.length c1] := (HPC.out _ C1).blk; have e5 : w1.cell? ⟨p, 3, none⟩ = some (.bool false) := BP1.cell 3; have e7 : w1.cell? ⟨p, 7, none⟩ = some (.slice A1 n1 c1) := by (rw [← hn1]; exact BP1.cell 7)) | (go_at_call 42; (with_reducible refine (HCO.out _ C1).mono ?_); rintro e w2 ⟨rfl, C2⟩; have BP2 := BP1.ch C2 (by simp); have g5 : w2.cell? ⟨p, 3, none⟩ = some (.bool false) := BP2.cell 3; have g7 : w2.cell? ⟨p, 7, none⟩ = some (.slice A1 n1 c1) := by (rw [← hn1]; exact BP2.cell 7)))
          go_ret
          exact ⟨by rw [HV.out]; simp [h1], C1.trans C2⟩
    · have i1 : ¬ (n1 : Int) > 0 := by omega
      by_cases h3 : dl ≤ now
      · have i3 : now ≥ dl := h3
        cases cc <;> cases dk
        all_goals
          go_enter Tryd.func44, Tryd.ntmps44
          go_wp2_with (first | (go_at_call 40; (with_reducible refine (HDL.out _ (Ch.refl _ _)).mono ?_); rintro e w1 ⟨rfl, C1⟩; have BP1 : Blk w1 p 39 [.int .u64 d, .bool can, .bool an0, .bool false, .int .u64 at0, .int .u64 at1, .slice A0 l0.length c0, .slice A1 l1.length c1] := (HPC.out _ C1).blk; have e5 : w1.cell? ⟨p, 3, none⟩ = some (.bool false) := BP1.cell 3; have e7 : w1.cell? ⟨p, 7, none⟩ = some (.slice A1 n1 c1) := by (rw [← hn1]; exact BP1.cell 7)) | (go_at_call 42; (with_reducible refine (HCO.out _ C1).mono ?_); rintro e w2 ⟨rfl, C2⟩; have BP2 := BP1.ch C2 (by simp); have g5 : w2.cell? ⟨p, 3, none⟩ = some (.bool false) := BP2.cell 3; have g7 : w2.cell? ⟨p, 7, none⟩ = some (.slice A1 n1 c1) := by (rw [← hn1]; exact BP2.cell 7)))
          go_ret
          exact ⟨by rw [HV.out]; simp [h1, h3], C1.trans C2⟩
      · have i3 : ¬ now ≥ dl := h3
        cases cc <;> cases dk
        all_goals
          go_enter Tryd.func44, Tryd.ntmps44
          go_wp2_with (first | (go_at_call 40; (with_reducible refine (HDL.out _ (Ch.refl _ _)).mono ?_); rintro e w1 ⟨rfl, C1⟩; have BP1 : Blk w1 p 39 [.int .u64 d, .bool can, .bool an0, .bool false, .int .u64 at0, .int .u64 at1, .slice A0 l0.length c0, .slice A1 l1.length c1] := (HPC.out _ C1).blk; have e5 : w1.cell? ⟨p, 3, none⟩ = some (.bool false) := BP1.cell 3; have e7 : w1.cell? ⟨p, 7, none⟩ = some (.slice A1 n1 c1) := by (rw [← hn1]; exact BP1.cell 7)) | (go_at_call 42; (with_reducible refine (HCO.out _ C1).mono ?_); rintro e w2 ⟨rfl, C2⟩; have BP2 := BP1.ch C2 (by simp); have g5 : w2.cell? ⟨p, 3, none⟩ = some (.bool false) := BP2.cell 3; have g7 : w2.cell? ⟨p, 7, none⟩ = some (.slice A1 n1 c1) := by (rw [← hn1]; exact BP2.cell 7)))
          go_ret
          exact ⟨by rw [HV.out]; simp [h1], C1.trans C2⟩
  · skip
    by_cases h1 : 0 < n1
    · have i1 : (n1 : Int) > 0 := by omega
      by_cases h3 : dl ≤ now
      · have i3 : now ≥ dl := h3
        cases cc <;> cases dk
        all_goals
          go_enter Tryd.func44, Tryd.ntmps44
          go_wp2_with (first | (go_at_call 40; (with_reducible refine (HDL.out _ (Ch.refl _ _)).mono ?_); rintro e w1 ⟨rfl, C1⟩; have BP1 : Blk w1 p 39 [.int .u64 d, .bool can, .bool an0, .bool true, .int .u64 at0, .int .u64 at1, .slice A0 l0.length c0, .slice A1 l1.length c1] := (HPC.out _ C1).blk; have e5 : w1.cell? ⟨p, 3, none⟩ = some (.bool true) := BP1.cell 3; have e7 : w1.cell? ⟨p, 7, none⟩ = some (.slice A1 n1 c1) := by (rw [← hn1]; exact BP1.cell 7)) | (go_at_call 42; (with_reducible refine (HCO.out _ C1).mono ?_); rintro e w2 ⟨rfl, C2⟩; have BP2 := BP1.ch C2 (by simp); have g5 : w2.cell? ⟨p, 3, none⟩ = some (.bool true) := BP2.cell 3; have g7 : w2.cell? ⟨p, 7, none⟩ = some (.slice A1 n1 c1) := by (rw [← hn1]; exact BP2.cell 7)))
          go_ret
          exact ⟨by rw [HV.out]; simp [h1, h3], C1.trans C2⟩
      · have i3 : ¬ now ≥ dl := h3
        cases cc <;> cases dk
        all_goals
          go_enter Tryd.func44, Tryd.ntmps44
          go_wp2_with (first | (go_at_call 40; (with_reducible refine (HDL.out _ (Ch.refl _ _)).mono ?_); rintro e w1 ⟨rfl, C1⟩; have BP1 : Blk w1 p 39 [.int .u64 d, .bool can, .bool an0, .bool true, .int .u64 at0, .int .u64 at1, .slice A0 l0.length c0, .slice A1 l1.length c1] := (HPC.out _ C1).blk; have e5 : w1.cell? ⟨p, 3, none⟩ = some (.bool true) := BP1.cell 3; have e7 : w1.cell? ⟨p, 7, none⟩ = some (.slice A1 n1 c1) := by (rw [← hn1]; exact BP1.cell 7)) | (go_at_call 42; (with_reducible refine (HCO.out _ C1).mono ?_); rintro e w2 ⟨rfl, C2⟩; have BP2 := BP1.ch C2 (by simp); have g5 : w2.cell? ⟨p, 3, none⟩ = some (.bool true) := BP2.cell 3; have g7 : w2.cell? ⟨p, 7, none⟩ = some (.slice A1 n1 c1) := by (rw [← hn1]; exact BP2.cell 7)))
          go_ret
          exact ⟨by rw [HV.out]; simp [h1], C1.trans C2⟩
    · have i1 : ¬ (n1 : Int) > 0 := by omega
      by_cases h3 : dl ≤ now
      · have i3 : now ≥ dl := h3
        cases cc <;> cases dk
        all_goals
          go_enter Tryd.func44, Tryd.ntmps44
          go_wp2_with (first | (go_at_call 40; (with_reducible refine (HDL.out _ (Ch.refl _ _)).mono ?_); rintro e w1 ⟨rfl, C1⟩; have BP1 : Blk w1 p 39 [.int .u64 d, .bool can, .bool an0, .bool true, .int .u64 at0, .int .u64 at1, .slice A0 l0.length c0, .slice A1 l1.length c1] := (HPC.out _ C1).blk; have e5 : w1.cell? ⟨p, 3, none⟩ = some (.bool true) := BP1.cell 3; have e7 : w1.cell? ⟨p, 7, none⟩ = some (.slice A1 n1 c1) := by (rw [← hn1]; exact BP1.cell 7)) | (go_at_call 42; (with_reducible refine (HCO.out _ C1).mono ?_); rintro e w2 ⟨rfl, C2⟩; have BP2 := BP1.ch C2 (by simp); have g5 : w2.cell? ⟨p, 3, none⟩ = some (.bool true) := BP2.cell 3; have g7 : w2.cell? ⟨p, 7, none⟩ = some (.slice A1 n1 c1) := by (rw [← hn1]; exact BP2.cell 7)))
          go_ret
          exact ⟨by rw [HV.out]; simp [h1, h3], C1.trans C2⟩
      · have i3 : ¬ now ≥ dl := h3
        cases cc <;> cases dk
        all_goals
          go_enter Tryd.func44, Tryd.ntmps44
          go_wp2_with (first | (go_at_call 40; (with_reducible refine (HDL.out _ (Ch.refl _ _)).mono ?_); rintro e w1 ⟨rfl, C1⟩; have BP1 : Blk w1 p 39 [.int .u64 d, .bool can, .bool an0, .bool true, .int .u64 at0, .int .u64 at1, .slice A0 l0.length c0, .slice A1 l1.length c1] := (HPC.out _ C1).blk; have e5 : w1.cell? ⟨p, 3, none⟩ = some (.bool true) := BP1.cell 3; have e7 : w1.cell? ⟨p, 7, none⟩ = some (.slice A1 n1 c1) := by (rw [← hn1]; exact BP1.cell 7)) | (go_at_call 42; (with_reducible refine (HCO.out _ C1).mono ?_); rintro e w2 ⟨rfl, C2⟩; have BP2 := BP1.ch C2 (by simp); have g5 : w2.cell? ⟨p, 3, none⟩ = some (.bool true) := BP2.cell 3; have g7 : w2.cell? ⟨p, 7, none⟩ = some (.slice A1 n1 c1) := by (rw [← hn1]; exact BP2.cell 7)))
          go_ret
          exact ⟨by rw [HV.out]; simp [h1], C1.trans C2⟩
end Go.Proofs.YtjabeabbaambcaaDoor

/- The methods of a pair, by the list of its blocks (printed by mk_qpf.py). -/
namespace Go.Proofs.YtjabeabbaambcaaDoor
open Go.RowKit

section
variable {w : World} {p : Nat} {x : QP} {F : List Nat}
theorem qpAnswerF (P : PF false w p x F) (hw : x.wf) (now : Int) (v : Bool) {A : Option Addr} {n cap B : Nat} {l : AL} (h : Rd w B 17 A n (l.flatMap adrC)) (hB : B ≤ w.heap.size) (hA : ∀ g ∈ blkOf A, g ∉ F) (hl : n ≤ 1000000000000) (hG : ∀ a ∈ l, GoodA a.2) {m er : Int} (hm : x.answerN v l = m) (he : x.answerE v = er) :
    Calls Tryd.prog 16 #[.pointer (some ⟨p, 0, none⟩), .int .u64 now, .bool v, .slice A n cap] w fun e w' => e = .returned (.tuple #[.int .i64 m, .int .i64 er]) ∧ ∃ F', PF false w' p (x.answer now v l) F' ∧ Ch F w w' ∧ ∀ g ∈ F', g ∈ F ∨ w.heap.size ≤ g := by
  obtain ⟨A0, c0, A1, c1, hP, rfl⟩ := P
  subst hm he
  unfold QP.answerN QP.answerE QP.answer
  cases hc : x.can with
  | true =>
    simp only [if_true]
    exact (qpAnsCan p x w A0 A1 c0 c1 hP hc now v A n cap).mono fun _ _ ⟨h1, h2⟩ => ⟨h1, _, ⟨A0, c0, A1, c1, hP.ch h2 (by simp) (by simp) (by simp), rfl⟩, h2.mono (by simp), fun g hg => .inl hg⟩
  | false =>
    simp only [Bool.false_eq_true, if_false]
    cases ha : x.an v with
    | true =>
      simp only [if_true]
      exact (qpAnsDup p x w A0 A1 c0 c1 hP hc now v ha A n cap).mono fun _ _ ⟨h1, h2⟩ => ⟨h1, _, ⟨A0, c0, A1, c1, hP.ch h2 (by simp) (by simp) (by simp), rfl⟩, h2.mono (by simp), fun g hg => .inl hg⟩
    | false =>
      simp only [Bool.false_eq_true, if_false]
      have hA2 : ∀ g ∈ blkOf A, g ≠ p ∧ g ∉ blkOf A0 ∧ g ∉ blkOf A1 := fun g hg => by
        have := hA g hg
        simp only [List.mem_cons, List.mem_append, not_or] at this
        exact ⟨this.1, this.2.1, this.2.2⟩
      cases v
      · refine (qpAnsF p x now w A0 A1 c0 c1 hP hw hc ha A n cap B l h hB hA2 hl hG).mono ?_
        rintro e w' ⟨A', c', h1, h2, h3, h4⟩
        refine ⟨h1, _, ⟨A', c', A1, c1, h2, rfl⟩, h3.mono (fun k _ hk => by rcases List.mem_cons.1 hk with h | h <;> simp [h]), fun g hg => ?_⟩
        simp only [List.mem_cons, List.mem_append] at hg ⊢
        rcases hg with hg | hg | hg
        · exact .inl (.inl hg)
        · rcases h4 g hg with h | h
          · exact .inl (.inr (.inl h))
          · exact .inr h
        · exact .inl (.inr (.inr hg))
      · refine (qpAnsT p x now w A0 A1 c0 c1 hP hw hc ha A n cap B l h hB hA2 hl hG).mono ?_
        rintro e w' ⟨A', c', h1, h2, h3, h4⟩
        refine ⟨h1, _, ⟨A0, c0, A', c', h2, rfl⟩, h3.mono (fun k _ hk => by rcases List.mem_cons.1 hk with h | h <;> simp [h]), fun g hg => ?_⟩
        simp only [List.mem_cons, List.mem_append] at hg ⊢
        rcases hg with hg | hg | hg
        · exact .inl (.inl hg)
        · exact .inl (.inr (.inl hg))
        · rcases h4 g hg with h | h
          · exact .inl (.inr (.inr h))
          · exact .inr h
theorem qpCancelF (P : PF false w p x F) : Calls Tryd.prog 36 #[.pointer (some ⟨p, 0, none⟩)] w fun e w' => e = .returned (.tuple #[]) ∧ PF false w' p x.cancel F ∧ Ch F w w' := by
  obtain ⟨A0, c0, A1, c1, hP, rfl⟩ := P
  exact (qpCancel p x w A0 A1 c0 c1 hP).mono fun _ _ ⟨h1, h2, h3⟩ => ⟨h1, ⟨A0, c0, A1, c1, h2, rfl⟩, h3.mono (fun k _ hk => by simp only [List.mem_singleton] at hk; simp [hk])⟩
theorem qpCompleteF (P : PF false w p x F) {b : Bool} (hb : (x.an0 && x.an1) = b) : Calls Tryd.prog 41 #[.pointer (some ⟨p, 0, none⟩)] w fun e w' => e = .returned (.bool b) ∧ Ch [] w w' := by
  obtain ⟨A0, c0, A1, c1, hP, rfl⟩ := P
  subst hb
  exact qpComplete p x w A0 A1 c0 c1 hP
theorem qpDelayF (P : PF false w p x F) (hw : x.wf) {t : Int} {b : Bool} (ht : x.dl = t) (hb : x.dlOk = b) : Calls Tryd.prog 39 #[.pointer (some ⟨p, 0, none⟩)] w fun e w' => e = .returned (.tuple #[.int .u64 t, .bool b]) ∧ Ch [] w w' := by
  obtain ⟨A0, c0, A1, c1, hP, rfl⟩ := P
  subst ht hb
  exact qpDelay p x w A0 A1 c0 c1 hP hw
theorem qpReadyF (P : PF false w p x F) (hw : x.wf) (now : Int) {b : Bool} (hb : x.ready now = b) : Calls Tryd.prog 43 #[.pointer (some ⟨p, 0, none⟩), .int .u64 now] w fun e w' => e = .returned (.bool b) ∧ Ch [] w w' := by
  obtain ⟨A0, c0, A1, c1, hP, rfl⟩ := P
  subst hb
  exact qpReady p x w A0 A1 c0 c1 hP hw now
theorem rpAnswerF (P : PF true w p x F) (hw : x.wf) (now : Int) (v : Bool) {A : Option Addr} {n cap B : Nat} {l : AL} (h : Rd w B 17 A n (l.flatMap adrC)) (hB : B ≤ w.heap.size) (hA : ∀ g ∈ blkOf A, g ∉ F) (hl : n ≤ 1000000000000) (hG : ∀ a ∈ l, GoodA a.2) {m er : Int} (hm : x.answerN v l = m) (he : x.answerE v = er) :
    Calls Tryd.prog 17 #[.pointer (some ⟨p, 0, none⟩), .int .u64 now, .bool v, .slice A n cap] w fun e w' => e = .returned (.tuple #[.int .i64 m, .int .i64 er]) ∧ ∃ F', PF true w' p (x.answer now v l) F' ∧ Ch F w w' ∧ ∀ g ∈ F', g ∈ F ∨ w.heap.size ≤ g := by
  obtain ⟨A0, c0, A1, c1, hP, rfl⟩ := P
  subst hm he
  unfold QP.answerN QP.answerE QP.answer
  cases hc : x.can with
  | true =>
    simp only [if_true]
    exact (rpAnsCan p x w A0 A1 c0 c1 hP hc now v A n cap).mono fun _ _ ⟨h1, h2⟩ => ⟨h1, _, ⟨A0, c0, A1, c1, hP.ch h2 (by simp) (by simp) (by simp), rfl⟩, h2.mono (by simp), fun g hg => .inl hg⟩
  | false =>
    simp only [Bool.false_eq_true, if_false]
    cases ha : x.an v with
    | true =>
      simp only [if_true]
      exact (rpAnsDup p x w A0 A1 c0 c1 hP hc now v ha A n cap).mono fun _ _ ⟨h1, h2⟩ => ⟨h1, _, ⟨A0, c0, A1, c1, hP.ch h2 (by simp) (by simp) (by simp), rfl⟩, h2.mono (by simp), fun g hg => .inl hg⟩
    | false =>
      simp only [Bool.false_eq_true, if_false]
      have hA2 : ∀ g ∈ blkOf A, g ≠ p ∧ g ∉ blkOf A0 ∧ g ∉ blkOf A1 := fun g hg => by
        have := hA g hg
        simp only [List.mem_cons, List.mem_append, not_or] at this
        exact ⟨this.1, this.2.1, this.2.2⟩
      cases v
      · refine (rpAnsF p x now w A0 A1 c0 c1 hP hw hc ha A n cap B l h hB hA2 hl hG).mono ?_
        rintro e w' ⟨A', c', h1, h2, h3, h4⟩
        refine ⟨h1, _, ⟨A', c', A1, c1, h2, rfl⟩, h3.mono (fun k _ hk => by rcases List.mem_cons.1 hk with h | h <;> simp [h]), fun g hg => ?_⟩
        simp only [List.mem_cons, List.mem_append] at hg ⊢
        rcases hg with hg | hg | hg
        · exact .inl (.inl hg)
        · rcases h4 g hg with h | h
          · exact .inl (.inr (.inl h))
          · exact .inr h
        · exact .inl (.inr (.inr hg))
      · refine (rpAnsT p x now w A0 A1 c0 c1 hP hw hc ha A n cap B l h hB hA2 hl hG).mono ?_
        rintro e w' ⟨A', c', h1, h2, h3, h4⟩
        refine ⟨h1, _, ⟨A0, c0, A', c', h2, rfl⟩, h3.mono (fun k _ hk => by rcases List.mem_cons.1 hk with h | h <;> simp [h]), fun g hg => ?_⟩
        simp only [List.mem_cons, List.mem_append] at hg ⊢
        rcases hg with hg | hg | hg
        · exact .inl (.inl hg)
        · exact .inl (.inr (.inl hg))
        · rcases h4 g hg with h | h
          · exact .inl (.inr (.inr h))
          · exact .inr h
theorem rpCancelF (P : PF true w p x F) : Calls Tryd.prog 37 #[.pointer (some ⟨p, 0, none⟩)] w fun e w' => e = .returned (.tuple #[]) ∧ PF true w' p x.cancel F ∧ Ch F w w' := by
  obtain ⟨A0, c0, A1, c1, hP, rfl⟩ := P
  exact (rpCancel p x w A0 A1 c0 c1 hP).mono fun _ _ ⟨h1, h2, h3⟩ => ⟨h1, ⟨A0, c0, A1, c1, h2, rfl⟩, h3.mono (fun k _ hk => by simp only [List.mem_singleton] at hk; simp [hk])⟩
theorem rpCompleteF (P : PF true w p x F) {b : Bool} (hb : (x.an0 && x.an1) = b) : Calls Tryd.prog 42 #[.pointer (some ⟨p, 0, none⟩)] w fun e w' => e = .returned (.bool b) ∧ Ch [] w w' := by
  obtain ⟨A0, c0, A1, c1, hP, rfl⟩ := P
  subst hb
  exact rpComplete p x w A0 A1 c0 c1 hP
theorem rpDelayF (P : PF true w p x F) (hw : x.wf) {t : Int} {b : Bool} (ht : x.dl = t) (hb : x.dlOk = b) : Calls Tryd.prog 40 #[.pointer (some ⟨p, 0, none⟩)] w fun e w' => e = .returned (.tuple #[.int .u64 t, .bool b]) ∧ Ch [] w w' := by
  obtain ⟨A0, c0, A1, c1, hP, rfl⟩ := P
  subst ht hb
  exact rpDelay p x w A0 A1 c0 c1 hP hw
theorem rpReadyF (P : PF true w p x F) (hw : x.wf) (now : Int) {b : Bool} (hb : x.ready now = b) : Calls Tryd.prog 44 #[.pointer (some ⟨p, 0, none⟩), .int .u64 now] w fun e w' => e = .returned (.bool b) ∧ Ch [] w w' := by
  obtain ⟨A0, c0, A1, c1, hP, rfl⟩ := P
  subst hb
  exact rpReady p x w A0 A1 c0 c1 hP hw now
theorem qpAddrsF (P : PF false w p x F) (hw : x.wf) (v : Bool) {l : AL} (hl : x.lst v = l) : Calls Tryd.prog 20 #[.pointer (some ⟨p, 0, none⟩), .bool v] w fun e w' => ∃ A' c', e = .returned (.slice A' l.length c') ∧ Own w' w.heap.size 29 17 A' l.length c' (l.flatMap adrC) ∧ Ch [] w w' := by
  obtain ⟨A0, c0, A1, c1, hP, rfl⟩ := P
  subst hl
  exact qpAddrs p x w A0 A1 c0 c1 hP hw v
end
theorem qpNewF (d : Int) (w : World) : Calls Tryd.prog 13 #[.int .u64 d] w fun e w' => e = .returned (.pointer (some ⟨w.heap.size, 0, none⟩)) ∧ PF false w' w.heap.size ⟨d, false, false, false, 0, 0, [], []⟩ [w.heap.size] ∧ Ch [] w w' :=
  (qpNew d w).mono fun _ _ ⟨h1, h2, h3⟩ => ⟨h1, ⟨none, 0, none, 0, h2, rfl⟩, h3⟩
theorem rpNewF (d : Int) (w : World) : PF true (w.alloc (.cells #[.int .u64 d, .bool false, .bool false, .bool false, .int .u64 0, .int .u64 0, .slice none 0 0, .slice none 0 0] 39)) w.heap.size ⟨d, false, false, false, 0, 0, [], []⟩ [w.heap.size] :=
  ⟨none, 0, none, 0, ⟨Blk.new _ _ _, Own.nil _ _ _ _, Own.nil _ _ _ _, by simp [blkOf]⟩, rfl⟩
end Go.Proofs.YtjabeabbaambcaaDoor

/- ginnellaw27's awake. -/
namespace Go.Proofs.YtjabeabbaambcaaDoor
open Go.RowKit

def awA : Bool × List Int := (false, [9, 1, 2, 3, 0, 0, 0, 0, 0, 0, 0, 0, 0, 0, 0, 0])
def awL : AL := [awA]
def aw0 : QP := ⟨50, false, false, false, 0, 0, [], []⟩
def aw1 : QP := aw0.answer 10 false awL
def aw2 : QP := aw1.answer 20 true []
def aw3 : QP := aw2.answer 20 true []
set_option maxRecDepth 20000 in
set_option maxHeartbeats 4000000 in
theorem awake27 (w : World) : Calls Tryd.prog 21 #[] w fun e w' => e = .returned (.bool true) ∧ Ch [] w w' := by
  have W0 : aw0.wf := QP.wf_new ⟨by omega, by omega⟩
  have hgd : ∀ a ∈ awL, GoodA a.2 := fun a ha => by rw [awL, List.mem_singleton] at ha; subst ha; exact ⟨rfl, by decide⟩
  have W1 : aw1.wf := W0.answer ⟨by omega, by omega⟩ false hgd
  have W2 : aw2.wf := W1.answer ⟨by omega, by omega⟩ true (by simp)
  have W3 : aw3.wf := W2.answer ⟨by omega, by omega⟩ true (by simp)
  have HGD := hid hgd
  have HG16 : Hid (∀ a ∈ awL, a.2.length = 16) := fun a ha => (hgd a ha).1
  have n1 : Hid (aw0.answerN false awL = 1) := by show _ = _; decide +kernel
  have e1 : Hid (aw0.answerE false = 0) := by show _ = _; decide +kernel
  have t1 : Hid (aw1.dl = 60) := by show _ = _; decide +kernel
  have o1 : Hid (aw1.dlOk = true) := by show _ = _; decide +kernel
  have r59 : Hid (aw1.ready 59 = false) := by show _ = _; decide +kernel
  have r60 : Hid (aw1.ready 60 = true) := by show _ = _; decide +kernel
  have k1 : Hid ((aw1.an0 && aw1.an1) = false) := by show _ = _; decide +kernel
  have n2 : Hid (aw1.answerN true [] = 0) := by show _ = _; decide +kernel
  have e2 : Hid (aw1.answerE true = 0) := by show _ = _; decide +kernel
  have n3 : Hid (aw2.answerN true [] = 0) := by show _ = _; decide +kernel
  have e3 : Hid (aw2.answerE true = 5) := by show _ = _; decide +kernel
  have r3 : Hid (aw3.ready 20 = true) := by show _ = _; decide +kernel
  have k3 : Hid ((aw3.an0 && aw3.an1) = true) := by show _ = _; decide +kernel
  have l3 : Hid (aw3.lst false = awL) := by show _ = _; decide +kernel
  have HA : Hid (∀ w, Calls Tryd.prog 63 #[.int .i64 2] w fun e w' => e = .returned (.agg #[.bool false, .int .u8 9, .int .u8 1, .int .u8 2, .int .u8 3, .int .u8 0, .int .u8 0, .int .u8 0, .int .u8 0, .int .u8 0, .int .u8 0, .int .u8 0, .int .u8 0, .int .u8 0, .int .u8 0, .int .u8 0, .int .u8 0]) ∧ Ch [] w w') := fun w => genAddrN 2 w
  have HRD : Hid (∀ w0 w' : World, Ch [] (w0.alloc (.cells #[.bool false, .int .u8 9, .int .u8 1, .int .u8 2, .int .u8 3, .int .u8 0, .int .u8 0, .int .u8 0, .int .u8 0, .int .u8 0, .int .u8 0, .int .u8 0, .int .u8 0, .int .u8 0, .int .u8 0, .int .u8 0, .int .u8 0] 29)) w' → Rd w' (w0.heap.size + 1) 17 (some ⟨w0.heap.size, 0, none⟩) 1 (awL.flatMap adrC)) := fun w0 w' c => (Rd.new w0 17 (adrC awA) 1 rfl 29).ch c (by simp) (by simp)
  have CC := Ch.refl [] w
  clear hgd
  go_enter Tryd.func21, Tryd.ntmps21
  go_wp2_with (first
    | (go_at_call 13; (with_reducible refine (qpNewF _ _).mono ?_); rintro e w1 ⟨rfl, P, C1⟩; replace P : PF false w1 w.heap.size aw0 [w.heap.size] := P; replace CC := CC.trans C1; have FF : ∀ q ∈ [w.heap.size], w.heap.size ≤ q := fun q hq => by (rw [List.mem_singleton.1 hq]; exact Nat.le_refl _))
    | (go_at_call 63; (with_reducible refine (HA.out _).mono ?_); rintro e wm ⟨rfl, Cm⟩; have own2 := (own.ch Cm (by simp)).alloc (.cells #[.bool false, .int .u8 9, .int .u8 1, .int .u8 2, .int .u8 3, .int .u8 0, .int .u8 0, .int .u8 0, .int .u8 0, .int .u8 0, .int .u8 0, .int .u8 0, .int .u8 0, .int .u8 0, .int .u8 0, .int .u8 0, .int .u8 0] 29); replace CC := CC.trans Cm)
    | (go_at_call 63; (with_reducible refine (HA.out _).mono ?_); rintro e wn ⟨rfl, Cn⟩; replace P := P.nil Cn; have Q := P.nil ((Ch.refl [] wn).alloc (.cells #[.bool false, .int .u8 9, .int .u8 1, .int .u8 2, .int .u8 3, .int .u8 0, .int .u8 0, .int .u8 0, .int .u8 0, .int .u8 0, .int .u8 0, .int .u8 0, .int .u8 0, .int .u8 0, .int .u8 0, .int .u8 0, .int .u8 0] 29)); have hlt := (P.lt _ (List.mem_singleton_self _)).2; replace CC := (CC.trans Cn).alloc (.cells #[.bool false, .int .u8 9, .int .u8 1, .int .u8 2, .int .u8 3, .int .u8 0, .int .u8 0, .int .u8 0, .int .u8 0, .int .u8 0, .int .u8 0, .int .u8 0, .int .u8 0, .int .u8 0, .int .u8 0, .int .u8 0, .int .u8 0] 29))
    | (go_at_call 22; (with_reducible refine (eqEqA _ _ _ _ _ _ _ _ awL own2.rd (HRD.out wm _ (Ch.refl _ _)) (Nat.le_refl _) (by simp) (by omega) HG16.out).mono ?_); rintro e we ⟨rfl, Ce⟩; replace CC := (CC.alloc _).trans Ce)
    | (go_at_call 20; (with_reducible refine (qpAddrsF P3 W3 false l3.out).mono ?_); rintro e w9 ⟨A', c', rfl, own, C9⟩; simp only [show awL.length = 1 from rfl] at own ⊢; replace CC := CC.trans C9)
    | (go_at_call 43; (with_reducible refine (qpReadyF P3 W3 20 r3.out).mono ?_); rintro e wr ⟨rfl, Cr⟩; replace P3 := P3.nil Cr; replace CC := CC.trans Cr)
    | (go_at_call 41; (with_reducible refine (qpCompleteF P3 k3.out).mono ?_); rintro e wr ⟨rfl, Cr⟩; replace P3 := P3.nil Cr; replace CC := CC.trans Cr)
    | (go_at_call 16; (with_reducible refine (qpAnswerF (l := []) (B := 0) P2 W2 20 true (Rd.nil _ _ _ _) (by omega) (by simp [blkOf]) (by omega) (by simp) n3.out e3.out).mono ?_); rintro e wz ⟨rfl, F3, P3, C4, hf3⟩; replace P3 : PF false wz w.heap.size aw3 F3 := P3; replace CC := CC.step C4 (fun i hi => .inr (FF2 i hi)))
    | (go_at_call 16; (with_reducible refine (qpAnswerF (l := []) (B := 0) P1 W1 20 true (Rd.nil _ _ _ _) (by omega) (by simp [blkOf]) (by omega) (by simp) n2.out e2.out).mono ?_); rintro e wy ⟨rfl, F2, P2, C3, hf2⟩; replace P2 : PF false wy w.heap.size aw2 F2 := P2; have sz2 := CC.size; have FF2 : ∀ q ∈ F2, w.heap.size ≤ q := fun q hq => (hf2 q hq).elim (FF1 q) (fun h => by omega); replace CC := CC.step C3 (fun i hi => .inr (FF1 i hi)))
    | (go_at_call 39; (with_reducible refine (qpDelayF P1 W1 t1.out o1.out).mono ?_); rintro e wr ⟨rfl, Cr⟩; replace P1 := P1.nil Cr; replace CC := CC.trans Cr)
    | (go_at_call 43; (with_reducible refine (qpReadyF P1 W1 59 r59.out).mono ?_); rintro e wr ⟨rfl, Cr⟩; replace P1 := P1.nil Cr; replace CC := CC.trans Cr)
    | (go_at_call 43; (with_reducible refine (qpReadyF P1 W1 60 r60.out).mono ?_); rintro e wr ⟨rfl, Cr⟩; replace P1 := P1.nil Cr; replace CC := CC.trans Cr)
    | (go_at_call 41; (with_reducible refine (qpCompleteF P1 k1.out).mono ?_); rintro e wr ⟨rfl, Cr⟩; replace P1 := P1.nil Cr; replace CC := CC.trans Cr)
    | (go_at_call 16; (with_reducible refine (qpAnswerF Q W0 10 false (HRD.out wn _ (Ch.refl _ _)) (by simp) (fun q hq => by (simp only [blkOf, List.mem_singleton] at hq ⊢; omega)) (by omega) HGD.out n1.out e1.out).mono ?_); rintro e wx ⟨rfl, F1, P1, C2, hf1⟩; replace P1 : PF false wx w.heap.size aw1 F1 := P1; have sz1 := CC.size; have FF1 : ∀ q ∈ F1, w.heap.size ≤ q := fun q hq => (hf1 q hq).elim (FF q) (fun h => by omega); replace CC := CC.step C2 (fun i hi => .inr (FF i hi))))
  go_ret
  exact ⟨rfl, CC⟩
end Go.Proofs.YtjabeabbaambcaaDoor
