/- trie.Trie[string]: matches, Lookup, Matches, Len (printed by mk_trie2.py). -/
import Derived.Test.YtjpiekljjhgmoaaDoorTrieS
import Derived.Test.YtjpiekljjhgmoaaDoorTrL
import Derived.Deep.DeepCutAuto
import Derived.Deep.CutRange
namespace Go.Proofs.YtjpiekljjhgmoaaDoor
open Go.RowKit

theorem ptr_infoZS : (Tryd.prog.info? 112).map (fun i => (i.zero, i.size, i.bytes)) = some (some (.pointer none), 1, 8) := by kernel_rfl
set_option maxRecDepth 20000 in
set_option maxHeartbeats 8000000 in
theorem trMatS (w : World) (g : Nat) (nd : Tri) (n : Int) (hT : TrI 124 115 w g nd n) (six : Bool) (bs : List Int) (hg : GoodA bs) :
    Calls Tryd.prog 68 #[.pointer (some ⟨g, 0, none⟩), .agg (addrC six bs).toArray] w fun e w' => ∃ A c, e = .returned (.slice A (mchL nd six bs).length c) ∧ Own w' w.heap.size 112 1 A (mchL nd six bs).length c ((mchL nd six bs).map ndPtr) ∧ Ch [] w w' := by
  have hL := bitL_le six
  have hLe := bitN_eq six
  have B0 : Blk (w.alloc (.cells (addrC six bs).toArray 24)) w.heap.size 24 (addrC six bs) := Blk.new w _ _
  have T0 := hT.nil ((Ch.refl [] w).alloc (.cells (addrC six bs).toArray 24))
  have C0 : Ch [] w (w.alloc (.cells (addrC six bs).toArray 24)) := (Ch.refl _ _).alloc _
  have HI := hid (addr_inf (six := six) hg.1)
  have HV := hid (ipValid six bs hg.1 hg.2)
  have HBL := hid (bitLenP six bs)
  have HBT : Hid (∀ k : Nat, k < bitN six → ∀ w, Calls Tryd.prog 39 #[.agg (addrC six bs).toArray, .int .i64 k] w fun e w' => e = .returned (.int .i64 (bitA bs k)) ∧ Ch [] w w') := fun k hk w => bitP six bs hg k (by omega) w
  obtain ⟨ro, hro⟩ : ∃ ro : Nat, (if six then 1 else 0) = ro := ⟨_, rfl⟩
  have hrt := LinkAt.root (nd := nd) (g := g) six
  rw [hro] at hrt
  have HRT := hid (fun w => trRootS g six bs ro hro w)
  have HLT : Hid (∀ κ d, nd κ = some d → d.b < w.heap.size) := fun κ d h => (hT.node κ d h).lt
  have hgl := hT.root.lt
  unfold mchL
  rw [hLe] at HBL hL
  generalize bitN six = L at HBT HBL hL ⊢
  clear hLe hro hg
  generalize addrC six bs = ac at *
  cases hva : validA six bs with
  | false =>
    rw [hva] at HV
    simp only [Bool.false_eq_true, if_false]
    go_enter Tryd.func68, Tryd.ntmps68
    go_wp2_with (first
      | (refine wpList_load_want rfl 24 _ rfl w.heap.size 0 rfl ac _ B0.range Tryd.underlying24 rfl HI.out ?_)
      | (go_at_call 61; (with_reducible refine (HV.out _).mono ?_); rintro e wn ⟨rfl, Cn⟩))
    go_ret
    exact ⟨none, 0, rfl, Own.nil _ _ _ _, C0.trans Cn⟩
  | true =>
    rw [hva] at HV
    simp only [if_true]
    obtain ⟨po0, hpo0⟩ := ptrV_form (nd (keyA six bs 0))
    have HPO0 := hid hpo0
    have HLK : Hid (∀ w', Ch [] w w' → w'.cell? ⟨g, ro, none⟩ = some (.pointer po0)) := fun w' c => by
      have := hrt.cell (hT.nil c)
      rw [← hpo0]
      exact this
    clear hpo0 hrt hva
    go_enter Tryd.func68, Tryd.ntmps68
    go_wp2_with (first
      | (refine wpList_load_want rfl 24 _ rfl w.heap.size 0 rfl ac _ B0.range Tryd.underlying24 rfl HI.out ?_)
      | (go_at_call 61; (with_reducible refine (HV.out _).mono ?_); rintro e wn ⟨rfl, Cn⟩; replace B0 := B0.ch Cn (by simp); replace T0 := T0.nil Cn; replace C0 := C0.trans Cn; clear Cn)
      | (go_at_call 67; (with_reducible refine (HRT.out _).mono ?_); rintro e wn ⟨rfl, Cn⟩; replace B0 := B0.ch Cn (by simp); replace T0 := T0.nil Cn; replace C0 := C0.trans Cn; clear Cn; have hlk := HLK.out _ C0))
    go_loopw [5, 6, 7] (fun l_ n_ i wr => ∃ (k ln : Nat) (A : Option Addr) (c : Nat) (po : Option Addr), l_ = .slice A ln c ∧ n_ = .pointer po ∧ i = .int .i64 k ∧ k ≤ L ∧ Hid (ptrV (nd (keyA six bs k)) = .pointer po) ∧ Own wr (w.heap.size + 1) 112 1 A ln c ((pathL nd six bs k).map ndPtr) ∧ Blk wr w.heap.size 24 ac ∧ TrI 124 115 wr g nd n ∧ Ch [] w wr) (fun _ _ i _ => L - (intOf i).toNat)
    case atStart => exact ⟨0, 0, none, 0, po0, rfl, rfl, rfl, by omega, HPO0, Own.nil _ _ _ _, B0, T0, C0⟩
    case round =>
      clear B0 T0 C0 hlk
      obtain ⟨k, ln, A, c, po, rfl, rfl, rfl, hk, HPO, own, BX, TX, CX⟩ := hrel
      have hln : ln ≤ 129 := by
        have h1 := own.len
        have h2 := pathL_len nd six bs k
        rw [List.length_map] at h1
        omega
      cases hnode : nd (keyA six bs k) with
      | none =>
        have hpo := HPO.out
        rw [hnode] at hpo
        obtain rfl : none = po := by simpa [ptrV] using hpo
        have HFN : Hid (pathL nd six bs (L + 1) = pathL nd six bs k) := pathL_stop (by omega) (TX.past hnode)
        have hl2 : (pathL nd six bs k).length = ln := by have := own.len; rw [List.length_map] at this; omega
        have HL2 := hid hl2
        clear hpo hl2
        go_wp2_with fail
        go_ret
        exact ⟨A, c, by (rw [HFN.out, HL2.out]) <;> rfl, by rw [HFN.out, HL2.out]; exact own.base (by omega), CX⟩
      | some d =>
        have hpo := HPO.out
        rw [hnode] at hpo
        obtain rfl : some ⟨d.b, 0, none⟩ = po := by simpa [ptrV] using hpo
        clear hpo HPO
        have e18 : wr.cell? ⟨d.b, 18, none⟩ = some (.bool d.pr) := ((TX.node _ _ hnode).cell 18).trans (nodeC_at (TX.l16 hnode) _ _ 0)
        cases hpr : d.pr with
        | false =>
          rw [hpr] at e18
          have HLL : Hid (pathL nd six bs (k + 1) = pathL nd six bs k) := by show _ = _; rw [pathL_succ, hnode]; simp [ndOn, hpr]
          have hl2 : (pathL nd six bs k).length = ln := by have := own.len; rw [List.length_map] at this; omega
          have HL2 := hid hl2
          clear hl2 hpr
          have OX := own
          go_upto_region 10 with fail
          by_cases km : k = L
          · subst km
            have HFN : Hid (pathL nd six bs (k + 1) = pathL nd six bs k) := by show _ = _; rw [HLL.out]
            go_wp2_with (first
              | (refine wpList_load_want rfl 24 _ rfl w.heap.size 0 rfl ac _ BX.range Tryd.underlying24 rfl HI.out ?_)
              | (go_at_call 62; (with_reducible refine (HBL.out _).mono ?_); rintro e wb ⟨rfl, Cb⟩))
            go_ret
            exact ⟨A, c, by (rw [HFN.out, HL2.out]) <;> rfl, by rw [HFN.out, HL2.out]; exact (OX.ch Cb (by simp)).base (by omega), CX.trans Cb⟩
          · have hkL : k < L := by omega
            have hkLi : ¬ (k : Int) = L := by omega
            have HBIT := hid (HBT.out k hkL)
            go_upto_region 11 with (first
              | (refine wpList_load_want rfl 24 _ rfl w.heap.size 0 rfl ac _ BX.range Tryd.underlying24 rfl HI.out ?_)
              | (go_at_call 62; (with_reducible refine (HBL.out _).mono ?_); rintro e wb ⟨rfl, Cb⟩))
            have BB := BX.ch Cb (by simp)
            have TB := TX.nil Cb
            have OB := OX.ch Cb (by simp)
            have CB := CX.trans Cb
            have HRA : Hid (∀ w', Ch [] wb w' → w'.rangeAt w.heap.size 0 ac) := fun w' c => (BB.ch c (by simp)).range
            obtain ⟨po2, hpo2⟩ := ptrV_form (nd (keyA six bs (k + 1)))
            have HPO2 := hid hpo2
            clear hpo2
            rcases bit_rng bs k with h0 | h0
            · rw [h0] at HBIT
              have k20 : ∀ y : After wb, y.w.cell? ⟨d.b, 20, none⟩ = some (.pointer po2) := fun y => by
                have := (LinkAt.next (g := g) hnode).cell (TB.nil y.ch)
                rw [h0, HPO2.out] at this
                exact this
              refine wp_region_quietA (wb) (by kernel_rfl) (by kernel_rfl) (Ch.refl _ _) ?_
              repeat (first
                | (go_big_quiet_want; refine quiet_rowA 24 _ rfl w.heap.size 0 rfl ac _ HRA.out Tryd.underlying24 rfl HI.out ?_; simp only [Act.put, List.setIfInBounds_toArray, List.set_cons_succ, List.set_cons_zero]; go_big_quiet_on)
                | go_big_quiet_step (first
                  | (go_at_call 39; with_reducible exact after_of (HBIT.out _))))
              refine wpQuiet_nil ?_
              intro wq hwq
              go_wp2_with fail
              go_roundw
              case rel => exact ⟨k + 1, _, A, c, po2, rfl, rfl, by go_num, by omega, HPO2, by rw [HLL.out]; exact OB.ch hwq (by simp), BB.ch hwq (by simp), TB.nil hwq, CB.trans hwq⟩
              case measure => simp [intOf]; omega
            · rw [h0] at HBIT
              have k21 : ∀ y : After wb, y.w.cell? ⟨d.b, 21, none⟩ = some (.pointer po2) := fun y => by
                have := (LinkAt.next (g := g) hnode).cell (TB.nil y.ch)
                rw [h0, HPO2.out] at this
                exact this
              refine wp_region_quietA (wb) (by kernel_rfl) (by kernel_rfl) (Ch.refl _ _) ?_
              repeat (first
                | (go_big_quiet_want; refine quiet_rowA 24 _ rfl w.heap.size 0 rfl ac _ HRA.out Tryd.underlying24 rfl HI.out ?_; simp only [Act.put, List.setIfInBounds_toArray, List.set_cons_succ, List.set_cons_zero]; go_big_quiet_on)
                | go_big_quiet_step (first
                  | (go_at_call 39; with_reducible exact after_of (HBIT.out _))))
              refine wpQuiet_nil ?_
              intro wq hwq
              go_wp2_with fail
              go_roundw
              case rel => exact ⟨k + 1, _, A, c, po2, rfl, rfl, by go_num, by omega, HPO2, by rw [HLL.out]; exact OB.ch hwq (by simp), BB.ch hwq (by simp), TB.nil hwq, CB.trans hwq⟩
              case measure => simp [intOf]; omega

        | true =>
          rw [hpr] at e18
          have HLL : Hid (pathL nd six bs (k + 1) = pathL nd six bs k ++ [d]) := by show _ = _; rw [pathL_succ, hnode]; simp [ndOn, hpr]
          have hl2 : (pathL nd six bs k ++ [d]).length = ln + 1 := by have := own.len; rw [List.length_map] at this; simp; omega
          have HL2 := hid hl2
          clear hl2 hpr
          go_upto_region 10 with (at_builtin; (refine wpList_app _ rfl (.tmp 24) (.tmp 26) _ rfl (w.heap.size + 1) 112 _ 1 8 Tryd.underlying125 ptr_infoZS rfl (by omega) _ _ _ _ rfl (own.alloc _) _ _ _ _ [ndPtr d] rfl (Rd.new wr 1 [ndPtr d] 1 rfl 112) (by simp [ndPtr, Value.oneCell']) (by unfold maxLen; omega) (by omega) (by have := BX.lt; simp only [World.size_alloc]; omega) ?_; intro A4 c4 w4 own4 ch4 at4))
          have CA : Ch (blkOf A) wr w4 := ((Ch.refl (blkOf A) wr).alloc (.cells [ndPtr d].toArray 112)).trans ch4
          have hob := own.blks
          have C4 := CX.step CA (fun i hi => .inr (by have := (hob i hi).1; omega))
          have B4 := BX.ch CA (fun h => by have := (hob _ h).1; omega)
          have T4 := TX.ch CA (fun h => by have := (hob _ h).1; omega) (fun κ' d' h' h => by have := (hob _ h).1; have := HLT.out κ' d' h'; omega)
          have OX : Own w4 (w.heap.size + 1) 112 1 A4 (ln + 1) c4 ((pathL nd six bs k ++ [d]).map ndPtr) := by rw [List.map_append]; exact own4
          clear own BX TX CX CA own4 ch4 at4 hob
          have BX := B4
          have TX := T4
          have CX := C4
          clear B4 T4 C4
          by_cases km : k = L
          · subst km
            have HFN : Hid (pathL nd six bs (k + 1) = pathL nd six bs k ++ [d]) := by show _ = _; rw [HLL.out]
            go_wp2_with (first
              | (refine wpList_load_want rfl 24 _ rfl w.heap.size 0 rfl ac _ BX.range Tryd.underlying24 rfl HI.out ?_)
              | (go_at_call 62; (with_reducible refine (HBL.out _).mono ?_); rintro e wb ⟨rfl, Cb⟩))
            go_ret
            exact ⟨A4, c4, by (rw [HFN.out, HL2.out]) <;> rfl, by rw [HFN.out, HL2.out]; exact (OX.ch Cb (by simp)).base (by omega), CX.trans Cb⟩
          · have hkL : k < L := by omega
            have hkLi : ¬ (k : Int) = L := by omega
            have HBIT := hid (HBT.out k hkL)
            go_upto_region 11 with (first
              | (refine wpList_load_want rfl 24 _ rfl w.heap.size 0 rfl ac _ BX.range Tryd.underlying24 rfl HI.out ?_)
              | (go_at_call 62; (with_reducible refine (HBL.out _).mono ?_); rintro e wb ⟨rfl, Cb⟩))
            have BB := BX.ch Cb (by simp)
            have TB := TX.nil Cb
            have OB := OX.ch Cb (by simp)
            have CB := CX.trans Cb
            have HRA : Hid (∀ w', Ch [] wb w' → w'.rangeAt w.heap.size 0 ac) := fun w' c => (BB.ch c (by simp)).range
            obtain ⟨po2, hpo2⟩ := ptrV_form (nd (keyA six bs (k + 1)))
            have HPO2 := hid hpo2
            clear hpo2
            rcases bit_rng bs k with h0 | h0
            · rw [h0] at HBIT
              have k20 : ∀ y : After wb, y.w.cell? ⟨d.b, 20, none⟩ = some (.pointer po2) := fun y => by
                have := (LinkAt.next (g := g) hnode).cell (TB.nil y.ch)
                rw [h0, HPO2.out] at this
                exact this
              refine wp_region_quietA (wb) (by kernel_rfl) (by kernel_rfl) (Ch.refl _ _) ?_
              repeat (first
                | (go_big_quiet_want; refine quiet_rowA 24 _ rfl w.heap.size 0 rfl ac _ HRA.out Tryd.underlying24 rfl HI.out ?_; simp only [Act.put, List.setIfInBounds_toArray, List.set_cons_succ, List.set_cons_zero]; go_big_quiet_on)
                | go_big_quiet_step (first
                  | (go_at_call 39; with_reducible exact after_of (HBIT.out _))))
              refine wpQuiet_nil ?_
              intro wq hwq
              go_wp2_with fail
              go_roundw
              case rel => exact ⟨k + 1, _, A4, c4, po2, rfl, rfl, by go_num, by omega, HPO2, by rw [HLL.out]; exact OB.ch hwq (by simp), BB.ch hwq (by simp), TB.nil hwq, CB.trans hwq⟩
              case measure => simp [intOf]; omega
            · rw [h0] at HBIT
              have k21 : ∀ y : After wb, y.w.cell? ⟨d.b, 21, none⟩ = some (.pointer po2) := fun y => by
                have := (LinkAt.next (g := g) hnode).cell (TB.nil y.ch)
                rw [h0, HPO2.out] at this
                exact this
              refine wp_region_quietA (wb) (by kernel_rfl) (by kernel_rfl) (Ch.refl _ _) ?_
              repeat (first
                | (go_big_quiet_want; refine quiet_rowA 24 _ rfl w.heap.size 0 rfl ac _ HRA.out Tryd.underlying24 rfl HI.out ?_; simp only [Act.put, List.setIfInBounds_toArray, List.set_cons_succ, List.set_cons_zero]; go_big_quiet_on)
                | go_big_quiet_step (first
                  | (go_at_call 39; with_reducible exact after_of (HBIT.out _))))
              refine wpQuiet_nil ?_
              intro wq hwq
              go_wp2_with fail
              go_roundw
              case rel => exact ⟨k + 1, _, A4, c4, po2, rfl, rfl, by go_num, by omega, HPO2, by rw [HLL.out]; exact OB.ch hwq (by simp), BB.ch hwq (by simp), TB.nil hwq, CB.trans hwq⟩
              case measure => simp [intOf]; omega

end Go.Proofs.YtjpiekljjhgmoaaDoor
