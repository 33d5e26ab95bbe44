/- Several texts in one: AclG, AclA, AclRA, AclRN, AclK, AclX, AclY. -/
import Derived.Test.YtbmbnibamhgfmaaDoorMH
import Derived.Test.YtbmbnibamhgfmaaDoorMD
import Derived.Test.YtbmbnibamhgfmaaDoorMC
import Derived.Test.YtbmbnibamhgfmaaDoorMJ
import Derived.Test.YtbmbnibamhgfmaaDoorMI
import Derived.Deep.DeepCutAuto
import Derived.Deep.CutRange
/- acl.ACL: matchesPort, MatchName (printed by mk_aclg.py). -/
namespace Go.Proofs.YtbmbnibamhgfmaaDoor
open Go.RowKit


/-- What the list's own cells tell of a rule. -/
structure RuleAt (w : World) (g : Nat) (L : List Rl) (A : Option Addr) (c : Nat) (b off : Nat) : Prop where
  hA : A = some ⟨b, off, none⟩
  c0 : w.cell? ⟨g, 0, none⟩ = some (.slice A L.length c)
  row : ∀ (j : Nat) (s : Rl), L[j]? = some s → w.rangeAt b (off + j * 22) (rulC s)
theorem AclM.rules {w : World} {g : Nat} {L : List Rl} {FF : List Nat} (h : AclM w g L FF) (hG : ∀ r ∈ L, GoodR r) : ∃ A c, ∀ w', Ch [] w w' → w'.cell? ⟨g, 0, none⟩ = some (.slice A L.length c) ∧
    (0 < L.length → ∃ b off, A = some ⟨b, off, none⟩ ∧ ∀ (j : Nat) (s : Rl), L[j]? = some s → w'.rangeAt b (off + j * 22) (rulC s)) := by
  obtain ⟨A, c, gt, m, nE, F, h1, h2, _⟩ := h
  refine ⟨A, c, fun w' hc => ⟨(h1.ch hc (by simp)).cell 0, fun hp => ?_⟩⟩
  obtain ⟨_, hr⟩ := h2.rangeE (fun r hr => rul_len (hG r hr).1.1) (by omega)
  obtain ⟨b, off, e, hb, hx⟩ := hr hp
  exact ⟨b, off, e, fun j s hj => range_ch (hx j s hj) hc hb (by simp)⟩
set_option maxRecDepth 20000 in
set_option maxHeartbeats 2000000 in
theorem aclPort {w : World} {g : Nat} {L : List Rl} {FF : List Nat} (h : AclM w g L FF) (hG : ∀ r ∈ L, GoodR r) (hl : L.length ≤ 1000000) {i : Nat} {r : Rl} (hi : L[i]? = some r) (port : Int) :
    Calls Tryd.prog 78 #[.pointer (some ⟨g, 0, none⟩), .int .i64 i, .int .i64 port] w fun e w' => e = .returned (.bool (portR r port)) ∧ w = w' := by
  have hlt : i < L.length := (List.getElem?_eq_some_iff.1 hi).1
  obtain ⟨A, c, hall⟩ := h.rules hG
  obtain ⟨e0, hr⟩ := hall w (Ch.refl _ _)
  obtain ⟨b, off, rfl, hrow⟩ := hr (by omega)
  have hgr := hG r (List.mem_of_getElem? hi)
  have e20 : w.cell? ⟨b, off + i * 22 + 20, none⟩ = some (.int .i64 r.2.2.2.1) := hrow i r hi 20 _ (rul_lo hgr.1.1)
  have e21 : w.cell? ⟨b, off + i * 22 + 21, none⟩ = some (.int .i64 r.2.2.2.2) := hrow i r hi 21 _ (rul_hi hgr.1.1)
  have hi0 : (0 : Int) ≤ i := by omega
  have hi1 : (i : Int) < L.length := by omega
  unfold portR
  clear h hG hall hr hrow hgr hi hlt
  generalize r.2.2.2.1 = lo at e20 ⊢
  generalize r.2.2.2.2 = hi at e21 ⊢
  by_cases h1 : lo ≤ port
  · by_cases h2 : port ≤ hi
    · simp only [h1, h2, decide_true, Bool.and_self]
      go_enter Tryd.func78, Tryd.ntmps78
      go_wp2_with go_big_skip
      go_ret
      exact ⟨rfl, rfl⟩
    · simp only [h1, h2, decide_true, decide_false, Bool.and_false]
      go_enter Tryd.func78, Tryd.ntmps78
      go_wp2_with go_big_skip
      go_ret
      exact ⟨rfl, rfl⟩
  · simp only [h1, decide_false, Bool.false_and]
    go_enter Tryd.func78, Tryd.ntmps78
    go_wp2_with go_big_skip
    go_ret
    exact ⟨rfl, rfl⟩
theorem subS_lab {a b : ByteArray} (h : subS a b = true) : 0 < labN (numsOf b) := by
  unfold subS at h
  simp only [Bool.and_eq_true] at h
  unfold labN
  rw [if_pos h.1.2]
  exact List.length_pos_iff.2 (splitD_ne _)
def labI (L : List Rl) : Option Nat → Int | none => 0 | some j => rkN (L.getD j dR)
set_option maxRecDepth 100000 in
set_option maxHeartbeats 16000000 in
theorem aclMatchN {w : World} {g : Nat} {L : List Rl} {FF : List Nat} (h : AclM w g L FF) (hG : ∀ r ∈ L, GoodR r) (hl : L.length ≤ 1000000) (name : ByteArray) (hnm : name.size ≤ 140737488351232) (port : Int) :
    Calls Tryd.prog 51 #[.pointer (some ⟨g, 0, none⟩), .string name, .int .i64 port] w fun e w' => e = .returned (.int .i64 (optI (bestB L (pN name port) rkN L.length))) ∧ Ch [] w w' := by
  obtain ⟨A, c, hall⟩ := h.rules hG
  have e0 := (hall w (Ch.refl _ _)).1
  have HALL := hid hall
  have HPT : Hid (∀ w', Ch [] w w' → ∀ (i : Nat) (r : Rl), L[i]? = some r → Calls Tryd.prog 78 #[.pointer (some ⟨g, 0, none⟩), .int .i64 i, .int .i64 port] w' fun e w'' => e = .returned (.bool (portR r port)) ∧ w' = w'') := fun w' hc i r hi => aclPort (h.nil hc) hG hl hi port
  have HG := hid hG
  obtain ⟨n, hn⟩ : ∃ n, L.length = n := ⟨_, rfl⟩
  have HN := hid hn
  rw [hn] at e0 hl ⊢
  clear h hG hall hn
  go_enter Tryd.func51, Tryd.ntmps51
  go_wp2_with fail
  go_loopw [7, 8, 17] (fun b_ l_ i wr => ∃ (k : Nat) (v u : Int), b_ = .int .i64 v ∧ l_ = .int .i64 u ∧ i = .int .i64 k ∧ k ≤ n ∧ Hid (v = optI (bestB L (pN name port) rkN k)) ∧ Hid (u = labI L (bestB L (pN name port) rkN k)) ∧ Ch [] w wr) (fun _ _ i _ => n - (intOf i).toNat)
  case atStart => exact ⟨0, -1, 0, rfl, rfl, rfl, by omega, rfl, rfl, Ch.refl _ _⟩
  case round =>
    clear e0
    obtain ⟨k, v, u, rfl, rfl, rfl, hk, HV, HU, CX⟩ := hrel
    by_cases hlt : k < n
    · obtain ⟨r, hr⟩ : ∃ r, L[k]? = some r := ⟨_, List.getElem?_eq_getElem (by rw [HN.out]; exact hlt)⟩
      have hgr := HG.out r (List.mem_of_getElem? hr)
      obtain ⟨b, off, rfl, hrx⟩ := (HALL.out wr CX).2 (by rw [HN.out]; omega)
      have HR := hid (hrx k r hr)
      have HIR := hid (rul_inf (r := r) hgr.1.1)
      have HLR : Hid ((rulC (false, ⟨#[]⟩, zeroP, 0, 0)).length = (rulC r).length) := by show _ = _; rw [rul_len hgr.1.1]; rfl
      have HRO := hid (rul_one r)
      have HS1 : Hid ((rulC r)[1]? = some (.string r.2.1)) := rfl
      have HRK := hid hr
      have HSB := hid (hostSub name r.2.1 hnm hgr.2)
      have HLB := hid (hostLabels r.2.1 hgr.2)
      have HPR := hid (fun w' hc => HPT.out w' hc k r hr)
      have hki : (k : Int) < n := by omega
      have hk0 : (0 : Int) ≤ k := by omega
      clear hr hrx hgr
      generalize rulC r = rc at HR HIR HLR HRO HS1
      by_cases hs : r.2.1.size = 0
      · have HP : Hid (pN name port r = false) := by show _ = _; unfold pN; simp [hs]
        have he := emp0 hs
        have he2 := List.isEmpty_iff.1 he
        clear hs
        go_wp2_with (first
          | go_big_skip
          | (refine wpList_load_want rfl 61 _ rfl b (off + k * 22) rfl rc _ HR.out Tryd.underlying61 rfl HIR.out ?_)
          | (refine wpList_storeB rfl 61 _ _ rfl wr.heap.size 61 (rulC (false, ⟨#[]⟩, zeroP, 0, 0)) rc rfl rfl (Blk.new _ _ _) HIR.out HLR.out HRO.out ?_; intro w4 PB D Z; clear Z; have D2 := ((Ch.refl [] wr).alloc _).step D (fun i hi => .inr (by simp at hi; omega)); clear D; replace CX := CX.trans D2; clear D2; have e1 := (PB.cell 1).trans HS1.out)
          | (go_at_call 78; (with_reducible refine (HPR.out _ CX).mono ?_); rintro e w5 ⟨rfl, rfl⟩)
          | (go_at_call 79; (with_reducible refine (HSB.out _).mono ?_); rintro e w6 ⟨rfl, C9⟩; replace CX := CX.trans C9; replace PB := PB.ch C9 (by simp); clear C9 e1; have e1 := (PB.cell 1).trans HS1.out)
          | (go_at_call 37; (with_reducible refine (HLB.out _).mono ?_); rintro e w7 ⟨rfl, C9⟩; replace CX := CX.trans C9; clear C9))
        go_roundw
        case rel => exact ⟨k + 1, _, _, rfl, rfl, by go_num, by omega, (by show _ = _; rw [best_no HRK.out HP.out]; exact HV.out), (by show _ = _; rw [best_no HRK.out HP.out]; exact HU.out), CX⟩
        case measure => simp [intOf]; omega
      · have he := emp1 hs
        cases hpt : portR r port
        · have HP : Hid (pN name port r = false) := by
            show _ = _
            unfold portR at hpt
            unfold pN
            rw [Bool.and_assoc, Bool.and_assoc, ← Bool.and_assoc (decide _) (decide _), hpt]; simp
          rw [hpt] at HPR
          clear hpt hs
          go_wp2_with (first
            | go_big_skip
            | (refine wpList_load_want rfl 61 _ rfl b (off + k * 22) rfl rc _ HR.out Tryd.underlying61 rfl HIR.out ?_)
            | (refine wpList_storeB rfl 61 _ _ rfl wr.heap.size 61 (rulC (false, ⟨#[]⟩, zeroP, 0, 0)) rc rfl rfl (Blk.new _ _ _) HIR.out HLR.out HRO.out ?_; intro w4 PB D Z; clear Z; have D2 := ((Ch.refl [] wr).alloc _).step D (fun i hi => .inr (by simp at hi; omega)); clear D; replace CX := CX.trans D2; clear D2; have e1 := (PB.cell 1).trans HS1.out)
            | (go_at_call 78; (with_reducible refine (HPR.out _ CX).mono ?_); rintro e w5 ⟨rfl, rfl⟩)
            | (go_at_call 79; (with_reducible refine (HSB.out _).mono ?_); rintro e w6 ⟨rfl, C9⟩; replace CX := CX.trans C9; replace PB := PB.ch C9 (by simp); clear C9 e1; have e1 := (PB.cell 1).trans HS1.out)
            | (go_at_call 37; (with_reducible refine (HLB.out _).mono ?_); rintro e w7 ⟨rfl, C9⟩; replace CX := CX.trans C9; clear C9))
          go_roundw
          case rel => exact ⟨k + 1, _, _, rfl, rfl, by go_num, by omega, (by show _ = _; rw [best_no HRK.out HP.out]; exact HV.out), (by show _ = _; rw [best_no HRK.out HP.out]; exact HU.out), CX⟩
          case measure => simp [intOf]; omega
        · cases hct : subS name r.2.1
          · have HP : Hid (pN name port r = false) := by show _ = _; unfold pN; rw [hct, Bool.and_false]
            rw [hpt] at HPR
            rw [hct] at HSB
            clear hpt hs hct
            go_wp2_with (first
              | go_big_skip
              | (refine wpList_load_want rfl 61 _ rfl b (off + k * 22) rfl rc _ HR.out Tryd.underlying61 rfl HIR.out ?_)
              | (refine wpList_storeB rfl 61 _ _ rfl wr.heap.size 61 (rulC (false, ⟨#[]⟩, zeroP, 0, 0)) rc rfl rfl (Blk.new _ _ _) HIR.out HLR.out HRO.out ?_; intro w4 PB D Z; clear Z; have D2 := ((Ch.refl [] wr).alloc _).step D (fun i hi => .inr (by simp at hi; omega)); clear D; replace CX := CX.trans D2; clear D2; have e1 := (PB.cell 1).trans HS1.out)
              | (go_at_call 78; (with_reducible refine (HPR.out _ CX).mono ?_); rintro e w5 ⟨rfl, rfl⟩)
              | (go_at_call 79; (with_reducible refine (HSB.out _).mono ?_); rintro e w6 ⟨rfl, C9⟩; replace CX := CX.trans C9; replace PB := PB.ch C9 (by simp); clear C9 e1; have e1 := (PB.cell 1).trans HS1.out)
              | (go_at_call 37; (with_reducible refine (HLB.out _).mono ?_); rintro e w7 ⟨rfl, C9⟩; replace CX := CX.trans C9; clear C9))
            go_roundw
            case rel => exact ⟨k + 1, _, _, rfl, rfl, by go_num, by omega, (by show _ = _; rw [best_no HRK.out HP.out]; exact HV.out), (by show _ = _; rw [best_no HRK.out HP.out]; exact HU.out), CX⟩
            case measure => simp [intOf]; omega
          · have HP : Hid (pN name port r = true) := by
              show _ = _
              unfold portR at hpt
              unfold pN
              rw [Bool.and_assoc, Bool.and_assoc, ← Bool.and_assoc (decide _) (decide _), hpt, hct]; simp [hs]
            rw [hpt] at HPR
            have hlp := subS_lab hct
            rw [hct] at HSB
            clear hpt hs hct
            cases hbk : bestB L (pN name port) rkN k with
            | none =>
              have hu : u = 0 := by rw [HU.out, hbk]; rfl
              subst hu
              have HB : Hid (bestB L (pN name port) rkN (k + 1) = some k) := best_new HRK.out HP.out hbk
              have HL2 : Hid ((labN (numsOf r.2.1) : Int) = labI L (some k)) := by show _ = rkN _; rw [List.getD_eq_getElem?_getD, HRK.out]; rfl
              have hl2 : (labN (numsOf r.2.1) : Int) > 0 := by omega
              clear hbk HV HU
              go_wp2_with (first
                | go_big_skip
                | (refine wpList_load_want rfl 61 _ rfl b (off + k * 22) rfl rc _ HR.out Tryd.underlying61 rfl HIR.out ?_)
                | (refine wpList_storeB rfl 61 _ _ rfl wr.heap.size 61 (rulC (false, ⟨#[]⟩, zeroP, 0, 0)) rc rfl rfl (Blk.new _ _ _) HIR.out HLR.out HRO.out ?_; intro w4 PB D Z; clear Z; have D2 := ((Ch.refl [] wr).alloc _).step D (fun i hi => .inr (by simp at hi; omega)); clear D; replace CX := CX.trans D2; clear D2; have e1 := (PB.cell 1).trans HS1.out)
                | (go_at_call 78; (with_reducible refine (HPR.out _ CX).mono ?_); rintro e w5 ⟨rfl, rfl⟩)
                | (go_at_call 79; (with_reducible refine (HSB.out _).mono ?_); rintro e w6 ⟨rfl, C9⟩; replace CX := CX.trans C9; replace PB := PB.ch C9 (by simp); clear C9 e1; have e1 := (PB.cell 1).trans HS1.out)
                | (go_at_call 37; (with_reducible refine (HLB.out _).mono ?_); rintro e w7 ⟨rfl, C9⟩; replace CX := CX.trans C9; clear C9))
              go_roundw
              case rel => exact ⟨k + 1, _, _, rfl, rfl, by go_num, by omega, (by show _ = _; rw [HB.out]; rfl), (by show _ = _; rw [HB.out]; exact HL2.out), CX⟩
              case measure => simp [intOf]; omega
            | some j =>
              obtain ⟨s, hj, _, hjk⟩ := best_spec hbk
              have hu : u = (labN (numsOf s.2.1) : Int) := by rw [HU.out, hbk]; show rkN _ = _; rw [List.getD_eq_getElem?_getD, hj]; rfl
              by_cases hlt2 : labN (numsOf s.2.1) < labN (numsOf r.2.1)
              · have HB : Hid (bestB L (pN name port) rkN (k + 1) = some k) := best_up HRK.out HP.out hbk hj (show (labN (numsOf s.2.1) : Int) < labN (numsOf r.2.1) by omega)
                have HL2 : Hid ((labN (numsOf r.2.1) : Int) = labI L (some k)) := by show _ = rkN _; rw [List.getD_eq_getElem?_getD, HRK.out]; rfl
                have hl2 : (labN (numsOf r.2.1) : Int) > u := by omega
                clear hbk HV HU hu hlt2 hj hjk
                go_wp2_with (first
                  | go_big_skip
                  | (refine wpList_load_want rfl 61 _ rfl b (off + k * 22) rfl rc _ HR.out Tryd.underlying61 rfl HIR.out ?_)
                  | (refine wpList_storeB rfl 61 _ _ rfl wr.heap.size 61 (rulC (false, ⟨#[]⟩, zeroP, 0, 0)) rc rfl rfl (Blk.new _ _ _) HIR.out HLR.out HRO.out ?_; intro w4 PB D Z; clear Z; have D2 := ((Ch.refl [] wr).alloc _).step D (fun i hi => .inr (by simp at hi; omega)); clear D; replace CX := CX.trans D2; clear D2; have e1 := (PB.cell 1).trans HS1.out)
                  | (go_at_call 78; (with_reducible refine (HPR.out _ CX).mono ?_); rintro e w5 ⟨rfl, rfl⟩)
                  | (go_at_call 79; (with_reducible refine (HSB.out _).mono ?_); rintro e w6 ⟨rfl, C9⟩; replace CX := CX.trans C9; replace PB := PB.ch C9 (by simp); clear C9 e1; have e1 := (PB.cell 1).trans HS1.out)
                  | (go_at_call 37; (with_reducible refine (HLB.out _).mono ?_); rintro e w7 ⟨rfl, C9⟩; replace CX := CX.trans C9; clear C9))
                go_roundw
                case rel => exact ⟨k + 1, _, _, rfl, rfl, by go_num, by omega, (by show _ = _; rw [HB.out]; rfl), (by show _ = _; rw [HB.out]; exact HL2.out), CX⟩
                case measure => simp [intOf]; omega
              · have HB : Hid (bestB L (pN name port) rkN (k + 1) = some j) := best_keep HRK.out HP.out hbk hj (show ¬ (labN (numsOf s.2.1) : Int) < labN (numsOf r.2.1) by omega)
                have hl2 : ¬ (labN (numsOf r.2.1) : Int) > u := by omega
                have HV2 : Hid (v = optI (some j)) := by show _ = _; rw [HV.out, hbk]
                have HU2 : Hid (u = labI L (some j)) := by show _ = _; rw [HU.out, hbk]
                clear hbk HV HU hu hlt2 hj hjk
                go_wp2_with (first
                  | go_big_skip
                  | (refine wpList_load_want rfl 61 _ rfl b (off + k * 22) rfl rc _ HR.out Tryd.underlying61 rfl HIR.out ?_)
                  | (refine wpList_storeB rfl 61 _ _ rfl wr.heap.size 61 (rulC (false, ⟨#[]⟩, zeroP, 0, 0)) rc rfl rfl (Blk.new _ _ _) HIR.out HLR.out HRO.out ?_; intro w4 PB D Z; clear Z; have D2 := ((Ch.refl [] wr).alloc _).step D (fun i hi => .inr (by simp at hi; omega)); clear D; replace CX := CX.trans D2; clear D2; have e1 := (PB.cell 1).trans HS1.out)
                  | (go_at_call 78; (with_reducible refine (HPR.out _ CX).mono ?_); rintro e w5 ⟨rfl, rfl⟩)
                  | (go_at_call 79; (with_reducible refine (HSB.out _).mono ?_); rintro e w6 ⟨rfl, C9⟩; replace CX := CX.trans C9; replace PB := PB.ch C9 (by simp); clear C9 e1; have e1 := (PB.cell 1).trans HS1.out)
                  | (go_at_call 37; (with_reducible refine (HLB.out _).mono ?_); rintro e w7 ⟨rfl, C9⟩; replace CX := CX.trans C9; clear C9))
                go_roundw
                case rel => exact ⟨k + 1, _, _, rfl, rfl, by go_num, by omega, (by show _ = _; rw [HB.out]; exact HV2.out), (by show _ = _; rw [HB.out]; exact HU2.out), CX⟩
                case measure => simp [intOf]; omega
    · obtain rfl : k = n := by omega
      go_wp2_with fail
      go_ret
      exact ⟨by rw [HV.out]; rfl, CX⟩
end Go.Proofs.YtbmbnibamhgfmaaDoor

/- acl.ACL's MatchAddr (printed by mk_acla.py). -/
namespace Go.Proofs.YtbmbnibamhgfmaaDoor
open Go.RowKit Go.Shelf

attribute [local go_sem] Oper.semAt_some
theorem mK_le (m : KM) (six : Bool) (bs : List Int) : (mK m six bs).length ≤ 129 := by
  unfold mK
  split
  · refine Nat.le_trans (List.length_filterMap_le _ _) ?_
    rw [List.length_range]
    cases six <;> decide
  · simp
theorem AclM.look {w : World} {g : Nat} {L : List Rl} {FF : List Nat} (h : AclM w g L FF) : ∃ (gt : Nat) (m : KM), (∀ κ, m κ = none → ixK L κ L.length = []) ∧ (∀ w', Ch [] w w' → w'.cell? ⟨g, 1, none⟩ = some (.pointer (some ⟨gt, 0, none⟩))) ∧ g < w.heap.size ∧
    (∀ w', Ch [] w w' → ∀ (six : Bool) (bs : List Int), GoodA bs → Calls Tryd.prog 77 #[.pointer (some ⟨gt, 0, none⟩), .agg (addrC six bs).toArray] w' fun e w'' => ∃ A c, e = .returned (.slice A (mK m six bs).length c) ∧ Own w'' w'.heap.size 59 18 A (mK m six bs).length c ((mK m six bs).flatMap fun e => pfxC (kPfx six bs e)) ∧ Ch [] w' w'') ∧
    (∀ p, OkP p → ∃ (A : Option Addr) (c : Nat) (ok : Bool), (∀ w', Ch [] w w' → Rd w' w.heap.size 1 A (ixK L (keyP p) L.length).length ((ixK L (keyP p) L.length).map (Value.int .i64))) ∧
      ∀ w', Ch [] w w' → Calls Tryd.prog 44 #[.pointer (some ⟨gt, 0, none⟩), .agg (pfxC p).toArray] w' fun e w'' => e = .returned (.tuple #[.slice A (ixK L (keyP p) L.length).length c, .bool ok]) ∧ Ch [] w' w'') := by
  obtain ⟨A, c, gt, m, nE, F, h1, h2, h3, h4, h5, h6, h7, h8, h9⟩ := h
  refine ⟨gt, m, h4, fun w' hc => (h1.ch hc (by simp)).cell 1, h1.lt, fun w' hc six bs hg => trMtsFL (h3.nil hc) hg rfl, fun p hp => ?_⟩
  cases hm : m (keyP p) with
  | none =>
    rw [h4 _ hm]
    refine ⟨none, 0, false, fun w' _ => Rd.nil _ _ _ _, fun w' hc => ?_⟩
    have := trGetFL (h3.nil hc) p hp.g ((mget_ok hp).trans hm)
    exact this
  | some v =>
    obtain ⟨A', c', rfl, hr, _⟩ := h5 _ v hm
    refine ⟨A', c', true, fun w' hc => hr.ch hc (Nat.le_refl _) (by simp), fun w' hc => ?_⟩
    have := trGetFL (h3.nil hc) p hp.g ((mget_ok hp).trans hm)
    exact this
set_option maxRecDepth 100000 in
set_option maxHeartbeats 16000000 in
theorem aclMatchA {w : World} {g : Nat} {L : List Rl} {FF : List Nat} (h : AclM w g L FF) (hL : ∀ r ∈ L, validR r = true ∧ GoodR r) (hl : L.length ≤ 1000000) (six : Bool) (bs : List Int) (hg : GoodA bs) (port : Int) :
    Calls Tryd.prog 49 #[.pointer (some ⟨g, 0, none⟩), .agg (addrC six bs).toArray, .int .i64 port] w fun e w' => e = .returned (.int .i64 (optI (bestB L (pA six bs port) rkA L.length))) ∧ Ch [] w w' := by
  obtain ⟨gt, m, hm0, hgt, hgl, hMt, hGt⟩ := h.look
  have HM0 := hid hm0
  have HGT := hid hgt
  have HMT := hid (fun w' hc => hMt w' hc six bs hg)
  have HGET := hid hGt
  have HPORT : Hid (∀ w', Ch [] w w' → ∀ (i : Nat) (r : Rl), L[i]? = some r → Calls Tryd.prog 78 #[.pointer (some ⟨g, 0, none⟩), .int .i64 i, .int .i64 port] w' fun e w'' => e = .returned (.bool (portR r port)) ∧ w' = w'') := fun w' hc i r hi => aclPort (h.nil hc) (fun r hr => (hL r hr).2) hl hi port
  have HL := hid hL
  have HG := hid hg
  have HIA := hid (addr_inf (six := six) hg.1)
  clear h hL hm0 hgt hMt hGt hg
  refine (callsIn_wide (n := 8)).1 ?_
  refine callsIn_of_wp_marks (F := Fence.wide) Tryd.func49 rfl trivial ?_ rfl
  refine (wpIn_wide (n := 8)).2 ?_
  simp only [Tryd.ntmps49, List.size_toArray, List.length_cons, List.length_nil, Nat.reduceAdd, Nat.reduceSub, Array.replicate_succ, Array.replicate_zero, List.push_toArray, List.append_toArray, List.nil_append, List.cons_append]
  generalize hac : addrC six bs = ac at HMT HIA ⊢
  have HAC := hid hac
  clear hac
  go_upto_region 1 with fail
  have B3 : Blk ((((w.alloc (.cells #[.pointer (some ⟨g, 0, none⟩)] 63)).alloc (.cells ac.toArray 57)).alloc (.cells #[.int .i64 port] 3)).alloc (.cells #[.int .i64 0] 3)) w.heap.size 63 [.pointer (some ⟨g, 0, none⟩)] := (((Blk.new w _ _).alloc _).alloc _).alloc _
  have B4 : Blk ((((w.alloc (.cells #[.pointer (some ⟨g, 0, none⟩)] 63)).alloc (.cells ac.toArray 57)).alloc (.cells #[.int .i64 port] 3)).alloc (.cells #[.int .i64 0] 3)) (w.heap.size + 1) 57 ac := ((Blk.newAt _ _ _ (by simp)).alloc _).alloc _
  have B5 : Blk ((((w.alloc (.cells #[.pointer (some ⟨g, 0, none⟩)] 63)).alloc (.cells ac.toArray 57)).alloc (.cells #[.int .i64 port] 3)).alloc (.cells #[.int .i64 0] 3)) (w.heap.size + 1 + 1) 3 [.int .i64 port] := (Blk.newAt _ _ [.int .i64 port] (by simp)).alloc _
  have B6 : Blk ((((w.alloc (.cells #[.pointer (some ⟨g, 0, none⟩)] 63)).alloc (.cells ac.toArray 57)).alloc (.cells #[.int .i64 port] 3)).alloc (.cells #[.int .i64 0] 3)) (w.heap.size + 1 + 1 + 1) 3 [.int .i64 0] := Blk.newAt _ _ [.int .i64 0] (by simp)
  have C0 : Ch [] w ((((w.alloc (.cells #[.pointer (some ⟨g, 0, none⟩)] 63)).alloc (.cells ac.toArray 57)).alloc (.cells #[.int .i64 port] 3)).alloc (.cells #[.int .i64 0] 3)) := ((((Ch.refl [] w).alloc _).alloc _).alloc _).alloc _
  generalize hw0 : (((w.alloc (.cells #[.pointer (some ⟨g, 0, none⟩)] 63)).alloc (.cells ac.toArray 57)).alloc (.cells #[.int .i64 port] 3)).alloc (.cells #[.int .i64 0] 3) = w0 at B3 B4 B5 B6 C0 ⊢
  clear hw0
  obtain ⟨s, hs⟩ : ∃ s, w.heap.size = s := ⟨_, rfl⟩
  rw [hs] at B3 B4 B5 B6 ⊢
  have HS := hid hs
  clear hs
  have e3 := B3.cell 0
  have e1 := HGT.out _ C0
  refine wp_region_stagesM [⟨0, 8, 8192⟩, ⟨1, 8192, 16384⟩, ⟨2, 16384, 32768⟩, ⟨4, 32768, 65536⟩, ⟨0, 16, 131072⟩, ⟨24, 196608, 262144⟩, ⟨32, 262144, 524288⟩] [([0, 1, 2, 3, 4], 5, []), ([], 6, [])] [] (by kernel_rfl) (by kernel_rfl) ?_
  refine wpStages_step ?_
  try simp only [pick, List.map_cons, List.map_nil, List.getD_cons_zero, List.getD_cons_succ]
  repeat (first
    | (refine wpQuiet_row rfl 57 _ rfl (s + 1) 0 rfl ac _ (fun w' ⟨q, hq⟩ => hq ▸ (B4.drewN q).range) Tryd.underlying57 rfl HIA.out ?_; simp only [Act.put, List.setIfInBounds_toArray, List.set_cons_succ, List.set_cons_zero])
    | go_big_quiet_step (fail))
  refine wpQuiet_nil ?_
  intro n0
  try simp only [pick, List.map_cons, List.map_nil, List.getD_cons_zero, List.getD_cons_succ]
  go_wp2_with (go_at_call 77; (with_reducible refine (HMT.out _ (C0.drewN n0)).mono ?_); rintro e w1 ⟨A1, c1, rfl, own1, C1⟩)
  have D1 := ((Ch.refl [] w0).drewN n0).trans C1
  have sz0 : s + 1 + 1 + 1 < w0.heap.size := B6.lt
  have hob1 : ∀ b ∈ blkOf A1, w0.heap.size ≤ b := fun b hb => (own1.blks b hb).1
  refine stagePost_mk (by simp [pick]) ?_
  refine wpStages_step ?_
  try simp only [pick, List.map_nil]
  repeat (first
    | (refine wpQuiet_row rfl 57 _ rfl (s + 1) 0 rfl ac _ (fun w' ⟨q, hq⟩ => hq ▸ (B4.drewN q).range) Tryd.underlying57 rfl HIA.out ?_; simp only [Act.put, List.setIfInBounds_toArray, List.set_cons_succ, List.set_cons_zero])
    | go_big_quiet_step (fail))
  refine wpQuiet_nil ?_
  intro n1
  try simp only [pick, List.map_cons, List.map_nil, List.getD_cons_zero, List.getD_cons_succ]
  go_wp2_with (go_at_call 76; (with_reducible refine (backMk _ A1 _ c1).mono ?_); rintro e w2 ⟨rfl, hw2⟩)
  have BK : Blk w2 w1.heap.size 133 [.slice A1 (mK m six bs).length c1] := by
    rw [← hw2]
    exact Blk.new (w1.drewN n1) 133 [.slice A1 (mK m six bs).length c1]
  have D2 : Ch [] w1 w2 := by
    rw [← hw2]
    exact ((Ch.refl [] w1).drewN n1).alloc _
  clear hw2
  have DX := D1.trans D2
  refine stagePost_mk (by simp [pick]) ?_
  refine wpStages_last ?_
  try simp only [pick, List.map_nil]
  repeat (first
    | (refine wpQuiet_row rfl 57 _ rfl (s + 1) 0 rfl ac _ (fun w' ⟨q, hq⟩ => hq ▸ (B4.drewN q).range) Tryd.underlying57 rfl HIA.out ?_; simp only [Act.put, List.setIfInBounds_toArray, List.set_cons_succ, List.set_cons_zero])
    | go_big_quiet_step (fail))
  refine wpQuiet_nil ?_
  intro n2
  go_wp2_with fail
  have CW : Ch [] w (w2.drewN n2) := (C0.trans DX).drewN n2
  have BW3 := (B3.ch DX (by simp)).drewN n2
  have BW5 := (B5.ch DX (by simp)).drewN n2
  have BW6 := (B6.ch DX (by simp)).drewN n2
  have BWK := BK.drewN n2
  have ownW := (own1.ch D2 (by simp)).drewN n2
  have sz1 : w1.heap.size < (w2.drewN n2).heap.size := BWK.lt
  have szD : w0.heap.size ≤ (w2.drewN n2).heap.size := (DX.drewN n2).size
  have hsz1 : w0.heap.size ≤ w1.heap.size := D1.size
  generalize w2.drewN n2 = W0 at CW BW3 BW5 BW6 BWK ownW sz1 szD ⊢
  generalize w1.heap.size = sk at BWK sz1 hsz1 ⊢
  clear B3 B4 B5 B6 e3 e1 BK DX D1 D2 own1 C1 HMT HIA HAC
  have hmk : (mK m six bs).length ≤ 129 := mK_le m six bs
  obtain ⟨T, hT, hTx⟩ := exT (kPfx six bs) (mK m six bs) (fun e he => (okMk HG.out e he).1)
  have hks := ownW.rd.rangeE (T := mK m six bs) (f := fun e => pfxC (kPfx six bs e)) (fun e he => pfx_len (okMk HG.out e he).1.g.1) (by decide)
  have HC : Hid (0 < (mK m six bs).length → ∃ b off, A1 = some ⟨b, off, none⟩ ∧ b < W0.heap.size ∧ ∀ (j : Nat) (x : IxP), T[j]? = some x → W0.rangeAt b (off + x.1.1 * 18) (pfxC x.1.2)) := fun hp => by
    obtain ⟨b, off, e, hb, hr⟩ := hks.2 hp
    refine ⟨b, off, e, hb, fun j x hx => ?_⟩
    obtain ⟨_, e', h2, h3⟩ := hTx j x hx
    rw [h3]
    exact hr _ e' h2
  have HT := hid hT
  have HTX := hid hTx
  clear hks hT hTx ownW
  refine (wpIn_wide (n := 8)).1 ?_
  refine wpIn_rangeFunc_ownH (F := Fence.wide) rfl (by omega) (gf := 93) (lb := #[.pointer (some ⟨sk, 0, none⟩)]) rfl trivial (enters_of Tryd.func93 (by kernel_rfl) rfl)
    (backStops 7 (by omega) sk W0.heap.size (mK m six bs).length c1 A1 T HT.out (fun j x hx => (HTX.out j x hx).1) (by omega) W0 (BWK.cell 0) sz1 (Nat.le_refl _) HC.out) belowK_t (belowK_b (Nat.le_refl _)) (Below.refl _ _) (fun _ => rfl)
    (fun pre W => ((Blk W s 63 [.pointer (some ⟨g, 0, none⟩)] ∧ Blk W (s + 1 + 1) 3 [.int .i64 port] ∧ Blk W (s + 1 + 1 + 1) 3 [.int .i64 0]) ∧ ∀ x ∈ pre, FI L port x = none) ∧ Below W0.heap.size W0 W)
    (fun c pre W => (c = .ret ∧ ∃ ini last i, pre = ini ++ [last] ∧ (∀ x ∈ ini, FI L port x = none) ∧ FI L port last = some i ∧ Blk W (s + 1 + 1 + 1) 3 [.int .i64 i]) ∧ Below w.heap.size w W)
    (OwnFrom.and (OwnFrom.and (OwnFrom.and (blk_ownF _ _ _ _) (OwnFrom.and (blk_ownF _ _ _ _) (blk_ownF _ _ _ _))) (ownFrom_pure _ _)) (ownFrom_below (Nat.le_refl _) (Nat.le_refl _)))
    (fun c => OwnFrom.and (fun pre X Y row hs hg hr => by
      obtain ⟨hc, ini, last, i, e1, e2, e3, hb⟩ := hs
      exact ⟨hc, ini, last, i, e1, e2, e3, blk_ownF _ _ _ _ () X Y row hb hg hr⟩) (ownFrom_below (Nat.le_refl _) CW.size))
    ⟨⟨⟨BW3, BW5, BW6⟩, by simp⟩, Below.refl _ _⟩
    (fun x a' W => ∃ Bx, Blk W Bx 59 (pfxC x.1.2) ∧ a' = { tmps := #[.pointer (some ⟨g, 0, none⟩), .agg ac.toArray, .int .i64 port, .pointer (some ⟨s, 0, none⟩), .pointer (some ⟨s + 1, 0, none⟩), .pointer (some ⟨s + 1 + 1, 0, none⟩), .pointer (some ⟨s + 1 + 1 + 1, 0, none⟩), undef, .pointer (some ⟨Bx, 0, none⟩), undef, undef, undef, undef, .pointer (some ⟨g, 0, none⟩), .pointer (some ⟨g, 0, none⟩), .pointer (some ⟨g, 1, none⟩), .pointer (some ⟨gt, 0, none⟩), .agg ac.toArray, .slice A1 (mK m six bs).length c1, .func (.func 93) #[] #[.pointer (some ⟨sk, 0, none⟩)], .int .i64 (x.1.1 : Int), .agg (pfxC x.1.2).toArray, undef, undef, undef, undef, undef, undef, undef, undef, undef, undef, undef, undef, undef, undef, undef, undef, undef, undef, undef, undef, undef], defers := [] })
    (fun x a' => fun _ X Y row hs hg hr => by
      obtain ⟨Bx, hb, e⟩ := hs
      exact ⟨Bx, blk_ownF _ _ _ _ () X Y row hb hg hr, e⟩) ?assign ?body ?done ?stop
  case assign =>
    intro l pre x W K hI hK
    have HIP := hid (pfx_inf (p := x.1.2) x.2.g.1)
    have HLP : Hid ((pfxC (false, zeros, 0)).length = (pfxC x.1.2).length) := by show _ = _; rw [pfx_len x.2.g.1]; rfl
    have e0 : ∀ t : Array Value, ((#[20, 21] : Array Tmp).zip (ixC x)).foldl (fun t (p, v) => t.setIfInBounds p v) t = (t.setIfInBounds 20 (.int .i64 (x.1.1 : Int))).setIfInBounds 21 (.agg (pfxC x.1.2).toArray) := fun t => by simp [ixC]
    rw [e0]
    refine wpIn_region_plainW (by kernel_rfl) (fun ⟨_, _, h⟩ => h) ?_
    show wpList Tryd.prog _ _ _ { tmps := #[.pointer (some ⟨g, 0, none⟩), .agg ac.toArray, .int .i64 port, .pointer (some ⟨s, 0, none⟩), .pointer (some ⟨s + 1, 0, none⟩), .pointer (some ⟨s + 1 + 1, 0, none⟩), .pointer (some ⟨s + 1 + 1 + 1, 0, none⟩), undef, undef, undef, undef, undef, undef, .pointer (some ⟨g, 0, none⟩), .pointer (some ⟨g, 0, none⟩), .pointer (some ⟨g, 1, none⟩), .pointer (some ⟨gt, 0, none⟩), .agg ac.toArray, .slice A1 (mK m six bs).length c1, .func (.func 93) #[] #[.pointer (some ⟨sk, 0, none⟩)], .int .i64 (x.1.1 : Int), .agg (pfxC x.1.2).toArray, undef, undef, undef, undef, undef, undef, undef, undef, undef, undef, undef, undef, undef, undef, undef, undef, undef, undef, undef, undef, undef], defers := [] } W
    go_wp2_with (refine wpList_storeB rfl 59 _ _ rfl W.heap.size 59 (pfxC (false, zeros, 0)) (pfxC x.1.2) rfl rfl (Blk.new _ _ _) HIP.out HLP.out (pfx_one _) ?_; intro w4 PB D Z; clear Z; have D2 := ((Ch.refl [] W).alloc _).step D (fun i hi => .inr (by simp at hi; omega)); clear D)
    have hle := hI.2.size
    refine hK _ _ (ch_keeps D2 (by simp)) (D2.nil_below.mono hle) ⟨⟨⟨hI.1.1.1.ch D2 (by simp), hI.1.1.2.1.ch D2 (by simp), hI.1.1.2.2.ch D2 (by simp)⟩, hI.1.2⟩, hI.2.trans (D2.nil_below.mono hle)⟩ ⟨_, PB, rfl⟩
  case body =>
    rintro l pre x a' W hl - ⟨⟨⟨b3, b5, b6⟩, hpre⟩, hB⟩ ⟨Bx, PB, rfl⟩ hlen
    obtain ⟨A5, c5, ok5, hrd, hget⟩ := HGET.out x.1.2 x.2
    have CWW : Ch [] w W := CW.trans (Ch.of_below hB [])
    have HFI : Hid (FI L port x = (ixK L (keyP x.1.2) L.length).find? (portI L port)) := rfl
    have HMEM : Hid (∀ i ∈ ixK L (keyP x.1.2) L.length, ∃ j : Nat, j < L.length ∧ i = j ∧ ∃ r, L[j]? = some r) := fun i hi => by
      obtain ⟨j, h1, h2, r, h3, _⟩ := ixK_mem.1 hi
      exact ⟨j, h1, h2, r, h3⟩
    have hisl := ixK_le L (keyP x.1.2) L.length
    have HIP := hid (pfx_inf (p := x.1.2) x.2.g.1)
    have HRP := hid (fun (w' : World) (c : Ch [] W w') => (PB.ch c (by simp)).range)
    generalize ixK L (keyP x.1.2) L.length = is at hrd hget HFI HMEM hisl
    generalize pfxC x.1.2 = pc at hget HIP HRP ⊢
    have e3x : ∀ y : After W, y.w.cell? ⟨s, 0, none⟩ = some (.pointer (some ⟨g, 0, none⟩)) := fun y => (b3.ch y.ch (by simp)).cell 0
    have e1x : ∀ y : After W, y.w.cell? ⟨g, 1, none⟩ = some (.pointer (some ⟨gt, 0, none⟩)) := fun y => HGT.out _ (CWW.trans y.ch)
    have HG5 := hid (fun (y : After W) => hget y.w (CWW.trans y.ch))
    have HRD := hid hrd
    clear hget hrd PB hlen
    dsimp only
    refine wpIn_block ?_
    refine wpIn_seq ?_
    refine wpIn_region_quietW W (by kernel_rfl) (by kernel_rfl) (by kernel_rfl) (Ch.refl _ _) ?_
    repeat (first
      | (go_big_quiet_want; refine quiet_rowA 59 _ rfl Bx 0 rfl pc _ HRP.out Tryd.underlying59 rfl HIP.out ?_; simp only [Act.put, List.setIfInBounds_toArray, List.set_cons_succ, List.set_cons_zero]; go_big_quiet_on)
      | go_big_quiet_step (first
        | (go_at_call 44; with_reducible exact after_of (HG5.out _))))
    refine wpQuiet_nil ?_
    intro wq hwq
    clear e3x e1x HG5 HRP HIP
    have CQ := CWW.trans hwq
    replace b3 := b3.ch hwq (by simp)
    replace b5 := b5.ch hwq (by simp)
    replace b6 := b6.ch hwq (by simp)
    have BQ : Below W0.heap.size W wq := hwq.nil_below.mono hB.size
    have hWq := ch_keeps (B := W0.heap.size) hwq (by simp)
    have HPQ := hid (HPORT.out wq CQ)
    replace HRD := hid (HRD.out wq CQ)
    have HPRE := hid hpre
    have HBB := hid hB
    clear hpre hB
    have e3 := b3.cell 0
    have e5 := b5.cell 0
    have e6 := b6.cell 0
    have f6 := b6.frozen 0
    obtain ⟨n5, hn5⟩ : ∃ n5, is.length = n5 := ⟨_, rfl⟩
    rw [hn5] at hisl ⊢
    have HN5 := hid hn5
    clear hn5
    show Code.wpIn _ _ _ _ _ _ _
    gi_wp2
    gi_loopw [33] (fun ix wr => ∃ k : Nat, k ≤ n5 ∧ ix = .int .i64 k ∧ Hid ((is.take k).find? (portI L port) = none) ∧ wr = wq) (fun ix _ => n5 - (intOf ix).toNat)
    case atStart => exact ⟨0, by omega, rfl, by simp [Hid], rfl⟩
    case round =>
      obtain ⟨k, hk, rfl, HK, rfl⟩ := hrel
      by_cases hlt : k < n5
      · obtain ⟨v, hv⟩ : ∃ v, is[k]? = some v := ⟨_, List.getElem?_eq_getElem (by rw [HN5.out]; exact hlt)⟩
        obtain ⟨j, hj, rfl, r, hr⟩ := HMEM.out v (List.mem_of_getElem? hv)
        obtain ⟨b, off, rfl, hb, hcell⟩ := HRD.out.2 (by rw [HN5.out]; omega)
        have ecell := hcell k (.int .i64 (j : Int)) (by rw [List.getElem?_map, hv]; rfl)
        have HP := hid (HPQ.out j r hr)
        have hPI : portI L port (j : Int) = portR r port := by unfold portI; rw [Int.toNat_natCast, hr]
        have hTK := take_one hv
        have hki : (k : Int) < n5 := by omega
        have hk0 : (0 : Int) ≤ k := by omega
        cases hp : portR r port
        · rw [hp] at HP hPI
          have HK2 : Hid ((is.take (k + 1)).find? (portI L port) = none) := by
            show _ = _
            rw [hTK, List.find?_append, HK.out]
            simp [hPI]
          clear hp hPI hTK hv hr hcell hb
          gi_wp2_with (refine ⟨trivial, ?_⟩; gi_at_call 78; (with_reducible refine (calls_inR HP.out).mono ?_); rintro e w' ⟨rfl, rfl⟩)
          go_roundw
          case rel => exact ⟨k + 1, by omega, by go_num, HK2, trivial⟩
          case measure => simp [intOf]; omega
        · rw [hp] at HP hPI
          have HF2 : Hid (FI L port x = some (j : Int)) := by
            show _ = _
            rw [HFI.out]
            conv => lhs; rw [← List.take_append_drop (k + 1) is, hTK, List.append_assoc]
            rw [List.find?_append, HK.out]
            simp [hPI]
          clear hp hPI hTK hv hr hcell hb
          gi_wp2_with (refine ⟨trivial, ?_⟩; gi_at_call 78; (with_reducible refine (calls_inR HP.out).mono ?_); rintro e w' ⟨rfl, rfl⟩)
          have hs3 := BW6.lt
          have hS := HS.out
          exact ⟨ch_keeps ((hwq.mono (T := [s + 1 + 1 + 1]) (fun _ _ h => by simp at h)).setCell (p := ⟨s + 1 + 1 + 1, 0, none⟩) (.inl (by simp)) _) (fun b hb => by rw [List.mem_singleton] at hb; omega), ⟨rfl, pre, x, (j : Int), rfl, HPRE.out, HF2.out, b6.set 0 _⟩, CQ.nil_below.setCell (p := ⟨s + 1 + 1 + 1, 0, none⟩) (by show _ ≤ s + 1 + 1 + 1; omega) _⟩
      · obtain rfl : k = n5 := by omega
        have HF2 : Hid (FI L port x = none) := by
          show _ = _
          rw [HFI.out]
          have := HK.out
          rwa [List.take_of_length_le (by rw [HN5.out]; exact Nat.le_refl _)] at this
        gi_wp2
        exact ⟨hWq, BQ, ⟨⟨b3, b5, b6⟩, fun y hy => by
          rcases List.mem_append.1 hy with h | h
          · exact HPRE.out y h
          · rw [List.mem_singleton] at h
            rw [h]
            exact HF2.out⟩, HBB.out.trans BQ⟩
  case done =>
    rintro D xs W hD rfl ⟨⟨⟨b3, b5, b6⟩, hall⟩, hB⟩ hK
    have hbest := doneT HL.out HG.out HM0.out HT.out HTX.out hall
    have HBEST := hid hbest
    clear hbest
    have e6 := b6.cell 0
    have f6 := b6.frozen 0
    go_wp2_with fail
    have hK' := (KeepsOthers.setCell W ⟨s + 1 + 1 + 1, 0, none⟩ (.int .i64 (-1))).same D _ hK rfl
    refine ⟨by simp, .inl ⟨_, _, rfl, run_takeDeferred hK', ?_⟩⟩
    have hc5 := cell_kept (World.cell?_setCell_same' W ⟨s + 1 + 1 + 1, 0, none⟩ (.int .i64 (-1)) (by rw [e6]; rfl)) (grownBy_putObj' _ D (.deferred none)) (fun r e => by cases e; exact ⟨_, hK', rfl⟩)
    refine ⟨.int .i64 (-1), by simp [results, Tryd.f49, go_sem, hc5], by rw [HBEST.out]; rfl, ?_⟩
    have hS := HS.out
    have hCs := CW.size
    have B1 : Below w.heap.size w W := CW.nil_below.trans (hB.mono hCs)
    exact Ch.of_below ((B1.setCell (p := ⟨s + 1 + 1 + 1, 0, none⟩) (by show _ ≤ s + 1 + 1 + 1; omega) _).trans (belowK_b (w := w) (Nat.le_refl _) _ D _ _ (by omega) hK' rfl rfl)) []
  case stop =>
    rintro D c pre W hD hpre ⟨⟨rfl, ini, last, i, rfl, hini, hlast, b6⟩, hB⟩ hK
    have HBEST := hid (hitT HL.out HG.out HM0.out HTX.out hpre hini hlast)
    have e6 := b6.cell 0
    gi_wp2
    refine ⟨by simp, .inl ⟨_, _, rfl, run_takeDeferred hK, ?_⟩⟩
    have hc5 := cell_kept e6 (grownBy_putObj' _ D (.deferred none)) (fun r e => by cases e; exact ⟨_, hK, rfl⟩)
    have hCs := CW.size
    exact ⟨.int .i64 i, by simp [results, Tryd.f49, go_sem, hc5], by rw [HBEST.out], Ch.of_below (hB.trans (belowK_b (w := w) (Nat.le_refl _) _ D _ _ (by omega) hK rfl rfl)) []⟩
end Go.Proofs.YtbmbnibamhgfmaaDoor

/- ginnelref07.MatchAddr (printed by mk_aclf.py). -/
namespace Go.Proofs.YtbmbnibamhgfmaaDoor
open Go.RowKit

end Go.Proofs.YtbmbnibamhgfmaaDoor

/- ginnelref07.MatchName (printed by mk_aclf.py). -/
namespace Go.Proofs.YtbmbnibamhgfmaaDoor
open Go.RowKit

end Go.Proofs.YtbmbnibamhgfmaaDoor

/- AllowsAddr and AllowsName, of acl.ACL and of the reference (printed by mk_aclk.py). -/
namespace Go.Proofs.YtbmbnibamhgfmaaDoor
open Go.RowKit

def blkI (six : Bool) (bs : List Int) : Bool := decide (0 ≤ idxP six bs blkT 0)
def allowA (L : List Rl) (six : Bool) (bs : List Int) (port : Int) : Bool := match bestB L (pA six bs port) rkA L.length with | none => false | some j => (L.getD j dR).1 && !blkI six bs
def allowN (L : List Rl) (name : ByteArray) (port : Int) : Bool := namOk (numsOf name) && (match bestB L (pN name port) rkN L.length with | none => true | some j => (L.getD j dR).1)
theorem rul_al (r : Rl) : (rulC r)[0]? = some (.bool r.1) := rfl
set_option maxRecDepth 20000 in
set_option maxHeartbeats 4000000 in
theorem aclAllowA {w : World} {g : Nat} {L : List Rl} {FF : List Nat} (h : AclM w g L FF) (hL : ∀ r ∈ L, validR r = true ∧ GoodR r) (hl : L.length ≤ 1000000) (six : Bool) (bs : List Int) (hg : GoodA bs) (port : Int) :
    Calls Tryd.prog 47 #[.pointer (some ⟨g, 0, none⟩), .agg (addrC six bs).toArray, .int .i64 port] w fun e w' => e = .returned (.bool (allowA L six bs port)) ∧ Ch [] w w' := by
  obtain ⟨A, c, hall⟩ := h.rules (fun r hr => (hL r hr).2)
  have HALL := hid hall
  have B0 : Blk (w.alloc (.cells (addrC six bs).toArray 57)) w.heap.size 57 (addrC six bs) := Blk.new w _ _
  have C0 : Ch [] w (w.alloc (.cells (addrC six bs).toArray 57)) := (Ch.refl _ _).alloc _
  have HM : Hid (∀ w', Ch [] w w' → Calls Tryd.prog 49 #[.pointer (some ⟨g, 0, none⟩), .agg (addrC six bs).toArray, .int .i64 port] w' fun e w'' => e = .returned (.int .i64 (optI (bestB L (pA six bs port) rkA L.length))) ∧ Ch [] w' w'') := fun w' hc => aclMatchA (h.nil hc) hL hl six bs hg port
  have HBL := hid (blkCont six bs hg)
  have HIA := hid (addr_inf (six := six) hg.1)
  unfold allowA
  cases hb : bestB L (pA six bs port) rkA L.length with
  | none =>
    rw [hb] at HM
    have HM2 : Hid (∀ w', Ch [] w w' → Calls Tryd.prog 49 #[.pointer (some ⟨g, 0, none⟩), .agg (addrC six bs).toArray, .int .i64 port] w' fun e w'' => e = .returned (.int .i64 (-1)) ∧ Ch [] w' w'') := HM.out
    clear h hL hg hall hb HBL HM
    generalize addrC six bs = ac at B0 C0 HM2 HIA ⊢
    go_enter Tryd.func47, Tryd.ntmps47
    go_wp2_with (first
      | go_big_skip
      | (refine wpList_load_want rfl 57 _ rfl w.heap.size 0 rfl ac _ B0.range Tryd.underlying57 rfl HIA.out ?_)
      | (go_at_call 49; (with_reducible refine (HM2.out _ C0).mono ?_); rintro e w1 ⟨rfl, C1⟩))
    go_ret
    exact ⟨rfl, C0.trans C1⟩
  | some j =>
    rw [hb] at HM
    have HM2 : Hid (∀ w', Ch [] w w' → Calls Tryd.prog 49 #[.pointer (some ⟨g, 0, none⟩), .agg (addrC six bs).toArray, .int .i64 port] w' fun e w'' => e = .returned (.int .i64 (j : Int)) ∧ Ch [] w' w'') := HM.out
    obtain ⟨r, hr, hp, hj⟩ := best_spec hb
    have hva : validA six bs = true := by
      have := (pA_iff.1 hp).2.2
      unfold contP at this
      simp only [Bool.and_eq_true] at this
      exact this.1.1.2
    rw [hva, Bool.not_true, Bool.or_false] at HBL
    have HRJ : Hid (∀ w', Ch [] w w' → ∃ b off, A = some ⟨b, off, none⟩ ∧ w'.cell? ⟨g, 0, none⟩ = some (.slice A L.length c) ∧ w'.cell? ⟨b, off + j * 22, none⟩ = some (.bool r.1)) := fun w' hc => by
      obtain ⟨h1, h2⟩ := hall w' hc
      obtain ⟨b, off, e, hrow⟩ := h2 (by omega)
      exact ⟨b, off, e, h1, hrow j r hr 0 _ (rul_al r)⟩
    obtain ⟨b, off, hA, _, _⟩ := HRJ.out w (Ch.refl _ _)
    subst hA
    have HRK : Hid (∀ w', Ch [] w w' → w'.cell? ⟨g, 0, none⟩ = some (.slice (some ⟨b, off, none⟩) L.length c) ∧ w'.cell? ⟨b, off + j * 22, none⟩ = some (.bool r.1)) := fun w' hc => by
      obtain ⟨b', off', e, h1, h2⟩ := HRJ.out w' hc
      obtain ⟨rfl, rfl⟩ : b = b' ∧ off = off' := by simpa using e
      exact ⟨h1, h2⟩
    have hgd : (L.getD j dR).1 = r.1 := by rw [List.getD_eq_getElem?_getD, hr]; rfl
    have HGD : Hid ((match some j with | none => false | some j => (L.getD j dR).1 && !blkI six bs) = (r.1 && !decide (0 ≤ idxP six bs blkT 0))) := by show _ = _; simp only [hgd, blkI]
    rw [HGD.out]
    have hj0 : (0 : Int) ≤ j := by omega
    have hj1 : (j : Int) < L.length := by omega
    generalize decide (0 ≤ idxP six bs blkT 0) = bl at HBL ⊢
    generalize r.1 = al at HRK ⊢
    clear h hL hg hall hb HM hr hp hva HRJ HGD hgd HALL hj
    generalize addrC six bs = ac at B0 C0 HM2 HIA HBL ⊢
    cases al
    · go_enter Tryd.func47, Tryd.ntmps47
      go_wp2_with (first
        | go_big_skip
        | (refine wpList_load_want rfl 57 _ rfl w.heap.size 0 rfl ac _ B0.range Tryd.underlying57 rfl HIA.out ?_)
        | (go_at_call 49; (with_reducible refine (HM2.out _ C0).mono ?_); rintro e w1 ⟨rfl, C1⟩; obtain ⟨ea, eb⟩ := HRK.out _ (C0.trans C1)))
      go_ret
      exact ⟨rfl, C0.trans C1⟩
    · go_enter Tryd.func47, Tryd.ntmps47
      go_wp2_with (first
        | go_big_skip
        | (refine wpList_load_want rfl 57 _ rfl w.heap.size 0 rfl ac _ B0.range Tryd.underlying57 rfl HIA.out ?_)
        | (refine wpList_load_want rfl 57 _ rfl w.heap.size 0 rfl ac _ (B0.ch C1 (by simp)).range Tryd.underlying57 rfl HIA.out ?_)
        | (go_at_call 49; (with_reducible refine (HM2.out _ C0).mono ?_); rintro e w1 ⟨rfl, C1⟩; obtain ⟨ea, eb⟩ := HRK.out _ (C0.trans C1))
        | (go_at_call 75; (with_reducible refine (HBL.out _).mono ?_); rintro e w2 ⟨rfl, C2⟩))
      go_ret
      exact ⟨by simp, (C0.trans C1).trans C2⟩
theorem labN_pos (l : List Int) : (labN l = 0 ∧ namOk l = false) ∨ (0 < labN l ∧ namOk l = true) := by
  unfold labN
  cases namOk l
  · exact .inl ⟨rfl, rfl⟩
  · exact .inr ⟨by rw [if_pos rfl]; exact List.length_pos_iff.2 (splitD_ne _), rfl⟩
set_option maxRecDepth 20000 in
set_option maxHeartbeats 4000000 in
theorem aclAllowN {w : World} {g : Nat} {L : List Rl} {FF : List Nat} (h : AclM w g L FF) (hL : ∀ r ∈ L, GoodR r) (hl : L.length ≤ 1000000) (name : ByteArray) (hnm : name.size ≤ 140737488351232) (port : Int) :
    Calls Tryd.prog 50 #[.pointer (some ⟨g, 0, none⟩), .string name, .int .i64 port] w fun e w' => e = .returned (.bool (allowN L name port)) ∧ Ch [] w w' := by
  obtain ⟨A, c, hall⟩ := h.rules hL
  have HM : Hid (∀ w', Ch [] w w' → Calls Tryd.prog 51 #[.pointer (some ⟨g, 0, none⟩), .string name, .int .i64 port] w' fun e w'' => e = .returned (.int .i64 (optI (bestB L (pN name port) rkN L.length))) ∧ Ch [] w' w'') := fun w' hc => aclMatchN (h.nil hc) hL hl name hnm port
  have HLB := hid (hostLabels name hnm)
  have hlp := labN_pos (numsOf name)
  unfold allowN
  generalize labN (numsOf name) = ln at HLB hlp
  generalize namOk (numsOf name) = nm at hlp ⊢
  rcases hlp with ⟨rfl, rfl⟩ | ⟨hp, rfl⟩
  · generalize optI (bestB L (pN name port) rkN L.length) = i at HM
    simp only [Bool.false_and]
    have CR := Ch.refl [] w
    clear h hL hall
    go_enter Tryd.func50, Tryd.ntmps50
    go_wp2_with (first
      | go_big_skip
      | (go_at_call 51; (with_reducible refine (HM.out _ CR).mono ?_); rintro e w1 ⟨rfl, C1⟩)
      | (go_at_call 37; (with_reducible refine (HLB.out _).mono ?_); rintro e w2 ⟨rfl, C2⟩))
    go_ret
    exact ⟨rfl, C1.trans C2⟩
  · have hp2 : (ln : Int) > 0 := by omega
    rw [Bool.true_and]
    have CR := Ch.refl [] w
    cases hb : bestB L (pN name port) rkN L.length with
    | none =>
      rw [hb] at HM
      have HM2 : Hid (∀ w', Ch [] w w' → Calls Tryd.prog 51 #[.pointer (some ⟨g, 0, none⟩), .string name, .int .i64 port] w' fun e w'' => e = .returned (.int .i64 (-1)) ∧ Ch [] w' w'') := HM.out
      clear h hL hall hb HM
      go_enter Tryd.func50, Tryd.ntmps50
      go_wp2_with (first
        | go_big_skip
        | (go_at_call 51; (with_reducible refine (HM2.out _ CR).mono ?_); rintro e w1 ⟨rfl, C1⟩)
        | (go_at_call 37; (with_reducible refine (HLB.out _).mono ?_); rintro e w2 ⟨rfl, C2⟩))
      go_ret
      exact ⟨rfl, C1.trans C2⟩
    | some j =>
      rw [hb] at HM
      have HM2 : Hid (∀ w', Ch [] w w' → Calls Tryd.prog 51 #[.pointer (some ⟨g, 0, none⟩), .string name, .int .i64 port] w' fun e w'' => e = .returned (.int .i64 (j : Int)) ∧ Ch [] w' w'') := HM.out
      obtain ⟨r, hr, _, hj⟩ := best_spec hb
      obtain ⟨_, h2⟩ := hall w CR
      obtain ⟨b, off, rfl, _⟩ := h2 (by omega)
      have HRK : Hid (∀ w', Ch [] w w' → w'.cell? ⟨g, 0, none⟩ = some (.slice (some ⟨b, off, none⟩) L.length c) ∧ w'.cell? ⟨b, off + j * 22, none⟩ = some (.bool r.1)) := fun w' hc => by
        obtain ⟨h1, h2⟩ := hall w' hc
        obtain ⟨b', off', e, hrow⟩ := h2 (by omega)
        obtain ⟨rfl, rfl⟩ : b = b' ∧ off = off' := by simpa using e
        exact ⟨h1, hrow j r hr 0 _ (rul_al r)⟩
      have hgd : (L.getD j dR).1 = r.1 := by rw [List.getD_eq_getElem?_getD, hr]; rfl
      have HGD : Hid ((match some j with | none => true | some j => (L.getD j dR).1) = r.1) := hgd
      rw [HGD.out]
      have hj0 : (0 : Int) ≤ j := by omega
      have hj1 : (j : Int) < L.length := by omega
      have hj2 : decide ((j : Int) < 0) = false := by simp
      generalize r.1 = al at HRK ⊢
      clear h hL hall hb HM hr HGD hgd hj h2
      go_enter Tryd.func50, Tryd.ntmps50
      go_wp2_with (first
        | go_big_skip
        | (go_at_call 51; (with_reducible refine (HM2.out _ CR).mono ?_); rintro e w1 ⟨rfl, C1⟩)
        | (go_at_call 37; (with_reducible refine (HLB.out _).mono ?_); rintro e w2 ⟨rfl, C2⟩; obtain ⟨ea, eb⟩ := HRK.out _ (C1.trans C2)))
      go_ret
      exact ⟨by simp, C1.trans C2⟩
end Go.Proofs.YtbmbnibamhgfmaaDoor

/- Targets: host.Valid, the reference's ValidTarget, AllowsTarget of both, ginnelgen.Target (printed by mk_aclx.py). -/
namespace Go.Proofs.YtbmbnibamhgfmaaDoor
open Go.RowKit

/-- Name, Addr, Port. -/
abbrev Tg := ByteArray × Bool × List Int × Int
def tgC (t : Tg) : List Value := .string t.1 :: (addrC t.2.1 t.2.2.1 ++ [.int .i64 t.2.2.2])
def GoodTg (t : Tg) : Prop := GoodA t.2.2.1 ∧ t.1.size ≤ 140737488351232
theorem tg_len {t : Tg} (h : t.2.2.1.length = 16) : (tgC t).length = 19 := by unfold tgC; rw [List.length_cons, List.length_append, addr_len h]; rfl
theorem tg_info : (Tryd.prog.info? 107).map (·.size) = some 19 := by kernel_rfl
theorem tg_inf {t : Tg} (h : t.2.2.1.length = 16) : (Tryd.prog.info? 107).map (·.size) = some (tgC t).length := by rw [tg_len h]; exact tg_info
theorem tg_one (t : Tg) : (tgC t).all (·.oneCell') = true := by unfold tgC; rw [List.all_cons, List.all_append, addr_one']; rfl
theorem tg_addr {t : Tg} {j : Nat} {v : Value} (hj : (addrC t.2.1 t.2.2.1)[j]? = some v) : (tgC t)[1 + j]? = some v := by
  unfold tgC
  rw [Nat.add_comm, List.getElem?_cons_succ, List.getElem?_append_left (List.getElem?_eq_some_iff.1 hj).1]
  exact hj
theorem tg_port {t : Tg} (h : t.2.2.1.length = 16) : (tgC t)[18]? = some (.int .i64 t.2.2.2) := by
  unfold tgC
  rw [show (18 : Nat) = 17 + 1 from rfl, List.getElem?_cons_succ, List.getElem?_append_right (by rw [addr_len h]; omega), addr_len h]
  rfl
def validTg (t : Tg) : Bool := decide (1 ≤ t.2.2.2) && decide (t.2.2.2 ≤ 65535) && (if t.1.size = 0 then validA t.2.1 t.2.2.1 else namOk (numsOf t.1) && decide ((t.2.1, t.2.2.1) = (false, zeros)))
theorem addr_zeroD (six : Bool) (bs : List Int) (h : bs.length = 16) (w : World) : (Op.equalIn 10000 57 (.agg (addrC six bs).toArray) (.agg #[.bool false, .int .u8 0, .int .u8 0, .int .u8 0, .int .u8 0, .int .u8 0, .int .u8 0, .int .u8 0, .int .u8 0, .int .u8 0, .int .u8 0, .int .u8 0, .int .u8 0, .int .u8 0, .int .u8 0, .int .u8 0, .int .u8 0])).run Tryd.prog w = .ok (decide ((six, bs) = (false, zeros))) w := by
  have := addr_eq six false bs zeros h rfl w
  have e : (six == false && decide (bs = zeros)) = decide ((six, bs) = (false, zeros)) := by rw [Bool.eq_iff_iff]; simp
  rw [← e]
  exact this
set_option maxRecDepth 100000 in
set_option maxHeartbeats 4000000 in
theorem hostTg (t : Tg) (hg : GoodTg t) (w : World) : Calls Tryd.prog 80 #[.agg (tgC t).toArray] w fun e w' => e = .returned (.bool (validTg t)) ∧ Ch [] w w' := by
  have HV := hid (ipValid t.2.1 t.2.2.1 hg.1.1 hg.1.2)
  have HN := hid (hostValidA t.1 hg.2)
  have B0 : Blk (w.alloc (.cells (tgC t).toArray 107)) w.heap.size 107 (tgC t) := Blk.new w _ _
  have C0 : Ch [] w (w.alloc (.cells (tgC t).toArray 107)) := (Ch.refl _ _).alloc _
  have e0 : (w.alloc (.cells (tgC t).toArray 107)).cell? ⟨w.heap.size, 0, none⟩ = some (.string t.1) := B0.cell 0
  have e18 : (w.alloc (.cells (tgC t).toArray 107)).cell? ⟨w.heap.size, 18, none⟩ = some (.int .i64 t.2.2.2) := (B0.cell 18).trans (tg_port hg.1.1)
  have HA : Hid (∀ j v, (addrC t.2.1 t.2.2.1)[j]? = some v → (tgC t)[1 + j]? = some v) := fun j v hj => tg_addr hj
  have HIA := hid (addr_inf (six := t.2.1) hg.1.1)
  have hq := addr_zeroD t.2.1 t.2.2.1 hg.1.1
  unfold validTg
  clear hg
  generalize decide ((t.2.1, t.2.2.1) = (false, zeros)) = dz at hq ⊢
  generalize validA t.2.1 t.2.2.1 = va at HV ⊢
  generalize tgC t = tc at B0 C0 e0 e18 HA
  generalize addrC t.2.1 t.2.2.1 = ac at HA HIA HV hq
  generalize t.2.2.2 = port at e18 ⊢
  generalize t.1 = nm at e0 HN ⊢
  by_cases h1 : port < 1
  · have d1 : decide (1 ≤ port) = false := by simp; omega
    rw [d1]
    simp only [Bool.false_and]
    clear d1
    go_enter Tryd.func80, Tryd.ntmps80
    go_wp2_with go_big_skip
    go_ret
    exact ⟨rfl, C0⟩
  · have d1 : decide (1 ≤ port) = true := by simp; omega
    rw [d1]
    by_cases h2 : port > 65535
    · have h3 : port ≥ 65536 := by omega
      have d2 : decide (port ≤ 65535) = false := by simp; omega
      rw [d2]
      simp only [Bool.false_and, Bool.and_false]
      clear d1 d2
      go_enter Tryd.func80, Tryd.ntmps80
      go_wp2_with go_big_skip
      go_ret
      exact ⟨rfl, C0⟩
    · have h3 : ¬ port ≥ 65536 := by omega
      have d2 : decide (port ≤ 65535) = true := by simp; omega
      rw [d2]
      clear d1 d2
      by_cases hs : nm.size = 0
      · rw [if_pos hs]
        have he := emp0 hs
        have he2 := List.isEmpty_iff.1 he
        clear hs HN hq
        go_enter Tryd.func80, Tryd.ntmps80
        go_wp2_with (first
          | go_big_skip
          | (refine wpList_load_want rfl 57 _ rfl w.heap.size 1 rfl ac _ (B0.rangeMid 1 _ HA.out) Tryd.underlying57 rfl HIA.out ?_)
          | (go_at_call 57; (with_reducible refine (HV.out _).mono ?_); rintro e w1 ⟨rfl, C1⟩))
        go_ret
        exact ⟨rfl, C0.trans C1⟩
      · rw [if_neg hs]
        have he := emp1 hs
        clear hs HV
        cases hn : namOk (numsOf nm)
        · rw [hn] at HN
          simp only [Bool.false_and, Bool.and_false]
          clear hn
          go_enter Tryd.func80, Tryd.ntmps80
          go_wp2_with (first
            | go_big_skip
            | (go_at_call 60; (with_reducible refine (HN.out _).mono ?_); rintro e w1 ⟨rfl, C1⟩))
          go_ret
          exact ⟨rfl, C0.trans C1⟩
        · rw [hn] at HN
          clear hn
          go_enter Tryd.func80, Tryd.ntmps80
          go_wp2_with (first
            | go_big_skip
            | (refine wpList_load_want rfl 57 _ rfl w.heap.size 1 rfl ac _ ((B0.ch C1 (by simp)).rangeMid 1 _ HA.out) Tryd.underlying57 rfl HIA.out ?_)
            | (go_at_call 60; (with_reducible refine (HN.out _).mono ?_); rintro e w1 ⟨rfl, C1⟩))
          go_ret
          exact ⟨by simp, C0.trans C1⟩
def allowT (L : List Rl) (t : Tg) : Bool := validTg t && (if t.1.size = 0 then allowA L t.2.1 t.2.2.1 t.2.2.2 else allowN L t.1 t.2.2.2)
set_option maxRecDepth 100000 in
set_option maxHeartbeats 4000000 in
theorem aclAllowT {w : World} {g : Nat} {L : List Rl} {FF : List Nat} (h : AclM w g L FF) (hL : ∀ r ∈ L, validR r = true ∧ GoodR r) (hl : L.length ≤ 1000000) (t : Tg) (hg : GoodTg t) :
    Calls Tryd.prog 52 #[.pointer (some ⟨g, 0, none⟩), .agg (tgC t).toArray] w fun e w' => e = .returned (.bool (allowT L t)) ∧ Ch [] w w' := by
  have HVT := hid (hostTg t hg)
  have HN : Hid (∀ w', Ch [] w w' → Calls Tryd.prog 50 #[.pointer (some ⟨g, 0, none⟩), .string t.1, .int .i64 t.2.2.2] w' fun e w'' => e = .returned (.bool (allowN L t.1 t.2.2.2)) ∧ Ch [] w' w'') := fun w' hc => aclAllowN (h.nil hc) (fun r hr => (hL r hr).2) hl t.1 hg.2 t.2.2.2
  have HAA : Hid (∀ w', Ch [] w w' → Calls Tryd.prog 47 #[.pointer (some ⟨g, 0, none⟩), .agg (addrC t.2.1 t.2.2.1).toArray, .int .i64 t.2.2.2] w' fun e w'' => e = .returned (.bool (allowA L t.2.1 t.2.2.1 t.2.2.2)) ∧ Ch [] w' w'') := fun w' hc => aclAllowA (h.nil hc) hL hl t.2.1 t.2.2.1 hg.1 t.2.2.2
  have B0 : Blk (w.alloc (.cells (tgC t).toArray 107)) w.heap.size 107 (tgC t) := Blk.new w _ _
  have C0 : Ch [] w (w.alloc (.cells (tgC t).toArray 107)) := (Ch.refl _ _).alloc _
  have e0 : (w.alloc (.cells (tgC t).toArray 107)).cell? ⟨w.heap.size, 0, none⟩ = some (.string t.1) := B0.cell 0
  have e18 : (w.alloc (.cells (tgC t).toArray 107)).cell? ⟨w.heap.size, 18, none⟩ = some (.int .i64 t.2.2.2) := (B0.cell 18).trans (tg_port hg.1.1)
  have HA : Hid (∀ j v, (addrC t.2.1 t.2.2.1)[j]? = some v → (tgC t)[1 + j]? = some v) := fun j v hj => tg_addr hj
  have HIA := hid (addr_inf (six := t.2.1) hg.1.1)
  have HIT := hid (tg_inf (t := t) hg.1.1)
  have H0 : Hid (∀ w' , Blk w' w.heap.size 107 (tgC t) → w'.cell? ⟨w.heap.size, 0, none⟩ = some (.string t.1)) := fun w' b => b.cell 0
  have H18 : Hid (∀ w' , Blk w' w.heap.size 107 (tgC t) → w'.cell? ⟨w.heap.size, 18, none⟩ = some (.int .i64 t.2.2.2)) := fun w' b => (b.cell 18).trans (tg_port hg.1.1)
  unfold allowT
  clear hg h hL
  generalize allowA L t.2.1 t.2.2.1 t.2.2.2 = ra at HAA ⊢
  generalize allowN L t.1 t.2.2.2 = rn at HN ⊢
  generalize validTg t = vt at HVT ⊢
  generalize tgC t = tc at B0 C0 e0 e18 HA HVT HIT H0 H18 ⊢
  generalize addrC t.2.1 t.2.2.1 = ac at HA HIA HAA
  generalize t.2.2.2 = port at e18 HN HAA H18
  generalize t.1 = nm at e0 HN H0 ⊢
  cases vt
  · simp only [Bool.false_and]
    go_enter Tryd.func52, Tryd.ntmps52
    go_wp2_with (first
      | (refine wpList_load_want rfl 107 _ rfl w.heap.size 0 rfl tc _ B0.range Tryd.underlying107 rfl HIT.out ?_)
      | (go_at_call 80; (with_reducible refine (HVT.out _).mono ?_); rintro e w1 ⟨rfl, C1⟩))
    go_ret
    exact ⟨rfl, C0.trans C1⟩
  · rw [Bool.true_and]
    by_cases hs : nm.size = 0
    · rw [if_pos hs]
      have he := emp0 hs
      have he2 := List.isEmpty_iff.1 he
      clear hs HN e0
      go_enter Tryd.func52, Tryd.ntmps52
      go_wp2_with (first
        | (refine wpList_load_want rfl 107 _ rfl w.heap.size 0 rfl tc _ B0.range Tryd.underlying107 rfl HIT.out ?_)
        | (go_at_call 80; (with_reducible refine (HVT.out _).mono ?_); rintro e w1 ⟨rfl, C1⟩; have B1 := B0.ch C1 (by simp); have e0 : w1.cell? ⟨w.heap.size, 0, none⟩ = some (.string nm) := H0.out w1 B1; have e18' : w1.cell? ⟨w.heap.size, 18, none⟩ = some (.int .i64 port) := H18.out w1 B1)
        | (refine wpList_load_want rfl 57 _ rfl w.heap.size 1 rfl ac _ (B1.rangeMid 1 _ HA.out) Tryd.underlying57 rfl HIA.out ?_)
        | (go_at_call 47; (with_reducible refine (HAA.out _ (C0.trans C1)).mono ?_); rintro e w2 ⟨rfl, C2⟩))
      go_ret
      exact ⟨rfl, (C0.trans C1).trans C2⟩
    · rw [if_neg hs]
      have he := emp1 hs
      have he2 : nm.toList ≠ [] := fun h => by rw [h] at he; cases he
      clear hs HAA e0
      go_enter Tryd.func52, Tryd.ntmps52
      go_wp2_with (first
        | (refine wpList_load_want rfl 107 _ rfl w.heap.size 0 rfl tc _ B0.range Tryd.underlying107 rfl HIT.out ?_)
        | (go_at_call 80; (with_reducible refine (HVT.out _).mono ?_); rintro e w1 ⟨rfl, C1⟩; have B1 := B0.ch C1 (by simp); have e0 : w1.cell? ⟨w.heap.size, 0, none⟩ = some (.string nm) := H0.out w1 B1; have e18' : w1.cell? ⟨w.heap.size, 18, none⟩ = some (.int .i64 port) := H18.out w1 B1)
        | (go_at_call 50; (with_reducible refine (HN.out _ (C0.trans C1)).mono ?_); rintro e w2 ⟨rfl, C2⟩))
      go_ret
      exact ⟨rfl, (C0.trans C1).trans C2⟩
end Go.Proofs.YtbmbnibamhgfmaaDoor

/- ginnelgen.Target; rules and targets as arguments. -/
namespace Go.Proofs.YtbmbnibamhgfmaaDoor
open Go.ChangeShapes Go.WideShapes Go.ChangeAt Go.RowKit

section
variable {H : Type} {enc : TypeId × Value → H} {W : World}
set_option maxRecDepth 20000 in
theorem Cl.rul {cs : List Value} (h : Cl enc Tryd.prog W 61 cs) : ∃ r : Rl, cs = rulC r ∧ GoodR r := by
  have hl := (h.struct Tryd.underlying61).1
  rw [show Tryd.prog.cellsOf 61 = 22 by kernel_rfl] at hl
  obtain ⟨al, k0⟩ := (h.field Tryd.underlying61 0 4 0 1 (by kernel_rfl) (by kernel_rfl)).bool Tryd.underlying4
  obtain ⟨sx, k1, hs⟩ := (h.field Tryd.underlying61 1 9 1 1 (by kernel_rfl) (by kernel_rfl)).string Tryd.underlying9
  obtain ⟨p, e1, hg, _⟩ := (h.field Tryd.underlying61 2 59 2 18 (by kernel_rfl) (by kernel_rfl)).pfx
  obtain ⟨lo, k2, _⟩ := (h.field Tryd.underlying61 3 3 20 1 (by kernel_rfl) (by kernel_rfl)).i64 Tryd.underlying3
  obtain ⟨hi, k3, _⟩ := (h.field Tryd.underlying61 4 3 21 1 (by kernel_rfl) (by kernel_rfl)).i64 Tryd.underlying3
  refine ⟨(al, sx, p, lo, hi), ?_, hg, hs⟩
  have s1 : cs = (cs.drop 0).take 1 ++ ((cs.drop 1).take 1 ++ ((cs.drop 2).take 18 ++ ((cs.drop 20).take 1 ++ (cs.drop 21).take 1))) := by
    rw [List.drop_zero]
    conv => lhs; rw [← List.take_append_drop 1 cs, ← List.take_append_drop 1 (cs.drop 1), List.drop_drop, ← List.take_append_drop 18 (cs.drop 2), List.drop_drop, ← List.take_append_drop 1 (cs.drop 20), List.drop_drop]
    congr 5
    rw [List.take_of_length_le (l := cs.drop 21) (by rw [List.length_drop]; omega)]
  rw [s1, k0, k1, e1, k2, k3]; rfl
theorem Arg.rules {v : Value} {d : DataW H} (h : Arg enc Tryd.prog W 44 v d) : ∃ A n cap, ∃ l : List Rl, v = .slice A n cap ∧ n ≤ cap ∧ cap ≤ maxLen ∧ Rd W W.heap.size 22 A n (l.flatMap rulC) ∧ l.length = n ∧ n ≤ 140737488351232 ∧ ∀ r ∈ l, GoodR r := by
  obtain ⟨A, len, cap, l, h1, h2, h3, h4, h5, h6, h7⟩ := h.rows (f := rulC) (G := fun r => GoodR r) (size := 22) Tryd.underlying44 (by kernel_rfl) (by omega) (fun c hc => hc.rul) (fun r hr => rul_len hr.1.1)
  rw [show Tryd.prog.bytesOf 61 = 72 by kernel_rfl] at h4
  exact ⟨A, len, cap, l, h1, h2, h3, h5, h6, by omega, h7⟩
set_option maxRecDepth 20000 in
theorem Cl.tg {cs : List Value} (h : Cl enc Tryd.prog W 107 cs) : ∃ t : Tg, cs = tgC t ∧ GoodTg t := by
  have hl := (h.struct Tryd.underlying107).1
  rw [show Tryd.prog.cellsOf 107 = 19 by kernel_rfl] at hl
  obtain ⟨nm, k0, hs⟩ := (h.field Tryd.underlying107 0 9 0 1 (by kernel_rfl) (by kernel_rfl)).string Tryd.underlying9
  obtain ⟨six, bs, k1, hg⟩ := (h.field Tryd.underlying107 1 57 1 17 (by kernel_rfl) (by kernel_rfl)).addr
  obtain ⟨p, k2, _⟩ := (h.field Tryd.underlying107 2 3 18 1 (by kernel_rfl) (by kernel_rfl)).i64 Tryd.underlying3
  refine ⟨(nm, six, bs, p), ?_, hg, hs⟩
  have s1 : cs = (cs.drop 0).take 1 ++ ((cs.drop 1).take 17 ++ (cs.drop 18).take 1) := by
    rw [List.drop_zero]
    conv => lhs; rw [← List.take_append_drop 1 cs, ← List.take_append_drop 17 (cs.drop 1), List.drop_drop]
    congr 2
    rw [List.take_of_length_le (l := cs.drop 18) (by rw [List.length_drop]; omega)]
  rw [s1, k0, k1, k2]; rfl
set_option maxRecDepth 20000 in
theorem Arg.tg {v : Value} {d : DataW H} (h : Arg enc Tryd.prog W 107 v d) : ∃ t : Tg, v = .agg (tgC t).toArray ∧ GoodTg t := by
  obtain ⟨⟨base, hv⟩, _, _⟩ := id h
  obtain ⟨cs, rfl, hsz⟩ := okWide_struct Tryd.underlying107 hv
  obtain ⟨p, he, hg⟩ := Cl.tg (h.cl : Cl enc Tryd.prog W 107 cs.toList)
  exact ⟨p, by rw [← he]; simp [Value.cells], hg⟩
end
end Go.Proofs.YtbmbnibamhgfmaaDoor
