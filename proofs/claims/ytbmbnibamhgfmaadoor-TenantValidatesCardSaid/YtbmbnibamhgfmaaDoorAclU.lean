/- The reference's ValidRule and ValidRules; make([]api.Rule, n). -/
import Derived.Test.YtbmbnibamhgfmaaDoorMH
import Derived.Test.YtbmbnibamhgfmaaDoorMJ
import Derived.Test.YtbmbnibamhgfmaaDoorME
import Derived.Test.YtbmbnibamhgfmaaDoorMC
import Derived.OwnWalk
namespace Go.Proofs.YtbmbnibamhgfmaaDoor
open Go.RowKit

set_option maxRecDepth 100000 in
set_option maxHeartbeats 4000000 in
theorem refRule (r : Rl) (hg : GoodR r) (w : World) : Calls Tryd.prog 25 #[.agg (rulC r).toArray] w fun e w' => e = .returned (.bool (validR r)) ∧ Ch [] w w' := by
  have B0 : Blk (w.alloc (.cells (rulC r).toArray 61)) w.heap.size 61 (rulC r) := Blk.new w _ _
  have C0 : Ch [] w (w.alloc (.cells (rulC r).toArray 61)) := (Ch.refl _ _).alloc _
  have e1 : (w.alloc (.cells (rulC r).toArray 61)).cell? ⟨w.heap.size, 1, none⟩ = some (.string r.2.1) := B0.cell 1
  have e20 : (w.alloc (.cells (rulC r).toArray 61)).cell? ⟨w.heap.size, 20, none⟩ = some (.int .i64 r.2.2.2.1) := (B0.cell 20).trans (rul_lo hg.1.1)
  have e21 : (w.alloc (.cells (rulC r).toArray 61)).cell? ⟨w.heap.size, 21, none⟩ = some (.int .i64 r.2.2.2.2) := (B0.cell 21).trans (rul_hi hg.1.1)
  have HP : Hid (∀ j v, (pfxC r.2.2.1)[j]? = some v → (rulC r)[2 + j]? = some v) := fun j v hj => rul_pfx hj
  have HIP := hid (pfx_inf (p := r.2.2.1) hg.1.1)
  have HV : Hid (∀ w, Calls Tryd.prog 38 #[.agg (pfxC r.2.2.1).toArray] w fun e w' => e = .returned (.bool (validP r.2.2.1)) ∧ Ch [] w w') := fun w => refValidPfx r.2.2.1.1 r.2.2.1.2.1 r.2.2.1.2.2 hg.1 w
  have HL := hid (refName r.2.1 hg.2)
  have hq := pfx_zero r.2.2.1 hg.1.1
  unfold validR
  clear hg
  generalize decide (r.2.2.1 = zeroP) = dz at hq ⊢
  generalize validP r.2.2.1 = vp at HV ⊢
  generalize namOk (numsOf r.2.1) = nm at HL ⊢
  generalize rulC r = rc at B0 C0 e1 e20 e21 HP
  generalize pfxC r.2.2.1 = pc at HP HIP HV hq
  generalize r.2.2.2.1 = lo at e20 ⊢
  generalize r.2.2.2.2 = hi at e21 ⊢
  generalize r.2.1 = sx at e1 HL ⊢
  by_cases h1 : lo < 0
  · have d1 : decide (0 ≤ lo) = false := by simpa using h1
    rw [d1]
    simp only [Bool.false_and]
    clear d1
    go_enter Tryd.func25, Tryd.ntmps25
    go_wp2_with go_big_skip
    go_ret
    exact ⟨rfl, C0⟩
  · have d1 : decide (0 ≤ lo) = true := by simpa using h1
    rw [d1]
    by_cases h2 : lo > hi
    · have d2 : decide (lo ≤ hi) = false := by simpa using h2
      rw [d2]
      simp only [Bool.false_and, Bool.and_false]
      clear d1 d2
      go_enter Tryd.func25, Tryd.ntmps25
      go_wp2_with go_big_skip
      go_ret
      exact ⟨rfl, C0⟩
    · have d2 : decide (lo ≤ hi) = true := by simpa using h2
      rw [d2]
      by_cases h3 : hi > 65535
      · have d3 : decide (hi ≤ 65535) = false := by simp; omega
        rw [d3]
        simp only [Bool.false_and, Bool.and_false]
        clear d1 d2 d3
        go_enter Tryd.func25, Tryd.ntmps25
        go_wp2_with go_big_skip
        go_ret
        exact ⟨rfl, C0⟩
      · have d3 : decide (hi ≤ 65535) = true := by simp; omega
        rw [d3]
        clear d1 d2 d3
        by_cases hs : sx.size = 0
        · rw [if_pos hs]
          have he := emp0 hs
          have he2 : sx.toList = [] := List.isEmpty_iff.1 he
          clear hs HL hq
          go_enter Tryd.func25, Tryd.ntmps25
          go_wp2_with (first
            | go_big_skip
            | (refine wpList_load_want rfl 59 _ rfl w.heap.size 2 rfl pc _ (B0.rangeMid 2 _ HP.out) Tryd.underlying59 rfl HIP.out ?_)
            | (go_at_call 38; (with_reducible refine (HV.out _).mono ?_); rintro e w1 ⟨rfl, C1⟩))
          go_ret
          exact ⟨rfl, C0.trans C1⟩
        · rw [if_neg hs]
          have he := emp1 hs
          clear hs HV
          cases nm
          · go_enter Tryd.func25, Tryd.ntmps25
            go_wp2_with (first
              | go_big_skip
              | (go_at_call 39; (with_reducible refine (HL.out _).mono ?_); rintro e w1 ⟨rfl, C1⟩))
            go_ret
            exact ⟨rfl, C0.trans C1⟩
          · go_enter Tryd.func25, Tryd.ntmps25
            go_wp2_with (first
              | go_big_skip
              | (refine wpList_load_want rfl 59 _ rfl w.heap.size 2 rfl pc _ ((B0.ch C1 (by simp)).rangeMid 2 _ HP.out) Tryd.underlying59 rfl HIP.out ?_)
              | (go_at_call 39; (with_reducible refine (HL.out _).mono ?_); rintro e w1 ⟨rfl, C1⟩))
            go_ret
            exact ⟨by simp, C0.trans C1⟩
set_option maxRecDepth 100000 in
set_option maxHeartbeats 4000000 in
theorem refRules (w : World) (A : Option Addr) (n cap B : Nat) (L : List Rl) (h : Rd w B 22 A n (L.flatMap rulC)) (hB : B ≤ w.heap.size) (hl : n ≤ 140737488351232) (hG : ∀ r ∈ L, GoodR r) :
    Calls Tryd.prog 28 #[.slice A n cap] w fun e w' => e = .returned (.bool (decide (n ≤ 32) && L.all validR)) ∧ Ch [] w w' := by
  have hrE := h.rangeE (fun p hp => rul_len (hG p hp).1.1) (by decide)
  have HRE : Hid (0 < n → ∃ b off, A = some ⟨b, off, none⟩ ∧ b < w.heap.size ∧ ∀ (k : Nat) (x : Rl), L[k]? = some x → w.rangeAt b (off + k * 22) (rulC x)) := fun hn => by
    obtain ⟨b, off, e, hb, hr⟩ := hrE.2 hn
    exact ⟨b, off, e, by omega, hr⟩
  have HN := hid hrE.1
  have HG := hid hG
  obtain ⟨res, hres⟩ : ∃ res, (decide (n ≤ 32) && L.all validR) = res := ⟨_, rfl⟩
  rw [hres]
  have HRS := hid hres
  clear h hrE hG hres
  go_enter Tryd.func28, Tryd.ntmps28
  go_wp2_with fail
  go_loopw [3] (fun i wr => ∃ k : Nat, i = .int .i64 k ∧ k ≤ n ∧ Hid ((L.take k).all validR = true) ∧ Ch [] w wr) (fun i _ => n - (intOf i).toNat)
  case atStart => exact ⟨0, rfl, by omega, (by show (L.take 0).all validR = true; simp), Ch.refl _ _⟩
  case round =>
    obtain ⟨k, rfl, hk, HA, CW⟩ := hrel
    by_cases hlt : k < n
    · have hi0 : (0 : Int) ≤ k := by omega
      have hi1 : (k : Int) < n := by omega
      by_cases h32 : k ≤ 32
      · have hi2 : (k : Int) ≤ 32 := by omega
        obtain ⟨b, off, rfl, hb, hr⟩ := HRE.out (by omega)
        obtain ⟨r, hr0⟩ : ∃ r, L[k]? = some r := ⟨_, List.getElem?_eq_getElem (by rw [HN.out]; exact hlt)⟩
        have hmem := List.mem_of_getElem? hr0
        have hgr := HG.out r hmem
        have HR : Hid (wr.rangeAt b (off + k * 22) (rulC r)) := range_ch (hr k r hr0) CW hb (by simp)
        have HIR := hid (rul_inf (r := r) hgr.1.1)
        have HV := hid (refRule r hgr)
        have HT : Hid ((L.take (k + 1)).all validR = ((L.take k).all validR && validR r)) := by show _ = _; rw [List.take_add_one, hr0]; simp
        have HF : Hid (validR r = false → res = false) := fun hv => by
          rw [← HRS.out, List.all_eq_false.2 ⟨r, hmem, by rw [hv]; decide⟩, Bool.and_false]
        generalize validR r = v at HV HT HF
        generalize rulC r = rc at HR HIR HV
        clear hmem hgr hr hr0
        cases v
        · have HF2 : Hid (res = false) := HF.out rfl
          clear HF
          go_wp2_with (first
            | go_big_skip
            | (refine wpList_load_want rfl 61 _ rfl b (off + k * 22) rfl rc _ HR.out Tryd.underlying61 rfl HIR.out ?_)
            | (go_at_call 25; (with_reducible refine (HV.out _).mono ?_); rintro e w1 ⟨rfl, C1⟩))
          go_ret
          exact ⟨by rw [HF2.out]; rfl, CW.trans C1⟩
        · go_wp2_with (first
            | go_big_skip
            | (refine wpList_load_want rfl 61 _ rfl b (off + k * 22) rfl rc _ HR.out Tryd.underlying61 rfl HIR.out ?_)
            | (go_at_call 25; (with_reducible refine (HV.out _).mono ?_); rintro e w1 ⟨rfl, C1⟩))
          go_roundw
          case rel => exact ⟨k + 1, by go_num, by omega, (by show _ = true; rw [HT.out, HA.out]; rfl), CW.trans C1⟩
          case measure => simp [intOf]; omega
      · have hi2 : ¬ (k : Int) ≤ 32 := by omega
        have hi3 : ¬ (n : Int) ≤ 32 := by omega
        have HF : Hid (res = false) := by show res = false; rw [← HRS.out, decide_eq_false (by omega), Bool.false_and]
        go_wp2_with go_big_skip
        go_ret
        exact ⟨by rw [HF.out]; rfl, CW⟩
    · obtain rfl : k = n := by omega
      have HX : Hid (res = decide ((k : Int) ≤ 32)) := by
        show res = _
        rw [← HRS.out]
        have := HA.out
        rw [List.take_of_length_le (by rw [HN.out]; exact Nat.le_refl _)] at this
        rw [this, Bool.and_true, Bool.eq_iff_iff]
        simp; omega
      by_cases h32 : (k : Int) ≤ 32
      · rw [decide_eq_true h32] at HX
        go_wp2_with go_big_skip
        go_ret
        exact ⟨by rw [HX.out]; rfl, CW⟩
      · rw [decide_eq_false h32] at HX
        go_wp2_with go_big_skip
        go_ret
        exact ⟨by rw [HX.out]; rfl, CW⟩
theorem rul_made (n : Nat) : (madeCells (Value.agg #[.bool false, .string ⟨#[]⟩, .bool false, .int .u8 0, .int .u8 0, .int .u8 0, .int .u8 0, .int .u8 0, .int .u8 0, .int .u8 0, .int .u8 0, .int .u8 0, .int .u8 0, .int .u8 0, .int .u8 0, .int .u8 0, .int .u8 0, .int .u8 0, .int .u8 0, .int .i64 0, .int .i64 0, .int .i64 0]).cells (n * 22)).toList = (List.replicate n dR).flatMap rulC := by
  have hf : ∀ x ∈ List.replicate n dR, (rulC x).length = 22 := fun x hx => by rw [List.eq_of_mem_replicate hx]; rfl
  refine List.ext_getElem? fun i => ?_
  rcases Nat.lt_or_ge i (n * 22) with hi | hi
  · have hk : i / 22 < n := by omega
    have hj : i % 22 < 22 := Nat.mod_lt _ (by decide)
    obtain ⟨v, hv⟩ : ∃ v, (rulC dR)[i % 22]? = some v := ⟨_, List.getElem?_eq_getElem (show i % 22 < 22 from hj)⟩
    have h2 := flat_get (List.replicate n dR) hf (i / 22) dR (by rw [List.getElem?_replicate, if_pos hk]) (i % 22) v hv
    rw [show i / 22 * 22 + i % 22 = i by omega] at h2
    rw [h2, ← hv, Array.getElem?_toList]
    unfold madeCells
    rw [Array.getElem?_map, Array.getElem?_range, if_pos hi]
    have hz : ∀ j, j < 22 → (#[Value.bool false, .string ⟨#[]⟩, .bool false, .int .u8 0, .int .u8 0, .int .u8 0, .int .u8 0, .int .u8 0, .int .u8 0, .int .u8 0, .int .u8 0, .int .u8 0, .int .u8 0, .int .u8 0, .int .u8 0, .int .u8 0, .int .u8 0, .int .u8 0, .int .u8 0, .int .i64 0, .int .i64 0, .int .i64 0] : Array Value)[j]? = (rulC dR)[j]? := fun j _ => by rw [← List.getElem?_toArray]; rfl
    have h3 := hz _ hj
    rw [hv] at h3
    have h4 : (#[Value.bool false, .string ⟨#[]⟩, .bool false, .int .u8 0, .int .u8 0, .int .u8 0, .int .u8 0, .int .u8 0, .int .u8 0, .int .u8 0, .int .u8 0, .int .u8 0, .int .u8 0, .int .u8 0, .int .u8 0, .int .u8 0, .int .u8 0, .int .u8 0, .int .u8 0, .int .i64 0, .int .i64 0, .int .i64 0] : Array Value)[i % 22]! = v := by rw [Array.getElem!_eq_getD, Array.getD_eq_getD_getElem?, h3]; rfl
    rw [hv]
    exact congrArg some h4
  · rw [List.getElem?_eq_none (by rw [Array.length_toList, size_madeCells]; exact hi), List.getElem?_eq_none (by rw [flat_len _ hf, List.length_replicate]; exact hi)]
end Go.Proofs.YtbmbnibamhgfmaaDoor
