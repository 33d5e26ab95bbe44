/- ip.Bit; cidr.PrefixOf; the reference's PrefixOf (printed by mk_trc.py). -/
import Derived.Test.YtjpiekljjhgmoaaDoorTrM
import Derived.Test.YtjpiekljjhgmoaaDoorMC
import Derived.Test.YtjpiekljjhgmoaaDoorMB
import Derived.Test.YtjpiekljjhgmoaaDoorRefPfx
import Derived.Deep.DeepCutAuto
namespace Go.Proofs.YtjpiekljjhgmoaaDoor
open Go.RowKit

set_option maxRecDepth 20000 in
set_option maxHeartbeats 4000000 in
theorem bitP (six : Bool) (bs : List Int) (hg : GoodA bs) (i : Nat) (hi : (i : Int) < bitL six) (w : World) :
    Calls Tryd.prog 39 #[.agg (addrC six bs).toArray, .int .i64 i] w fun e w' => e = .returned (.int .i64 (bitA bs i)) ∧ Ch [] w w' := by
  have hB : Blk (w.alloc (.cells (addrC six bs).toArray 24)) w.heap.size 24 (addrC six bs) := Blk.new w _ _
  have hC : Ch [] w (w.alloc (.cells (addrC six bs).toArray 24)) := (Ch.refl _ _).alloc _
  have hL : bitL six ≤ 128 := by cases six <;> decide
  have HI := hid (addr_inf (six := six) hg.1)
  obtain ⟨q, hq⟩ : ∃ q : Nat, i / 8 = q := ⟨_, rfl⟩
  obtain ⟨r, hr⟩ : ∃ r : Nat, i % 8 = r := ⟨_, rfl⟩
  have hqi : (i : Int) / 8 = q := by omega
  have hri : (i : Int) % 8 = r := by omega
  have hq16 : q < 16 := by omega
  have hbit : bitA bs i = at_ bs q / 2 ^ (7 - r) % 2 := by unfold bitA; rw [hq, hr]
  obtain ⟨x0, x1⟩ := hg.at hq16
  have hcB : ∀ w', Blk w' w.heap.size 24 (addrC six bs) → w'.cell? ⟨w.heap.size, 1 + q, none⟩ = some (.int .u8 (at_ bs q)) := fun w' h => by rw [h.cell, addrC_byte (by rw [hg.1]; exact hq16)]
  have HCB := hid hcB
  have hr8 : r < 8 := by omega
  have h1 := bitLenP six bs
  have H1 := hid h1
  clear h1 hcB hq hr
  generalize bitL six = L at hi hL H1
  rw [hbit]
  generalize at_ bs q = x at HCB hbit x0 x1 ⊢
  clear hbit
  generalize addrC six bs = cs at hB hC HI HCB H1 ⊢
  rcases (show r = 0 ∨ r = 1 ∨ r = 2 ∨ r = 3 ∨ r = 4 ∨ r = 5 ∨ r = 6 ∨ r = 7 by omega) with rfl | rfl | rfl | rfl | rfl | rfl | rfl | rfl
  all_goals
    simp only [Nat.reduceSub, Int.reducePow, Int.ediv_one]
    have hand (y : Int) (hy : 0 ≤ y ∧ y ≤ 255) := and_one y hy
    have HAND := hid hand
    clear hand
    go_enter Tryd.func39, Tryd.ntmps39
    go_wp2_with (first
      | (refine wpList_load_want rfl 24 _ rfl w.heap.size 0 rfl cs _ hB.range Tryd.underlying24 rfl HI.out ?_)
      | (go_at_call 62; (with_reducible refine (H1.out _).mono ?_); rintro e w2 ⟨rfl, C2⟩; have hc := HCB.out _ (hB.ch C2 (by simp))))
    go_ret
    refine ⟨?_, hC.trans C2⟩
    rw [HAND.out _ (by omega)]
    exact congrArg (fun z => Ending.returned (.int .i64 z)) (w64 _ (by omega))

set_option maxRecDepth 20000 in
set_option maxHeartbeats 4000000 in
theorem pfxOfP (six : Bool) (bs : List Int) (hg : GoodA bs) (hv : validA six bs = true) (k : Nat) (hk : (k : Int) ≤ bitL six) (w : World) :
    Calls Tryd.prog 38 #[.agg (addrC six bs).toArray, .int .i64 k] w fun e w' => e = .returned (.tuple #[.agg (pfxC (six, truncL bs k, (k : Int))).toArray, .bool true]) ∧ Ch [] w w' := by
  have hL := bitL_le six
  have B0 : Blk ((w.alloc (.cells (addrC six bs).toArray 24)).alloc (.cells #[.bool false, .int .u8 0, .int .u8 0, .int .u8 0, .int .u8 0, .int .u8 0, .int .u8 0, .int .u8 0, .int .u8 0, .int .u8 0, .int .u8 0, .int .u8 0, .int .u8 0, .int .u8 0, .int .u8 0, .int .u8 0, .int .u8 0, .int .i64 0] 33)) w.heap.size 24 (addrC six bs) := (Blk.new w _ _).alloc _
  have BP : Blk ((w.alloc (.cells (addrC six bs).toArray 24)).alloc (.cells #[.bool false, .int .u8 0, .int .u8 0, .int .u8 0, .int .u8 0, .int .u8 0, .int .u8 0, .int .u8 0, .int .u8 0, .int .u8 0, .int .u8 0, .int .u8 0, .int .u8 0, .int .u8 0, .int .u8 0, .int .u8 0, .int .u8 0, .int .i64 0] 33)) (w.heap.size + 1) 33 (pfxC (false, zeros, 0)) := Blk.newAt _ _ _ (by simp)
  have CC : Ch [] w ((w.alloc (.cells (addrC six bs).toArray 24)).alloc (.cells #[.bool false, .int .u8 0, .int .u8 0, .int .u8 0, .int .u8 0, .int .u8 0, .int .u8 0, .int .u8 0, .int .u8 0, .int .u8 0, .int .u8 0, .int .u8 0, .int .u8 0, .int .u8 0, .int .u8 0, .int .u8 0, .int .u8 0, .int .i64 0] 33)) := ((Ch.refl [] w).alloc _).alloc _
  have HV := hid (ipValid six bs hg.1 hg.2)
  rw [hv] at HV
  have HB := hid (bitLenP six bs)
  have HT := hid (fun w => truncP six bs hg k (by omega) (by omega) w)
  have HI := hid (addr_inf (six := six) hg.1)
  obtain ⟨y0, y1, y2, y3, y4, y5, y6, y7, y8, y9, y10, y11, y12, y13, y14, y15, hy⟩ := len16 (trunc_good hg k).1
  rw [hy] at HT ⊢
  replace HT : Hid (∀ w, Calls Tryd.prog 63 #[.agg (addrC six bs).toArray, .int .i64 k] w fun e w' => e = .returned (.agg #[.bool six, .int .u8 y0, .int .u8 y1, .int .u8 y2, .int .u8 y3, .int .u8 y4, .int .u8 y5, .int .u8 y6, .int .u8 y7, .int .u8 y8, .int .u8 y9, .int .u8 y10, .int .u8 y11, .int .u8 y12, .int .u8 y13, .int .u8 y14, .int .u8 y15]) ∧ Ch [] w w') := HT
  have HIP := hid (pfx_inf (p := (six, [y0, y1, y2, y3, y4, y5, y6, y7, y8, y9, y10, y11, y12, y13, y14, y15], (k : Int))) rfl)
  have hk0 : ¬ (k : Int) < 0 := by omega
  have hk1 : ¬ (k : Int) > bitL six := by omega
  generalize bitL six = L at *
  clear hy hg hv
  generalize addrC six bs = cs at *
  go_enter Tryd.func38, Tryd.ntmps38
  go_wp2_with (first
    | (refine wpList_load_want rfl 24 _ rfl w.heap.size 0 rfl cs _ B0.range Tryd.underlying24 rfl HI.out ?_)
    | (go_at_call 61; (with_reducible refine (HV.out _).mono ?_); rintro e wn ⟨rfl, Cn⟩; replace B0 := B0.ch Cn (by simp); replace BP := BP.ch Cn (by simp); replace CC := CC.trans Cn; clear Cn)
    | (go_at_call 62; (with_reducible refine (HB.out _).mono ?_); rintro e wn ⟨rfl, Cn⟩; replace B0 := B0.ch Cn (by simp); replace BP := BP.ch Cn (by simp); replace CC := CC.trans Cn; clear Cn)
    | (go_at_call 63; (with_reducible refine (HT.out _).mono ?_); rintro e wn ⟨rfl, Cn⟩; replace B0 := B0.ch Cn (by simp); replace BP := BP.ch Cn (by simp); replace CC := CC.trans Cn; clear Cn)
    | (refine wpList_storeB rfl 33 _ _ rfl (w.heap.size + 1) 33 (pfxC (false, zeros, 0)) (pfxC (six, [y0, y1, y2, y3, y4, y5, y6, y7, y8, y9, y10, y11, y12, y13, y14, y15], (k : Int))) rfl rfl BP HIP.out rfl (pfx_one _) ?_; intro w5 B5 C5 Z5))
  try simp only [Exit.inBlock, Exit.then]
  refine bodyPost_ret (results_rowF2 rfl _ _ rfl B5 Tryd.underlying33 rfl HIP.out) rfl ?_
  exact ⟨rfl, CC.step C5 (fun i hi => .inr (by simp at hi; omega))⟩

/-! ### the reference: bit after bit -/
theorem clr_byte (b : Int) (hb : 0 ≤ b ∧ b ≤ 255) (r : Nat) (hr : r < 8) : (0 ≤ bits .andNot .u8 b (2 ^ (7 - r)) ∧ bits .andNot .u8 b (2 ^ (7 - r)) ≤ 255) ∧ ∀ j, j < 8 → bits .andNot .u8 b (2 ^ (7 - r)) / 2 ^ (7 - j) % 2 = if j = r then 0 else b / 2 ^ (7 - j) % 2 := by
  have hall : ∀ b : Fin 256, ∀ r : Fin 8, (0 ≤ bits .andNot .u8 (b.val : Int) (2 ^ (7 - r.val)) ∧ bits .andNot .u8 (b.val : Int) (2 ^ (7 - r.val)) ≤ 255) ∧ ∀ j : Fin 8, bits .andNot .u8 (b.val : Int) (2 ^ (7 - r.val)) / 2 ^ (7 - j.val) % 2 = if j.val = r.val then 0 else (b.val : Int) / 2 ^ (7 - j.val) % 2 := by decide +kernel
  obtain ⟨n, rfl⟩ := Int.eq_ofNat_of_zero_le hb.1
  have := hall ⟨n, by omega⟩ ⟨r, hr⟩
  exact ⟨this.1, fun j hj => this.2 ⟨j, hj⟩⟩
theorem at_set (l : List Int) (i j : Nat) (v : Int) (hi : i < l.length) : at_ (l.set i v) j = if j = i then v else at_ l j := by
  unfold at_ List.getD
  rw [List.getElem?_set]
  by_cases h : i = j
  · subst h; simp [hi]
  · simp [h, Ne.symm h]
/-- The bits from m to i are cleared. -/
def Clr (bs cs : List Int) (m i : Nat) : Prop := GoodA cs ∧ ∀ j, j < 128 → bitA cs j = if m ≤ j ∧ j < i then 0 else bitA bs j
theorem Clr.step {bs cs : List Int} {m i : Nat} (h : Clr bs cs m i) (hm : m ≤ i) (hi : i < 128) : Clr bs (cs.set (i / 8) (bits .andNot .u8 (at_ cs (i / 8)) (2 ^ (7 - i % 8)))) m (i + 1) := by
  obtain ⟨hg, hb⟩ := h
  have hq : i / 8 < 16 := by omega
  have hc := clr_byte _ (hg.at hq) (i % 8) (by omega)
  refine ⟨⟨by rw [List.length_set]; exact hg.1, fun x hx => ?_⟩, fun j hj => ?_⟩
  · rcases List.mem_or_eq_of_mem_set hx with h | h
    · exact hg.2 x h
    · rw [h]; exact hc.1
  · unfold bitA
    rw [at_set _ _ _ _ (by rw [hg.1]; exact hq)]
    by_cases hj8 : j / 8 = i / 8
    · rw [if_pos hj8, hc.2 (j % 8) (by omega)]
      by_cases hr : j % 8 = i % 8
      · obtain rfl : j = i := by omega
        rw [if_pos rfl, if_pos ⟨hm, by omega⟩]
      · rw [if_neg hr, ← hj8]
        have := hb j hj
        unfold bitA at this
        rw [this]
        have hne : j ≠ i := fun e => hr (by rw [e])
        by_cases hx : m ≤ j ∧ j < i
        · rw [if_pos hx, if_pos ⟨hx.1, by omega⟩]
        · rw [if_neg hx, if_neg (by omega)]
    · rw [if_neg hj8]
      have := hb j hj
      unfold bitA at this
      rw [this]
      have hne : j ≠ i := fun e => hj8 (by rw [e])
      by_cases hx : m ≤ j ∧ j < i
      · rw [if_pos hx, if_pos ⟨hx.1, by omega⟩]
      · rw [if_neg hx, if_neg (by omega)]
theorem Clr.done {bs cs : List Int} {m : Nat} {six : Bool} (h : Clr bs cs m (bitL six).toNat) (hg : GoodA bs) (hv : validA six bs = true) (hm : (m : Int) ≤ bitL six) : cs = truncL bs m := by
  have hL := bitL_le six
  obtain ⟨hc, hb⟩ := h
  have hz : six = false → ∀ i, 4 ≤ i → i < 16 → at_ bs i = 0 := fun e => by subst e; exact validA_zero hg.1 hv
  have hall : ∀ i, m ≤ i → i < 128 → bitA cs i = 0 := by
    intro i h1 h2
    rw [hb i h2]
    by_cases h3 : (i : Int) < bitL six
    · rw [if_pos ⟨h1, by omega⟩]
    · rw [if_neg (by omega)]
      cases six
      · have h4 : 32 ≤ i := by simp only [bitL, Bool.false_eq_true, if_false] at h3; omega
        unfold bitA
        rw [hz rfl (i / 8) (by omega) (by omega)]
        simp
      · simp only [bitL, if_true] at h3; omega
  have hcut : truncL cs m = cs := (cut_iff cs m 128 hc.1 hc.2 (by omega) (.inl rfl)).2 hall
  refine ((agree_iff cs bs m hc.1 hg.1 hc.2 hg.2 (by omega) hcut).2 fun i hi => ?_).symm
  rw [hb i (by omega), if_neg (by omega)]
set_option maxRecDepth 20000 in
set_option maxHeartbeats 8000000 in
theorem refPfxOf (six : Bool) (bs : List Int) (hg : GoodA bs) (hv : validA six bs = true) (k : Nat) (hk : (k : Int) ≤ bitL six) (w : World) :
    Calls Tryd.prog 11 #[.agg (addrC six bs).toArray, .int .i64 k] w fun e w' => e = .returned (.tuple #[.agg (pfxC (six, truncL bs k, (k : Int))).toArray, .bool true]) ∧ Ch [] w w' := by
  have hL := bitL_le six
  have B0 : Blk ((w.alloc (.cells (addrC six bs).toArray 24)).alloc (.cells #[.bool false, .int .u8 0, .int .u8 0, .int .u8 0, .int .u8 0, .int .u8 0, .int .u8 0, .int .u8 0, .int .u8 0, .int .u8 0, .int .u8 0, .int .u8 0, .int .u8 0, .int .u8 0, .int .u8 0, .int .u8 0, .int .u8 0, .int .i64 0] 33)) w.heap.size 24 (addrC six bs) := (Blk.new w _ _).alloc _
  have BP : Blk ((w.alloc (.cells (addrC six bs).toArray 24)).alloc (.cells #[.bool false, .int .u8 0, .int .u8 0, .int .u8 0, .int .u8 0, .int .u8 0, .int .u8 0, .int .u8 0, .int .u8 0, .int .u8 0, .int .u8 0, .int .u8 0, .int .u8 0, .int .u8 0, .int .u8 0, .int .u8 0, .int .u8 0, .int .i64 0] 33)) (w.heap.size + 1) 33 (pfxC (false, zeros, 0)) := Blk.newAt _ _ _ (by simp)
  have CC : Ch [] w ((w.alloc (.cells (addrC six bs).toArray 24)).alloc (.cells #[.bool false, .int .u8 0, .int .u8 0, .int .u8 0, .int .u8 0, .int .u8 0, .int .u8 0, .int .u8 0, .int .u8 0, .int .u8 0, .int .u8 0, .int .u8 0, .int .u8 0, .int .u8 0, .int .u8 0, .int .u8 0, .int .u8 0, .int .i64 0] 33)) := ((Ch.refl [] w).alloc _).alloc _
  have HV := hid (refValid six bs hg.1)
  rw [hv] at HV
  have HB : Hid (∀ cs w, Calls Tryd.prog 10 #[.agg (addrC six cs).toArray] w fun e w' => e = .returned (.int .i64 (bitL six)) ∧ Ch [] w w') := fun cs => bitLenR six cs
  have HI : Hid (∀ cs, GoodA cs → (Tryd.prog.info? 24).map (·.size) = some (addrC six cs).length) := fun cs h => addr_inf (six := six) h.1
  have H0 : Hid (Clr bs bs k k) := ⟨hg, fun j _ => by rw [if_neg (by omega)]⟩
  have HD : Hid (∀ cs, Clr bs cs k (bitL six).toNat → cs = truncL bs k) := fun cs h => h.done hg hv hk
  have hk0 : ¬ (k : Int) < 0 := by omega
  have hk1 : ¬ (k : Int) > bitL six := by omega
  have hLn : 0 ≤ bitL six := by cases six <;> decide
  have HG := hid hg
  generalize bitL six = L at *
  clear hg hv
  go_enter Tryd.func11, Tryd.ntmps11
  go_wp2_with (first
    | (refine wpList_load_want rfl 24 _ rfl w.heap.size 0 rfl (addrC six bs) _ B0.range Tryd.underlying24 rfl (HI.out _ HG.out) ?_)
    | (go_at_call 26; (with_reducible refine (HV.out _).mono ?_); rintro e wn ⟨rfl, Cn⟩; replace B0 := B0.ch Cn (by simp); replace BP := BP.ch Cn (by simp); replace CC := CC.trans Cn; clear Cn)
    | (go_at_call 10; (with_reducible refine (HB.out _ _).mono ?_); rintro e wn ⟨rfl, Cn⟩; replace B0 := B0.ch Cn (by simp); replace BP := BP.ch Cn (by simp); replace CC := CC.trans Cn; clear Cn))
  go_loopw [6] (fun i wr => ∃ (m : Nat) (cs : List Int), i = .int .i64 m ∧ k ≤ m ∧ (m : Int) ≤ L ∧ Hid (Clr bs cs k m) ∧ Blk wr w.heap.size 24 (addrC six cs) ∧ Blk wr (w.heap.size + 1) 33 (pfxC (false, zeros, 0)) ∧ Ch [] w wr) (fun i _ => (L - intOf i).toNat)
  case atStart => exact ⟨k, bs, rfl, by omega, by omega, H0, B0, BP, CC⟩
  case round =>
    clear B0 BP CC H0
    obtain ⟨m, cs, rfl, hm, hmL, HC, B0, BP, CC⟩ := hrel
    by_cases hlt : (m : Int) < L
    · have HS : Hid (Clr bs (cs.set (m / 8) (bits .andNot .u8 (at_ cs (m / 8)) (2 ^ (7 - m % 8)))) k (m + 1)) := HC.out.step hm (by omega)
      obtain ⟨q, hq⟩ : ∃ q : Nat, m / 8 = q := ⟨_, rfl⟩
      obtain ⟨r, hr⟩ : ∃ r : Nat, m % 8 = r := ⟨_, rfl⟩
      have hqi : (m : Int) / 8 = q := by omega
      have hri : (m : Int) % 8 = r := by omega
      have hq16 : q < 16 := by omega
      have hr8 : r < 8 := by omega
      rw [hq, hr] at HS
      have hgc := HC.out.1
      obtain ⟨x0, x1⟩ := hgc.at hq16
      have HIC := hid (HI.out cs hgc)
      have hcB : ∀ w', Blk w' w.heap.size 24 (addrC six cs) → w'.cell? ⟨w.heap.size, 1 + q, none⟩ = some (.int .u8 (at_ cs q)) := fun w' h => by rw [h.cell, addrC_byte (by rw [hgc.1]; exact hq16)]
      have HCB := hid hcB
      have HST : Hid (∀ w' v, Blk w' w.heap.size 24 (addrC six cs) → Blk (w'.setCell ⟨w.heap.size, 1 + q, none⟩ (.int .u8 v)) w.heap.size 24 (addrC six (cs.set q v))) := fun w' v h => by
        rw [← addr_set]; exact h.set _ _
      clear hcB hgc hq hr
      generalize at_ cs q = x at HCB HS x0 x1
      rcases (show r = 0 ∨ r = 1 ∨ r = 2 ∨ r = 3 ∨ r = 4 ∨ r = 5 ∨ r = 6 ∨ r = 7 by omega) with rfl | rfl | rfl | rfl | rfl | rfl | rfl | rfl
      all_goals
        simp only [Nat.reduceSub, Int.reducePow] at HS
        go_wp2_with (first
          | (refine wpList_load_want rfl 24 _ rfl w.heap.size 0 rfl (addrC six cs) _ B0.range Tryd.underlying24 rfl HIC.out ?_)
          | (go_at_call 10; (with_reducible refine (HB.out _ _).mono ?_); rintro e wn ⟨rfl, Cn⟩; replace B0 := B0.ch Cn (by simp); replace BP := BP.ch Cn (by simp); replace CC := CC.trans Cn; clear Cn; have hcc := HCB.out _ B0; have hff := B0.frozen (1 + q)))
        go_roundw
        case rel => exact ⟨m + 1, _, by go_num, by omega, by omega, HS, HST.out _ _ B0, BP.far (by simp) _, CC.setCell (.inr (Nat.le_refl _)) _⟩
        case measure => simp [intOf]; omega
    · obtain rfl : L = m := by omega
      obtain rfl := HD.out cs (by simpa using HC.out)
      have hgc := HC.out.1
      have HIC := hid (HI.out _ hgc)
      obtain ⟨y0, y1, y2, y3, y4, y5, y6, y7, y8, y9, y10, y11, y12, y13, y14, y15, hy⟩ := len16 hgc.1
      rw [hy] at B0 HIC
      have HY := hid hy
      have HIP := hid (pfx_inf (p := (six, [y0, y1, y2, y3, y4, y5, y6, y7, y8, y9, y10, y11, y12, y13, y14, y15], (k : Int))) rfl)
      have HB2 : Hid (∀ w, Calls Tryd.prog 10 #[.agg #[.bool six, .int .u8 y0, .int .u8 y1, .int .u8 y2, .int .u8 y3, .int .u8 y4, .int .u8 y5, .int .u8 y6, .int .u8 y7, .int .u8 y8, .int .u8 y9, .int .u8 y10, .int .u8 y11, .int .u8 y12, .int .u8 y13, .int .u8 y14, .int .u8 y15]] w fun e w' => e = .returned (.int .i64 m) ∧ Ch [] w w') := HB.out [y0, y1, y2, y3, y4, y5, y6, y7, y8, y9, y10, y11, y12, y13, y14, y15]
      clear hy hgc HC
      go_wp2_with (first
        | (refine wpList_load_want rfl 24 _ rfl w.heap.size 0 rfl [.bool six, .int .u8 y0, .int .u8 y1, .int .u8 y2, .int .u8 y3, .int .u8 y4, .int .u8 y5, .int .u8 y6, .int .u8 y7, .int .u8 y8, .int .u8 y9, .int .u8 y10, .int .u8 y11, .int .u8 y12, .int .u8 y13, .int .u8 y14, .int .u8 y15] _ B0.range Tryd.underlying24 rfl HIC.out ?_)
        | (go_at_call 10; (with_reducible refine (HB2.out _).mono ?_); rintro e wn ⟨rfl, Cn⟩; replace B0 := B0.ch Cn (by simp); replace BP := BP.ch Cn (by simp); replace CC := CC.trans Cn; clear Cn)
        | (refine wpList_storeB rfl 33 _ _ rfl (w.heap.size + 1) 33 (pfxC (false, zeros, 0)) (pfxC (six, [y0, y1, y2, y3, y4, y5, y6, y7, y8, y9, y10, y11, y12, y13, y14, y15], (k : Int))) rfl rfl BP HIP.out rfl (pfx_one _) ?_; intro w5 B5 C5 Z5))
      try simp only [Exit.inBlock, Exit.then]
      refine bodyPost_ret (results_rowF2 rfl _ _ rfl B5 Tryd.underlying33 rfl HIP.out) rfl ?_
      exact ⟨by (rw [HY.out]) <;> rfl, CC.step C5 (fun i hi => .inr (by simp at hi; omega))⟩
end Go.Proofs.YtjpiekljjhgmoaaDoor
