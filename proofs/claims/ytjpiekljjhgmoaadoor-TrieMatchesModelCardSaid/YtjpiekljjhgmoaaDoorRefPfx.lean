/- ginnelref07.ValidPrefix, Contains. -/
import Derived.Test.YtjpiekljjhgmoaaDoorMC
namespace Go.Proofs.YtjpiekljjhgmoaaDoor
open Go.RowKit

theorem validA_zero {bs : List Int} (hl : bs.length = 16) (h : validA false bs = true) : ∀ i, 4 ≤ i → i < 16 → at_ bs i = 0 := by
  intro i h4 h16
  by_cases h0 : at_ bs i = 0
  · exact h0
  · rw [validA_not hl h4 h16 h0] at h; cases h
set_option maxRecDepth 20000 in
set_option maxHeartbeats 4000000 in
theorem refValidPfx (six : Bool) (bs : List Int) (n : Int) (hg : GoodA bs) (w : World) :
    Calls Tryd.prog 31 #[.agg (pfxC (six, bs, n)).toArray] w fun e w' => e = .returned (.bool (validP (six, bs, n))) ∧ Ch [] w w' := by
  have hC0 : Ch [] w (w.alloc (.cells (pfxC (six, bs, n)).toArray 33)) := (Ch.refl _ _).alloc _
  have hB : Blk (w.alloc (.cells (pfxC (six, bs, n)).toArray 33)) w.heap.size 33 (pfxC (six, bs, n)) := Blk.new w _ _
  have HBL := hid (bitLenR six bs)
  have HIV := hid (refValid six bs hg.1)
  have HBT := hid (fun i hi => bitR six bs hg i hi)
  have HI := hid (addr_inf (six := six) hg.1)
  have h17 := pfx_bits (p := (six, bs, n)) hg.1
  have hrB : ∀ w', Blk w' w.heap.size 33 (pfxC (six, bs, n)) → w'.rangeAt w.heap.size 0 (addrC six bs) := fun w' h => h.rangeMid 0 _ (fun j v hj => pfx_addr (p := (six, bs, n)) hj)
  have hcB : ∀ w', Blk w' w.heap.size 33 (pfxC (six, bs, n)) → w'.cell? ⟨w.heap.size, 17, none⟩ = some (.int .i64 n) := fun w' h => (h.cell 17).trans h17
  have HRB := hid hrB
  have HCB := hid hcB
  have HR : Hid (∀ w', Ch [] (w.alloc (.cells (pfxC (six, bs, n)).toArray 33)) w' → w'.rangeAt w.heap.size 0 (addrC six bs)) := fun w' h => hrB w' (hB.ch h (by simp))
  have hcA : ∀ x : After (w.alloc (.cells (pfxC (six, bs, n)).toArray 33)), x.w.cell? ⟨w.heap.size, 17, none⟩ = some (.int .i64 n) := fun x => hcB _ (hB.ch x.ch (by simp))
  have hL : bitL six ≤ 128 := by cases six <;> decide
  obtain ⟨V, hV⟩ : ∃ V, validP (six, bs, n) = V := ⟨_, rfl⟩
  rw [hV]
  unfold validP at hV
  generalize pfxC (six, bs, n) = cs at hC0 HR hcA hB HRB HCB ⊢
  clear hrB hcB h17
  cases hva : validA six bs with
  | false =>
    rw [hva] at HIV hV
    obtain rfl : V = false := by rw [← hV]; rfl
    go_enter Tryd.func31, Tryd.ntmps31
    go_wp2_with fail
    refine wp_region_quietA (w.alloc (.cells cs.toArray 33)) (by kernel_rfl) (by kernel_rfl) (Ch.refl _ _) ?_
    repeat (first
      | (go_big_quiet_want; refine quiet_rowA 24 _ rfl w.heap.size 0 rfl (addrC six bs) _ HR.out Tryd.underlying24 rfl HI.out ?_; simp only [Act.put, List.setIfInBounds_toArray, List.set_cons_succ, List.set_cons_zero]; go_big_quiet_on)
      | go_big_quiet_step (first
        | (go_at_call 26; with_reducible exact after_of (HIV.out _))))
    refine wpQuiet_nil ?_
    intro wq hwq
    go_wp2_with fail
    go_ret
    exact ⟨rfl, hC0.trans hwq⟩
  | true =>
    have HVA := hid hva
    rw [hva] at HIV hV
    by_cases h0 : 0 ≤ n
    case neg =>
      obtain rfl : V = false := by rw [← hV]; simp [h0]
      have hd0 : decide (n < 0) = true := by simpa using h0
      go_enter Tryd.func31, Tryd.ntmps31
      go_wp2_with fail
      refine wp_region_quietA (w.alloc (.cells cs.toArray 33)) (by kernel_rfl) (by kernel_rfl) (Ch.refl _ _) ?_
      repeat (first
        | (go_big_quiet_want; refine quiet_rowA 24 _ rfl w.heap.size 0 rfl (addrC six bs) _ HR.out Tryd.underlying24 rfl HI.out ?_; simp only [Act.put, List.setIfInBounds_toArray, List.set_cons_succ, List.set_cons_zero]; go_big_quiet_on)
        | go_big_quiet_step (first
          | (go_at_call 26; with_reducible exact after_of (HIV.out _))))
      refine wpQuiet_nil ?_
      intro wq hwq
      go_wp2_with fail
      go_ret
      exact ⟨rfl, hC0.trans hwq⟩
    have hd0 : decide (n < 0) = false := by simpa using h0
    by_cases h1 : n ≤ bitL six
    case neg =>
      obtain rfl : V = false := by rw [← hV]; simp [h1]
      have hd1 : decide (bitL six < n) = true := by simpa using h1
      go_enter Tryd.func31, Tryd.ntmps31
      go_wp2_with fail
      refine wp_region_quietA (w.alloc (.cells cs.toArray 33)) (by kernel_rfl) (by kernel_rfl) (Ch.refl _ _) ?_
      repeat (first
        | (go_big_quiet_want; refine quiet_rowA 24 _ rfl w.heap.size 0 rfl (addrC six bs) _ HR.out Tryd.underlying24 rfl HI.out ?_; simp only [Act.put, List.setIfInBounds_toArray, List.set_cons_succ, List.set_cons_zero]; go_big_quiet_on)
        | go_big_quiet_step (first
          | (go_at_call 26; with_reducible exact after_of (HIV.out _))
          | (go_at_call 10; with_reducible exact after_of (HBL.out _))))
      refine wpQuiet_nil ?_
      intro wq hwq
      go_wp2_with fail
      go_ret
      exact ⟨rfl, hC0.trans hwq⟩
    have hd1 : decide (bitL six < n) = false := by simpa using h1
    have hVd : decide (truncL bs n = bs) = V := by rw [← hV]; simp [h0, h1]
    obtain ⟨N, rfl⟩ := Int.eq_ofNat_of_zero_le h0
    obtain ⟨L, hLe⟩ : ∃ L : Nat, bitL six = L := ⟨(bitL six).toNat, by cases six <;> rfl⟩
    have HIFF : Hid (truncL bs N = bs ↔ ∀ i, N ≤ i → i < L → bitA bs i = 0) := by
      refine cut_iff bs N L hg.1 hg.2 (by omega) ?_
      cases six
      · exact .inr ⟨by simp [bitL] at hLe; omega, validA_zero hg.1 HVA.out⟩
      · exact .inl (by simp [bitL] at hLe; omega)
    rw [hLe] at HBL HBT hd1 h1 hL
    clear hV
    go_enter Tryd.func31, Tryd.ntmps31
    go_wp2_with fail
    refine wp_region_quietA (w.alloc (.cells cs.toArray 33)) (by kernel_rfl) (by kernel_rfl) (Ch.refl _ _) ?_
    repeat (first
      | (go_big_quiet_want; refine quiet_rowA 24 _ rfl w.heap.size 0 rfl (addrC six bs) _ HR.out Tryd.underlying24 rfl HI.out ?_; simp only [Act.put, List.setIfInBounds_toArray, List.set_cons_succ, List.set_cons_zero]; go_big_quiet_on)
      | go_big_quiet_step (first
        | (go_at_call 26; with_reducible exact after_of (HIV.out _))
        | (go_at_call 10; with_reducible exact after_of (HBL.out _))))
    refine wpQuiet_nil ?_
    intro wq hwq
    have hBq := hB.ch hwq (by simp)
    have hcq := HCB.out _ hBq
    go_wp2_with fail
    have hdN : decide (L < N) = false := by simp; omega
    simp only [hdN]
    go_loopw [3] (fun i wr => ∃ k : Nat, N ≤ k ∧ k ≤ L ∧ i = .int .i64 k ∧ Blk wr w.heap.size 33 cs ∧ Ch [] w wr ∧ Hid (∀ i, N ≤ i → i < k → bitA bs i = 0)) (fun i _ => L - (intOf i).toNat)
    case atStart => exact ⟨N, Nat.le_refl _, by omega, rfl, hBq, hC0.trans hwq, fun i h1 h2 => absurd h2 (by omega)⟩
    case round =>
      obtain ⟨k, hNk, hkL, rfl, B, CC, HZ⟩ := hrel
      by_cases hlt : k < L
      · have hlti : (k : Int) < L := by omega
        have HB1 := hid (HBT.out k hlti)
        rcases bit_rng bs k with hb | hb
        · rw [hb] at HB1
          have HZ2 : Hid (∀ i, N ≤ i → i < k + 1 → bitA bs i = 0) := by
            intro i h1 h2
            rcases Nat.lt_or_ge i k with h3 | h3
            · exact HZ.out i h1 h3
            · obtain rfl : i = k := by omega
              exact hb
          clear hb
          go_wp2_with (first
            | (refine wpList_load_want rfl 24 _ rfl w.heap.size 0 rfl (addrC six bs) _ (HRB.out _ B2) Tryd.underlying24 rfl HI.out ?_)
            | (refine wpList_load_want rfl 24 _ rfl w.heap.size 0 rfl (addrC six bs) _ (HRB.out _ B) Tryd.underlying24 rfl HI.out ?_)
            | (go_at_call 10; (with_reducible refine (HBL.out _).mono ?_); rintro e w2 ⟨rfl, C2⟩; have B2 := B.ch C2 (by simp); have CC2 := CC.trans C2)
            | (go_at_call 40; (with_reducible refine (HB1.out _).mono ?_); rintro e w3 ⟨rfl, C3⟩; have B3 := B2.ch C3 (by simp); have CC3 := CC2.trans C3))
          go_roundw
          case rel => exact ⟨k + 1, by omega, by omega, by go_num, B3, CC3, HZ2⟩
          case measure => simp [intOf]; omega
        · rw [hb] at HB1
          have HVF : Hid (V = false) := by
            show _ = _
            rw [← hVd, decide_eq_false_iff_not, HIFF.out]
            intro h
            have := h k hNk hlt
            omega
          clear hb
          go_wp2_with (first
            | (refine wpList_load_want rfl 24 _ rfl w.heap.size 0 rfl (addrC six bs) _ (HRB.out _ B2) Tryd.underlying24 rfl HI.out ?_)
            | (refine wpList_load_want rfl 24 _ rfl w.heap.size 0 rfl (addrC six bs) _ (HRB.out _ B) Tryd.underlying24 rfl HI.out ?_)
            | (go_at_call 10; (with_reducible refine (HBL.out _).mono ?_); rintro e w2 ⟨rfl, C2⟩; have B2 := B.ch C2 (by simp); have CC2 := CC.trans C2)
            | (go_at_call 40; (with_reducible refine (HB1.out _).mono ?_); rintro e w3 ⟨rfl, C3⟩; have B3 := B2.ch C3 (by simp); have CC3 := CC2.trans C3))
          go_ret
          exact ⟨ret_bool HVF.out.symm, CC3⟩
      · obtain rfl : k = L := by omega
        have HVF : Hid (V = true) := by
          show _ = _
          rw [← hVd, decide_eq_true_iff, HIFF.out]
          exact fun i h1 h2 => HZ.out i h1 h2
        go_wp2_with (first
          | (refine wpList_load_want rfl 24 _ rfl w.heap.size 0 rfl (addrC six bs) _ (HRB.out _ B) Tryd.underlying24 rfl HI.out ?_)
          | (go_at_call 10; (with_reducible refine (HBL.out _).mono ?_); rintro e w2 ⟨rfl, C2⟩; have CC2 := CC.trans C2))
        go_ret
        exact ⟨ret_bool HVF.out.symm, CC2⟩

set_option maxRecDepth 20000 in
set_option maxHeartbeats 4000000 in
theorem refContPfx (six : Bool) (bs : List Int) (n : Int) (hg : GoodA bs) (s6 : Bool) (av : List Int) (ha : GoodA av) (w : World) :
    Calls Tryd.prog 13 #[.agg (pfxC (six, bs, n)).toArray, .agg (addrC s6 av).toArray] w fun e w' => e = .returned (.bool (contP (six, bs, n) s6 av)) ∧ Ch [] w w' := by
  have hC0 : Ch [] w ((w.alloc (.cells (pfxC (six, bs, n)).toArray 33)).alloc (.cells (addrC s6 av).toArray 24)) := ((Ch.refl _ _).alloc _).alloc _
  have hB : Blk ((w.alloc (.cells (pfxC (six, bs, n)).toArray 33)).alloc (.cells (addrC s6 av).toArray 24)) w.heap.size 33 (pfxC (six, bs, n)) := (Blk.new w _ _).alloc _
  have hB2 : Blk ((w.alloc (.cells (pfxC (six, bs, n)).toArray 33)).alloc (.cells (addrC s6 av).toArray 24)) (w.heap.size + 1) 24 (addrC s6 av) := Blk.newAt _ _ _ (by simp)
  have HVP := hid (refValidPfx six bs n hg)
  have HVA := hid (refValid s6 av ha.1)
  have HBT1 := hid (fun i hi => bitR six bs hg i hi)
  have HBT2 := hid (fun i hi => bitR s6 av ha i hi)
  have HI := hid (addr_inf (six := six) hg.1)
  have HIV := hid (addr_inf (six := s6) ha.1)
  have HIP := hid (pfx_inf (p := (six, bs, n)) hg.1)
  have HRB : Hid (∀ w', Blk w' w.heap.size 33 (pfxC (six, bs, n)) → w'.rangeAt w.heap.size 0 (addrC six bs)) := fun w' h => h.rangeMid 0 _ (fun j v hj => pfx_addr (p := (six, bs, n)) hj)
  have HCB : Hid (∀ w', Blk w' w.heap.size 33 (pfxC (six, bs, n)) → w'.cell? ⟨w.heap.size, 17, none⟩ = some (.int .i64 n)) := fun w' h => (h.cell 17).trans (pfx_bits (p := (six, bs, n)) hg.1)
  have HP0 : Hid (∀ w', Blk w' w.heap.size 33 (pfxC (six, bs, n)) → w'.cell? ⟨w.heap.size, 0, none⟩ = some (.bool six)) := fun w' h => h.cell 0
  have HA0 : Hid (∀ w', Blk w' (w.heap.size + 1) 24 (addrC s6 av) → w'.cell? ⟨w.heap.size + 1, 0, none⟩ = some (.bool s6)) := fun w' h => h.cell 0
  have hL : bitL six ≤ 128 := by cases six <;> decide
  obtain ⟨V, hV⟩ : ∃ V, contP (six, bs, n) s6 av = V := ⟨_, rfl⟩
  rw [hV]
  unfold contP at hV
  have hvn : validP (six, bs, n) = true → 0 ≤ n ∧ n ≤ bitL six ∧ truncL bs n = bs := by
    intro h
    simp only [validP, Bool.and_eq_true, decide_eq_true_eq] at h
    exact ⟨h.1.1.2, h.1.2, h.2⟩
  obtain ⟨cs, hcs⟩ : ∃ cs, pfxC (six, bs, n) = cs := ⟨_, rfl⟩
  obtain ⟨vs, hvs⟩ : ∃ vs, addrC s6 av = vs := ⟨_, rfl⟩
  obtain ⟨ps, hps⟩ : ∃ ps, addrC six bs = ps := ⟨_, rfl⟩
  rw [hcs, hvs] at hC0 hB hB2
  rw [hcs, hps] at HRB
  rw [hcs] at HIP HVP HCB HP0
  rw [hvs] at HVA HIV HBT2 HA0
  rw [hps] at HI HBT1
  rw [hcs, hvs]
  clear hcs hvs hps
  cases hvp : validP (six, bs, n) with
  | false =>
    rw [hvp] at HVP hV
    obtain rfl : V = false := by rw [← hV]; rfl
    go_enter Tryd.func13, Tryd.ntmps13
    go_wp2_with (first
      | (refine wpList_load_want rfl 33 _ rfl w.heap.size 0 rfl cs _ hB.range Tryd.underlying33 rfl HIP.out ?_)
      | (refine wpList_load_want rfl 24 _ rfl (w.heap.size + 1) 0 rfl vs _ A1.range Tryd.underlying24 rfl HIV.out ?_)
      | (go_at_call 31; (with_reducible refine (HVP.out _).mono ?_); rintro e w1 ⟨rfl, C1⟩; have A1 := hB2.ch C1 (by simp); have B1 := hB.ch C1 (by simp); have CE := hC0.trans C1)
      | (go_at_call 26; (with_reducible refine (HVA.out _).mono ?_); rintro e w2 ⟨rfl, C2⟩; have CE2 := CE.trans C2; have A2 := A1.ch C2 (by simp); have B2 := B1.ch C2 (by simp); have a0 := HA0.out _ A2; have p0 := HP0.out _ B2))
    go_ret
    exact ⟨rfl, CE⟩
  | true =>
    have hvn := hvn hvp
    rw [hvp] at HVP hV
    cases hva : validA s6 av with
    | false =>
      rw [hva] at HVA hV
      obtain rfl : V = false := by rw [← hV]; rfl
      go_enter Tryd.func13, Tryd.ntmps13
      go_wp2_with (first
        | (refine wpList_load_want rfl 33 _ rfl w.heap.size 0 rfl cs _ hB.range Tryd.underlying33 rfl HIP.out ?_)
        | (refine wpList_load_want rfl 24 _ rfl (w.heap.size + 1) 0 rfl vs _ A1.range Tryd.underlying24 rfl HIV.out ?_)
        | (go_at_call 31; (with_reducible refine (HVP.out _).mono ?_); rintro e w1 ⟨rfl, C1⟩; have A1 := hB2.ch C1 (by simp); have B1 := hB.ch C1 (by simp); have CE := hC0.trans C1)
        | (go_at_call 26; (with_reducible refine (HVA.out _).mono ?_); rintro e w2 ⟨rfl, C2⟩; have CE2 := CE.trans C2; have A2 := A1.ch C2 (by simp); have B2 := B1.ch C2 (by simp); have a0 := HA0.out _ A2; have p0 := HP0.out _ B2))
      go_ret
      exact ⟨rfl, CE2⟩
    | true =>
      rw [hva] at HVA hV
      by_cases h6 : six = s6
      case neg =>
        have h6b : (six == s6) = false := by simpa using h6
        obtain rfl : V = false := by rw [← hV]; simp [h6b]
        obtain rfl | rfl := Bool.eq_false_or_eq_true six
        all_goals obtain rfl | rfl := Bool.eq_false_or_eq_true s6
        all_goals first | (exact absurd rfl h6) | skip
        all_goals
          go_enter Tryd.func13, Tryd.ntmps13
          go_wp2_with (first
            | (refine wpList_load_want rfl 33 _ rfl w.heap.size 0 rfl cs _ hB.range Tryd.underlying33 rfl HIP.out ?_)
            | (refine wpList_load_want rfl 24 _ rfl (w.heap.size + 1) 0 rfl vs _ A1.range Tryd.underlying24 rfl HIV.out ?_)
            | (go_at_call 31; (with_reducible refine (HVP.out _).mono ?_); rintro e w1 ⟨rfl, C1⟩; have A1 := hB2.ch C1 (by simp); have B1 := hB.ch C1 (by simp); have CE := hC0.trans C1)
            | (go_at_call 26; (with_reducible refine (HVA.out _).mono ?_); rintro e w2 ⟨rfl, C2⟩; have CE2 := CE.trans C2; have A2 := A1.ch C2 (by simp); have B2 := B1.ch C2 (by simp); have a0 := HA0.out _ A2; have p0 := HP0.out _ B2))
          go_ret
          exact ⟨rfl, CE2⟩
      subst h6
      have hVd : decide (truncL av n = bs) = V := by rw [← hV]; simp
      obtain ⟨h0, h1, ht⟩ := hvn
      obtain ⟨N, rfl⟩ := Int.eq_ofNat_of_zero_le h0
      have HIFF : Hid (truncL av N = bs ↔ ∀ i, i < N → bitA bs i = bitA av i) := agree_iff bs av N hg.1 ha.1 hg.2 ha.2 (by omega) ht
      clear hV ht
      have HBL : Hid (∀ i : Nat, i < N → (i : Int) < bitL six) := fun i hi => by omega
      go_enter Tryd.func13, Tryd.ntmps13
      go_wp2_with (first
        | (refine wpList_load_want rfl 33 _ rfl w.heap.size 0 rfl cs _ hB.range Tryd.underlying33 rfl HIP.out ?_)
        | (refine wpList_load_want rfl 24 _ rfl (w.heap.size + 1) 0 rfl vs _ A1.range Tryd.underlying24 rfl HIV.out ?_)
        | (go_at_call 31; (with_reducible refine (HVP.out _).mono ?_); rintro e w1 ⟨rfl, C1⟩; have A1 := hB2.ch C1 (by simp); have B1 := hB.ch C1 (by simp); have CE := hC0.trans C1)
        | (go_at_call 26; (with_reducible refine (HVA.out _).mono ?_); rintro e w2 ⟨rfl, C2⟩; have CE2 := CE.trans C2; have A2 := A1.ch C2 (by simp); have B2 := B1.ch C2 (by simp); have a0 := HA0.out _ A2; have p0 := HP0.out _ B2))
      go_loopw [5] (fun i wr => ∃ k : Nat, k ≤ N ∧ i = .int .i64 k ∧ Blk wr w.heap.size 33 cs ∧ Blk wr (w.heap.size + 1) 24 vs ∧ Ch [] w wr ∧ Hid (∀ i, i < k → bitA bs i = bitA av i)) (fun i _ => N - (intOf i).toNat)
      case atStart => exact ⟨0, Nat.zero_le _, rfl, B2, A2, CE2, fun i h => absurd h (by omega)⟩
      case round =>
        clear a0 p0
        obtain ⟨k, hkN, rfl, B, A, CC, HZ⟩ := hrel
        have c17 := HCB.out _ B
        have B17 : ∀ x : After wr, x.w.cell? ⟨w.heap.size, 17, none⟩ = some (.int .i64 N) := fun x => HCB.out _ (B.ch x.ch (by simp))
        by_cases hlt : k < N
        · have hlti : (k : Int) < N := by omega
          have HB1 := hid (HBT1.out k (HBL.out k hlt))
          have HB2 := hid (HBT2.out k (HBL.out k hlt))
          have HK := hid hlt
          obtain ⟨b1, hb1⟩ : ∃ b, bitA bs k = b := ⟨_, rfl⟩
          obtain ⟨b2, hb2⟩ : ∃ b, bitA av k = b := ⟨_, rfl⟩
          rw [hb1] at HB1
          rw [hb2] at HB2
          by_cases hb : b1 = b2
          · subst hb
            have HZ2 : Hid (∀ i, i < k + 1 → bitA bs i = bitA av i) := by
              intro i h2
              rcases Nat.lt_or_ge i k with h3 | h3
              · exact HZ.out i h3
              · obtain rfl : i = k := by omega
                rw [hb1, hb2]
            clear hb1 hb2
            go_wp2_with fail
            refine wp_region_quietA (wr) (by kernel_rfl) (by kernel_rfl) (Ch.refl _ _) ?_
            repeat (first
              | (go_big_quiet_want; refine quiet_rowA 24 _ rfl w.heap.size 0 rfl ps _ (fun u hu => HRB.out _ (B.ch hu (by simp))) Tryd.underlying24 rfl HI.out ?_; simp only [Act.put, List.setIfInBounds_toArray, List.set_cons_succ, List.set_cons_zero]; go_big_quiet_on)
              | (go_big_quiet_want; refine quiet_rowA 24 _ rfl (w.heap.size + 1) 0 rfl vs _ (fun u hu => (A.ch hu (by simp)).range) Tryd.underlying24 rfl HIV.out ?_; simp only [Act.put, List.setIfInBounds_toArray, List.set_cons_succ, List.set_cons_zero]; go_big_quiet_on)
              | go_big_quiet_step (first
                | (go_at_call 40; with_reducible exact after_of (HB1.out _))
                | (go_at_call 40; with_reducible exact after_of (HB2.out _))))
            refine wpQuiet_nil ?_
            intro wq hwq
            go_wp2_with fail
            go_roundw
            case rel => exact ⟨k + 1, by omega, by go_num, B.ch hwq (by simp), A.ch hwq (by simp), CC.trans hwq, HZ2⟩
            case measure => simp [intOf]; omega
          · have HVF : Hid (V = false) := by
              show _ = _
              rw [← hVd, decide_eq_false_iff_not, HIFF.out]
              intro h
              have := h k hlt
              rw [hb1, hb2] at this
              exact hb this
            have hbd : (b1 == b2) = false := by simpa using hb
            have hbd' : (b1 != b2) = true := by simpa using hb
            clear hb1 hb2
            go_wp2_with fail
            refine wp_region_quietA (wr) (by kernel_rfl) (by kernel_rfl) (Ch.refl _ _) ?_
            repeat (first
              | (go_big_quiet_want; refine quiet_rowA 24 _ rfl w.heap.size 0 rfl ps _ (fun u hu => HRB.out _ (B.ch hu (by simp))) Tryd.underlying24 rfl HI.out ?_; simp only [Act.put, List.setIfInBounds_toArray, List.set_cons_succ, List.set_cons_zero]; go_big_quiet_on)
              | (go_big_quiet_want; refine quiet_rowA 24 _ rfl (w.heap.size + 1) 0 rfl vs _ (fun u hu => (A.ch hu (by simp)).range) Tryd.underlying24 rfl HIV.out ?_; simp only [Act.put, List.setIfInBounds_toArray, List.set_cons_succ, List.set_cons_zero]; go_big_quiet_on)
              | go_big_quiet_step (first
                | (go_at_call 40; with_reducible exact after_of (HB1.out _))
                | (go_at_call 40; with_reducible exact after_of (HB2.out _))))
            refine wpQuiet_nil ?_
            intro wq hwq
            go_wp2_with fail
            go_ret
            exact ⟨ret_bool HVF.out.symm, CC.trans hwq⟩
        · obtain rfl : k = N := by omega
          have HVF : Hid (V = true) := by
            show _ = _
            rw [← hVd, decide_eq_true_iff, HIFF.out]
            exact fun i h2 => HZ.out i h2
          go_wp2_with fail
          go_ret
          exact ⟨ret_bool HVF.out.symm, CC⟩
end Go.Proofs.YtjpiekljjhgmoaaDoor
