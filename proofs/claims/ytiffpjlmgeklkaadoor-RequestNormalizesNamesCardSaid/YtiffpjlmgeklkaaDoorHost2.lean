/- host.validLabel, validName, ParseName. -/
import Derived.Test.YtiffpjlmgeklkaaDoorHost
namespace Go.Proofs.YtiffpjlmgeklkaaDoor
open Go.RowKit

theorem labOk_def (s : ByteArray) (r : Bool) (h : (decide (1 ≤ s.size ∧ s.size ≤ 63) && !decide (byt s 0 = 45) && !decide (byt s (s.size - 1) = 45) && (numsOf s).all chrOk) = r) (h0 : 1 ≤ s.size ∨ r = false) : labOk (numsOf s) = r := by
  unfold labOk
  rw [numsOf_length]
  by_cases h1 : 1 ≤ s.size
  · rw [← byt_at (show 0 < s.size by omega), ← byt_at (show s.size - 1 < s.size by omega)]
    exact h
  · have hd : decide (1 ≤ s.size ∧ s.size ≤ 63) = false := by simp; omega
    rw [hd]
    rcases h0 with h0 | h0
    · omega
    · rw [h0]; rfl

set_option maxRecDepth 20000 in
set_option maxHeartbeats 1000000 in
theorem hostLabel (s : ByteArray) (hs : s.size ≤ 1000000) (w : World) : Calls Tryd.prog 54 #[.string s] w fun e w' => e = .returned (.bool (labOk (numsOf s))) ∧ Ch [] w w' := by
  by_cases h1 : 1 ≤ s.size
  · by_cases h2 : s.size ≤ 63
    · have hp0 : 0 < s.size := by omega
      have hp1 : s.size - 1 < s.size := by omega
      have e0 : ((s[0]'hp0).toNat : Int) = byt s 0 := byt_get hp0
      have e1 : ((s[s.size - 1]'hp1).toNat : Int) = byt s (s.size - 1) := byt_get hp1
      have hb2 : 1 ≤ (s.size : Int) ∧ (s.size : Int) - 1 < s.size := by omega
      by_cases c0 : byt s 0 = 45
      · have HL : labOk (numsOf s) = false := labOk_def s false (by simp [c0]) (.inr rfl)
        rw [HL]
        clear HL
        rw [c0] at e0
        clear c0
        go_enter Tryd.func54, Tryd.ntmps54
        go_wp2
        go_ret
        exact ⟨rfl, Ch.refl _ _⟩
      · by_cases c1 : byt s (s.size - 1) = 45
        · have HL : labOk (numsOf s) = false := labOk_def s false (by simp [c1]) (.inr rfl)
          rw [HL]
          clear HL
          rw [c1] at e1
          have hne : ¬ ((s[0]'hp0).toNat : Int) = 45 := by rw [e0]; exact c0
          have hnb : (((s[0]'hp0).toNat : Int) == 45) = false := by simpa using hne
          clear c1 c0 e0
          go_enter Tryd.func54, Tryd.ntmps54
          go_wp2
          go_ret
          exact ⟨rfl, Ch.refl _ _⟩
        · have hne : ¬ ((s[0]'hp0).toNat : Int) = 45 := by rw [e0]; exact c0
          have hme : ¬ ((s[s.size - 1]'hp1).toNat : Int) = 45 := by rw [e1]; exact c1
          have hnb : (((s[0]'hp0).toNat : Int) == 45) = false := by simpa using hne
          have hmb : (((s[s.size - 1]'hp1).toNat : Int) == 45) = false := by simpa using hme
          have HL : labOk (numsOf s) = (numsOf s).all chrOk := labOk_def s _ (by simp [c0, c1, h1, h2]) (.inl h1)
          rw [HL]
          clear HL c0 c1 e0 e1
          have HT := hid (trimLab s hs)
          go_enter Tryd.func54, Tryd.ntmps54
          go_wp2_with (go_at_call 38; go_must (refine (HT.out _).mono ?_; rintro e w2 ⟨⟨t, rfl, ht⟩, C2⟩))
          rcases ht with ⟨h, rfl⟩ | ⟨h, ht⟩
          · have HH := hid h
            clear h
            go_wp2
            go_ret
            exact ⟨ret_bool (by rw [HH.out]; simp [hne, hme, ByteArray.toList_eq]), C2⟩
          · have HH := hid h
            have hte : ¬ t.toList = [] := by intro h0; rw [h0] at ht; simp at ht
            clear h
            go_wp2
            go_ret
            exact ⟨ret_bool (by rw [HH.out]; simp [hte]), C2⟩
    · have HL : labOk (numsOf s) = false := labOk_def s false (by simp; omega) (.inr rfl)
      rw [HL]
      clear HL
      go_enter Tryd.func54, Tryd.ntmps54
      go_wp2
      go_ret
      exact ⟨rfl, Ch.refl _ _⟩
  · have HL : labOk (numsOf s) = false := labOk_def s false (by simp; omega) (.inr rfl)
    rw [HL]
    clear HL
    go_enter Tryd.func54, Tryd.ntmps54
    go_wp2
    go_ret
    exact ⟨rfl, Ch.refl _ _⟩

theorem at_map (ps : List ByteArray) (k : Nat) (x : ByteArray) (h : ps[k]? = some x) (w : World) (g : Nat) (hB : Blk w g 9 (ps.map Value.string)) : w.cell? ⟨g, k, none⟩ = some (.string x) := by
  rw [hB.cell, List.getElem?_map, h]; rfl
theorem lastD_eq {α : Type} (l : List α) (d : α) (h : l ≠ []) : l[l.length - 1]? = some (l.getLastD d) := by
  rw [List.getLastD_eq_getLast?, ← List.getLast?_eq_getElem?]
  cases hl : l.getLast? with
  | none => simp at hl; exact absurd hl h
  | some a => rfl
theorem pieces_size (l : List Int) : ∀ x ∈ splitD l, x.length ≤ l.length := by
  induction l with
  | nil => intro x hx; simp [splitD] at hx; subst hx; simp
  | cons c l ih =>
    intro x hx
    unfold splitD at hx
    split at hx
    · rcases List.mem_cons.1 hx with rfl | hx
      · simp
      · have := ih x hx; simp; omega
    · split at hx
      · rename_i y r hy
        rcases List.mem_cons.1 hx with rfl | hx
        · have := ih y (by rw [hy]; simp); simp; omega
        · have := ih x (by rw [hy]; simp [hx]); simp; omega
      · simp at hx; subst hx; simp

set_option maxRecDepth 20000 in
set_option maxHeartbeats 1000000 in
theorem hostValid (s : ByteArray) (hs : s.size ≤ 1000000) (w : World) : Calls Tryd.prog 43 #[.string s] w fun e w' => e = .returned (.bool (namOk (numsOf s))) ∧ Ch [] w w' := by
  by_cases h1 : s.size ≤ 253
  · have HSP := hid (hostSplit s hs)
    have HN : Hid (namOk (numsOf s) = ((splitD (numsOf s)).all labOk && !((splitD (numsOf s)).getLastD []).all digOk)) := by
      show _ = _
      unfold namOk
      rw [numsOf_length]
      simp [h1]
    have HZ := hid (pieces_size (numsOf s))
    have HNE := hid (splitD_ne (numsOf s))
    go_enter Tryd.func43, Tryd.ntmps43
    go_wp2_with (go_at_call 53; go_must (refine (HSP.out _).mono ?_; rintro e w1 ⟨ps, rfl, hps, hB, C1⟩))
    have HPS := hid hps
    have HPZ : Hid (∀ x ∈ ps, x.size ≤ 253) := fun x hx => by
      have := HZ.out (numsOf x) (by rw [← hps]; exact List.mem_map.2 ⟨x, hx, rfl⟩)
      rw [numsOf_length, numsOf_length] at this
      omega
    have hpl : 1 ≤ ps.length := by
      rcases Nat.eq_zero_or_pos ps.length with h0 | h0
      · exfalso
        apply HNE.out
        rw [← hps, List.length_eq_zero_iff.1 h0]; rfl
      · exact h0
    have hpm : ps.length ≤ 1000000 := by
      have h5 : (splitD (numsOf s)).length ≤ (numsOf s).length + 1 := by
        have hgen : ∀ l : List Int, (splitD l).length ≤ l.length + 1 := by
          intro l
          induction l with
          | nil => simp [splitD]
          | cons c l ih =>
            unfold splitD
            split
            · simp; omega
            · split
              · rename_i y r hy; rw [hy] at ih; simp at ih ⊢; omega
              · simp
        exact hgen _
      rw [← hps, List.length_map, numsOf_length] at h5
      omega
    clear hps
    obtain ⟨g, hg⟩ : ∃ g, w.heap.size = g := ⟨_, rfl⟩
    rw [hg] at hB ⊢
    have hgl : g < w1.heap.size := hB.lt
    go_loopw [13] (fun i wr => ∃ k : Nat, k ≤ ps.length ∧ i = .int .i64 k ∧ Ch [] w wr ∧ Blk wr g 9 (ps.map Value.string) ∧ Hid (∀ j x, j < k → ps[j]? = some x → labOk (numsOf x) = true)) (fun i _ => ps.length - (intOf i).toNat)
    case atStart => exact ⟨0, Nat.zero_le _, rfl, C1, hB, fun j x hj => absurd hj (by omega)⟩
    case round =>
      clear hB C1
      obtain ⟨k, hk, rfl, C, hB, hall⟩ := hrel
      by_cases hp : k < ps.length
      · obtain ⟨x, hx⟩ : ∃ x, ps[k]? = some x := ⟨_, List.getElem?_eq_getElem hp⟩
        have hc := at_map ps k x hx wr g hB
        have hxs : x.size ≤ 253 := HPZ.out x (List.mem_of_getElem? hx)
        have HX := hid hx
        clear hx
        have HLB := hid (hostLabel x (by omega))
        cases hb : labOk (numsOf x) with
        | true =>
          have HB := hid hb
          clear hb
          go_wp2_with (go_at_call 54; go_must (refine (HLB.out _).mono ?_; rw [HB.out]; rintro e w2 ⟨rfl, C2⟩))
          go_roundw
          case rel =>
            refine ⟨k + 1, by omega, by go_num, C.trans C2, hB.ch C2 (by simp), ?_⟩
            intro j y hj hy
            rcases Nat.lt_or_ge j k with h | h
            · exact hall.out j y h hy
            · obtain rfl : j = k := by omega
              rw [HX.out] at hy
              obtain rfl := Option.some.inj hy
              exact HB.out
          case measure => simp [intOf]; omega
        | false =>
          have HB := hid hb
          clear hb
          go_wp2_with (go_at_call 54; go_must (refine (HLB.out _).mono ?_; rw [HB.out]; rintro e w2 ⟨rfl, C2⟩))
          go_ret
          refine ⟨ret_bool ?_, C.trans C2⟩
          rw [HN.out, ← HPS.out]
          have : (ps.map numsOf).all labOk = false := by
            rw [List.all_eq_false]
            exact ⟨numsOf x, List.mem_map.2 ⟨x, List.mem_of_getElem? HX.out, rfl⟩, by simp [HB.out]⟩
          rw [this]; rfl
      · obtain rfl : k = ps.length := by omega
        obtain ⟨x, hx⟩ : ∃ x, ps[ps.length - 1]? = some x := ⟨_, List.getElem?_eq_getElem (by omega)⟩
        have hc := at_map ps _ x hx wr g hB
        have hxs : x.size ≤ 253 := HPZ.out x (List.mem_of_getElem? hx)
        have hb2 : 1 ≤ (ps.length : Int) ∧ (ps.length : Int) - 1 < ps.length ∧ (ps.length : Int) - 1 = ((ps.length - 1 : Nat) : Int) := by omega
        have HALL : Hid ((splitD (numsOf s)).all labOk = true) := by
          show _ = _
          rw [← HPS.out, List.all_eq_true]
          intro y hy
          obtain ⟨z, hz, rfl⟩ := List.mem_map.1 hy
          obtain ⟨j, hj⟩ := List.mem_iff_getElem?.1 hz
          have hjl : j < ps.length := by
            rcases Nat.lt_or_ge j ps.length with h | h
            · exact h
            · rw [List.getElem?_eq_none h] at hj; cases hj
          exact hall.out j z hjl hj
        have HLA : Hid ((splitD (numsOf s)).getLastD [] = numsOf x) := by
          show _ = _
          have h1 := lastD_eq (splitD (numsOf s)) [] HNE.out
          rw [← HPS.out, List.length_map, List.getElem?_map, hx] at h1
          rw [← HPS.out]
          exact (Option.some.inj h1).symm
        clear hx
        have HT := hid (trimDig x (by omega))
        go_wp2_with (go_at_call 38; go_must (refine (HT.out _).mono ?_; rintro e w2 ⟨⟨t, rfl, ht⟩, C2⟩))
        rcases ht with ⟨h, rfl⟩ | ⟨h, ht⟩
        · have HH := hid h
          clear h
          go_wp2
          go_ret
          exact ⟨ret_bool (by rw [HN.out, HALL.out, HLA.out, HH.out]; simp [ByteArray.toList_eq]), C.trans C2⟩
        · have HH := hid h
          have hte : ¬ t.toList = [] := by intro h0; rw [h0] at ht; simp at ht
          clear h
          go_wp2
          go_ret
          exact ⟨ret_bool (by rw [HN.out, HALL.out, HLA.out, HH.out]; simp [hte]), C.trans C2⟩
  · have HN : namOk (numsOf s) = false := by
      unfold namOk
      rw [numsOf_length]
      simp; omega
    rw [HN]
    clear HN
    go_enter Tryd.func43, Tryd.ntmps43
    go_wp2
    go_ret
    exact ⟨rfl, Ch.refl _ _⟩
end Go.Proofs.YtiffpjlmgeklkaaDoor
