/- ginnelref15.ParseBasic; basicauth.FormatHeader, ginnelref15.FormatBasic; the laws' awake. -/
import Derived.Test.YtlgeohjcjhhmhaaDoorHead2
namespace Go.Proofs.YtlgeohjcjhhmhaaDoor
open Go.RowKit

theorem foldBas (s : ByteArray) (h5 : s.size = 5) (w : World) : Calls Tryd.prog 45 #[.string s, .string ⟨#[98, 97, 115, 105, 99]⟩] w fun e w' => e = .returned (.bool (decide ((numsOf s).map lw = basicL))) ∧ w = w' := by
  have := foldEq s basS (by omega) (by rw [h5]; rfl) w
  rw [nums_bas] at this
  exact this

set_option maxRecDepth 100000 in
set_option maxHeartbeats 4000000 in
theorem headR (s : ByteArray) (hm : s.size ≤ 1500000) (w : World) : Calls Tryd.prog 28 #[.string s] w fun e w' => e = .returned (pairV (parseH s)) ∧ Ch [] w w' := by
  have hno (h : hdrB s = false) : parseH s = none := by unfold parseH; rw [h]; rfl
  by_cases h6 : 6 ≤ s.size
  case neg =>
    have HR := hid (hno (by unfold hdrB; rw [decide_eq_false h6]; rfl))
    have h6' : (s.size : Int) < 6 := by omega
    clear hno h6
    go_enter Tryd.func28, Tryd.ntmps28
    go_wp2_with fail
    go_ret3
    exact ⟨by rw [HR.out]; rfl, Ch.refl _ _⟩
  have h6' : ¬ (s.size : Int) < 6 := by omega
  have hb5 : (5 : Int) ≤ s.size := by omega
  have he5 : (s.extract 0 5).size = 5 := by rw [ByteArray.size_extract]; omega
  have hi5 : 5 < s.size := by omega
  have e5 : ((s[5]'hi5).toNat : Int) = byt s 5 := byt_get hi5
  by_cases hl : ((numsOf s).take 5).map lw = basicL
  case neg =>
    have HR := hid (hno (by unfold hdrB; rw [decide_eq_false hl]; simp))
    have HL := hid (show decide ((numsOf (s.extract 0 5)).map lw = basicL) = false by rw [nums_take, decide_eq_false hl])
    clear hno hl
    go_enter Tryd.func28, Tryd.ntmps28
    go_wp2_with (go_at_call 45; (with_reducible refine (foldBas _ he5 _).mono ?_); rw [HL.out]; rintro e w2 ⟨rfl, rfl⟩)
    go_ret3
    exact ⟨by rw [HR.out]; rfl, Ch.refl _ _⟩
  have HL := hid (show decide ((numsOf (s.extract 0 5)).map lw = basicL) = true by rw [nums_take, decide_eq_true hl])
  by_cases hb : byt s 5 = 32
  case neg =>
    have HR := hid (hno (by unfold hdrB; rw [decide_eq_false hb]; simp))
    have hd : (byt s 5 == 32) = false := by simpa using hb
    have hd2 : (byt s 5 != 32) = true := by simpa using hb
    clear hno hl hb
    generalize byt s 5 = x at e5 hd hd2
    go_enter Tryd.func28, Tryd.ntmps28
    go_wp2_with (go_at_call 45; (with_reducible refine (foldBas _ he5 _).mono ?_); rw [HL.out]; rintro e w2 ⟨rfl, rfl⟩)
    go_ret3
    exact ⟨by rw [HR.out]; rfl, Ch.refl _ _⟩
  have hR : parseH s = (decOf (s.extract 6 s.size)).bind colon := by
    unfold parseH hdrB; rw [decide_eq_true h6, decide_eq_true hl, decide_eq_true hb]; rfl
  rw [hb] at e5
  clear hno hl hb
  have hb6 : (6 : Int) ≤ s.size := by omega
  have hes2 : (s.extract 6 s.size).size ≤ 1500000 := by rw [ByteArray.size_extract]; omega
  rcases ho : decOf (s.extract 6 s.size) with _ | d
  · have HR := hid (show parseH s = none by rw [hR, ho]; rfl)
    have HO := hid ho
    clear hR ho
    go_enter Tryd.func28, Tryd.ntmps28
    go_wp2_with (first
      | (go_at_call 45; (with_reducible refine (foldBas _ he5 _).mono ?_); rw [HL.out]; rintro e w2 ⟨rfl, rfl⟩)
      | (go_at_call 25; (with_reducible refine (decR_none hes2 HO.out _).mono ?_); rintro e w5 ⟨rfl, C5⟩))
    go_ret3
    exact ⟨by rw [HR.out]; rfl, C5⟩
  have hds := dec_some_size ho
  have hds2 : d.size ≤ 1500000 := by omega
  have hcol (k : Nat) (hk : k < d.size) (h1 : byt d k = 58) (h2 : ∀ j : Nat, j < k → byt d j ≠ 58) : parseH s = some (d.extract 0 k, d.extract (k + 1) d.size) := by
    have f1 : fnd d 58 = k := by
      rcases fnd_spec d 58 (by omega) (by omega) with ⟨_, f2⟩ | ⟨k', hk', f1, f2, f3⟩
      · exact absurd h1 (f2 k hk)
      · rcases Nat.lt_trichotomy k k' with h | h | h
        · exact absurd h1 (f3 k h)
        · rw [f1, h]
        · exact absurd f2 (h2 k' h)
    rw [hR, ho]; show colon d = _; unfold colon; rw [if_neg (by omega), f1]; rfl
  have hcno (h2 : ∀ j : Nat, j < d.size → byt d j ≠ 58) : parseH s = none := by
    have f1 : fnd d 58 = -1 := by
      rcases fnd_spec d 58 (by omega) (by omega) with ⟨f1, _⟩ | ⟨k', hk', f1, f2, f3⟩
      · exact f1
      · exact absurd f2 (h2 k' hk')
    rw [hR, ho]; show colon d = _; unfold colon; rw [if_pos f1]
  have HO := hid ho
  have HC := hid (@hcol)
  have HN := hid hcno
  clear hR ho hcol hcno
  go_enter Tryd.func28, Tryd.ntmps28
  go_wp2_with (first
    | (go_at_call 45; (with_reducible refine (foldBas _ he5 _).mono ?_); rw [HL.out]; rintro e w2 ⟨rfl, rfl⟩)
    | (go_at_call 25; (with_reducible refine (decR_some hes2 HO.out _).mono ?_); rintro e w5 ⟨rfl, C5⟩))
  go_loopw [7] (fun i wr => ∃ k : Nat, i = .int .i64 k ∧ k ≤ d.size ∧ Hid (∀ j, j < k → byt d j ≠ 58) ∧ w5 = wr) (fun i _ => d.size - (intOf i).toNat)
  case atStart => exact ⟨0, rfl, Nat.zero_le _, fun j h => absurd h (by omega), rfl⟩
  case round =>
    obtain ⟨k, rfl, hk, hall, rfl⟩ := hrel
    by_cases hp : k < d.size
    · have ek : ((d[k]'hp).toNat : Int) = byt d k := byt_get hp
      by_cases hc : byt d k = 58
      · have hd : (byt d k == 58) = true := by simpa using hc
        have HR := hid (HC.out k hp hc hall.out)
        have hb1 : (k : Int) + 1 ≤ d.size := by omega
        have hb2 : (k : Int) ≤ d.size := by omega
        rw [hc] at ek
        clear hc hd
        go_wp2_with fail
        go_quiet (fail)
        go_wp2
        go_ret3
        exact ⟨by rw [HR.out]; rfl, C5.drewN _⟩
      · have hd : (byt d k == 58) = false := by simpa using hc
        have hnext : ∀ j, j < k + 1 → byt d j ≠ 58 := fun j h => by
          rcases Nat.lt_or_ge j k with h3 | h3
          · exact hall.out j h3
          · obtain rfl : j = k := by omega
            exact hc
        have HX := hid hnext
        clear hnext hc
        generalize byt d k = x at ek hd
        go_wp2_with fail
        go_roundw
        case rel => exact ⟨k + 1, by go_num, by omega, HX, by first | trivial | rfl⟩
        case measure => simp [intOf]; omega
    · obtain rfl : k = d.size := by omega
      have HR := hid (HN.out hall.out)
      go_wp2_with fail
      go_ret3
      exact ⟨by rw [HR.out]; rfl, C5⟩

/-- The header that user and password make. -/
def upS (u p : ByteArray) : ByteArray := u ++ ⟨#[58]⟩ ++ p
def fmtS (u p : ByteArray) : ByteArray := ⟨#[66, 97, 115, 105, 99, 32]⟩ ++ strOfNums (enc (numsOf (upS u p)))
theorem up_size (u p : ByteArray) : (upS u p).size = u.size + 1 + p.size := by unfold upS; rw [ByteArray.size_append, ByteArray.size_append]; rfl
theorem enc_size (s : ByteArray) : (strOfNums (enc (numsOf s))).size = (s.size + 2) / 3 * 4 := by rw [strOf_size, enc_len, numsOf_length]
theorem fmtP (u p : ByteArray) (hm : u.size + p.size ≤ 1100000) (w : World) : Calls Tryd.prog 29 #[.string u, .string p] w fun e w' => e = .returned (.string (fmtS u p)) ∧ Ch [] w w' := by
  have h1 := up_size u p
  have h2 := enc_size (upS u p)
  have hup : (upS u p).size ≤ 1500000 := by omega
  unfold fmtS
  have hE := (b64P (upS u p) hup)
  generalize strOfNums (enc (numsOf (upS u p))) = E at hE h2
  have HE := hid hE
  clear hE
  have g1 : u.size + 1 ≤ maxLen := by unfold maxLen; omega
  have g2 : u.size + 1 + p.size ≤ maxLen := by unfold maxLen; omega
  have g3 : 6 + E.size ≤ maxLen := by unfold maxLen; omega
  have hu : u ++ (⟨#[58]⟩ : ByteArray) ++ p = upS u p := rfl
  have s1 : (⟨#[58]⟩ : ByteArray).size = 1 := rfl
  have s6 : (⟨#[66, 97, 115, 105, 99, 32]⟩ : ByteArray).size = 6 := rfl
  go_enter Tryd.func29, Tryd.ntmps29
  go_wp2_with (go_at_call 22; (with_reducible refine (HE.out _).mono ?_); rintro e w5 ⟨rfl, C5⟩)
  go_ret
  exact ⟨rfl, C5⟩
theorem fmtR (u p : ByteArray) (hm : u.size + p.size ≤ 1100000) (w : World) : Calls Tryd.prog 30 #[.string u, .string p] w fun e w' => e = .returned (.string (fmtS u p)) ∧ Ch [] w w' := by
  have h1 := up_size u p
  have h2 := enc_size (upS u p)
  have hup : (upS u p).size ≤ 1500000 := by omega
  unfold fmtS
  have hE := (b64R (upS u p) hup)
  generalize strOfNums (enc (numsOf (upS u p))) = E at hE h2
  have HE := hid hE
  clear hE
  have g1 : u.size + 1 ≤ maxLen := by unfold maxLen; omega
  have g2 : u.size + 1 + p.size ≤ maxLen := by unfold maxLen; omega
  have g3 : 6 + E.size ≤ maxLen := by unfold maxLen; omega
  have hu : u ++ (⟨#[58]⟩ : ByteArray) ++ p = upS u p := rfl
  have s1 : (⟨#[58]⟩ : ByteArray).size = 1 := rfl
  have s6 : (⟨#[66, 97, 115, 105, 99, 32]⟩ : ByteArray).size = 6 := rfl
  go_enter Tryd.func30, Tryd.ntmps30
  go_wp2_with (go_at_call 23; (with_reducible refine (HE.out _).mono ?_); rintro e w5 ⟨rfl, C5⟩)
  go_ret
  exact ⟨rfl, C5⟩

/-- What a decoding is, by reckoning. -/
theorem decOf_eq (s : ByteArray) : decOf s = if enc (rdec (numsOf s)) = numsOf s then some (strOfNums (rdec (numsOf s))) else none := by
  by_cases h : enc (rdec (numsOf s)) = numsOf s
  · rw [if_pos h]
    exact decOf_some (by rw [nums_str _ (bytes_rdec _), h])
  · rw [if_neg h]
    rcases ho : decOf s with _ | d
    · rfl
    · refine absurd ?_ h
      have h1 := decOf_spec ho
      rw [h1, rdec_enc _ (bytes_numsOf d)]
theorem dec_no1 : decOf ⟨#[89, 87, 74, 61]⟩ = none := by
  rw [decOf_eq, if_neg (by decide +kernel)]
theorem dec_yes1 : decOf ⟨#[89, 84, 112, 105]⟩ = some ⟨#[97, 58, 98]⟩ := by
  rw [decOf_eq, if_pos (by decide +kernel)]
  exact congrArg some (by rw [show rdec (numsOf ⟨#[89, 84, 112, 105]⟩) = numsOf ⟨#[97, 58, 98]⟩ by decide +kernel, strOf_nums])
theorem enc_ab : strOfNums (enc (numsOf ⟨#[97, 98]⟩)) = ⟨#[89, 87, 73, 61]⟩ := by
  rw [show enc (numsOf ⟨#[97, 98]⟩) = numsOf ⟨#[89, 87, 73, 61]⟩ by decide +kernel, strOf_nums]
theorem fmt_ab : fmtS ⟨#[97]⟩ ⟨#[98]⟩ = ⟨#[66, 97, 115, 105, 99, 32, 89, 84, 112, 105]⟩ := by
  unfold fmtS
  rw [show enc (numsOf (upS ⟨#[97]⟩ ⟨#[98]⟩)) = numsOf ⟨#[89, 84, 112, 105]⟩ by decide +kernel, strOf_nums]
  exact str_ext (by decide +kernel)
theorem parse_ab : parseH ⟨#[98, 97, 115, 105, 99, 32, 89, 84, 112, 105]⟩ = some (⟨#[97]⟩, ⟨#[98]⟩) := by
  unfold parseH
  rw [if_pos (by decide +kernel), show (⟨#[98, 97, 115, 105, 99, 32, 89, 84, 112, 105]⟩ : ByteArray).extract 6 (⟨#[98, 97, 115, 105, 99, 32, 89, 84, 112, 105]⟩ : ByteArray).size = ⟨#[89, 84, 112, 105]⟩ from str_ext (by decide +kernel), dec_yes1]
  show colon _ = _
  unfold colon
  rw [if_neg (by decide +kernel), show fnd ⟨#[97, 58, 98]⟩ 58 = 1 by decide +kernel]
  exact congrArg some (Prod.ext (str_ext (by decide +kernel)) (str_ext (by decide +kernel)))
theorem awake15 (w : World) : Calls Tryd.prog 21 #[] w fun e w' => e = .returned (.bool true) ∧ Ch [] w w' := by
  have h1 := fun w => decP_none (s := ⟨#[89, 87, 74, 61]⟩) (by decide) dec_no1 w
  have h2 : ∀ w, Calls Tryd.prog 27 #[.string ⟨#[98, 97, 115, 105, 99, 32, 89, 84, 112, 105]⟩] w fun e w' => e = .returned (.tuple #[.string ⟨#[97]⟩, .string ⟨#[98]⟩, .bool true]) ∧ Ch [] w w' := fun w => by
    have := headP ⟨#[98, 97, 115, 105, 99, 32, 89, 84, 112, 105]⟩ (by decide) w
    rw [parse_ab] at this
    exact this
  have h3 := fun w => b64P ⟨#[97, 98]⟩ (by decide) w
  rw [enc_ab] at h3
  have h4 := fun w => fmtP ⟨#[97]⟩ ⟨#[98]⟩ (by decide) w
  rw [fmt_ab] at h4
  have H1 := hid h1
  have H2 := hid h2
  have H3 := hid h3
  have H4 := hid h4
  clear h1 h2 h3 h4
  go_enter Tryd.func21, Tryd.ntmps21
  go_wp2_with (first
    | (go_at_call 24; (with_reducible refine (H1.out _).mono ?_); rintro e w1 ⟨rfl, C1⟩)
    | (go_at_call 27; (with_reducible refine (H2.out _).mono ?_); rintro e w2 ⟨rfl, C2⟩)
    | (go_at_call 22; (with_reducible refine (H3.out _).mono ?_); rintro e w3 ⟨rfl, C3⟩)
    | (go_at_call 29; (with_reducible refine (H4.out _).mono ?_); rintro e w4 ⟨rfl, C4⟩))
  go_ret
  exact ⟨rfl, ((C1.trans C2).trans C3).trans C4⟩
end Go.Proofs.YtlgeohjcjhhmhaaDoor
