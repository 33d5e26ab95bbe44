/- basicauth.ParseHeader, FormatHeader; ginnelref15.ParseBasic, FormatBasic: the walks. -/
import Derived.Test.YtlgeohjcjhhmhaaDoorHead
namespace Go.Proofs.YtlgeohjcjhhmhaaDoor
open Go.RowKit

theorem cut_none {s z : ByteArray} {c : Int} (hz : z.size = 1) (hc : byt z 0 = c) (hs : s.size ≤ 140737488351232) (h : fnd s c = -1) (w : World) :
    Calls Tryd.prog 43 #[.string s, .string z] w fun e w' => e = .returned (.tuple #[.string s, .string ByteArray.empty, .bool false]) ∧ ∃ n, w' = w.drewN n :=
  (cutOne s z c hz hc hs w).mono fun e w' ⟨h1, h2⟩ => by
    rcases h1 with ⟨_, rfl⟩ | ⟨m, _, h0, _⟩
    · exact ⟨rfl, h2⟩
    · omega
theorem cut_some {s z : ByteArray} {c : Int} (hz : z.size = 1) (hc : byt z 0 = c) (hs : s.size ≤ 140737488351232) (m : Nat) (h : fnd s c = m) (w : World) :
    Calls Tryd.prog 43 #[.string s, .string z] w fun e w' => e = .returned (.tuple #[.string (s.extract 0 m), .string (s.extract (m + 1) s.size), .bool true]) ∧ ∃ n, w' = w.drewN n :=
  (cutOne s z c hz hc hs w).mono fun e w' ⟨h1, h2⟩ => by
    rcases h1 with ⟨h0, _⟩ | ⟨m', _, h0, rfl⟩
    · omega
    · obtain rfl : m = m' := by omega
      exact ⟨rfl, h2⟩
theorem lowBas (w : World) : Calls Tryd.prog 44 #[.string ⟨#[66, 97, 115, 105, 99]⟩] w fun e w' => e = .returned (.string basS) ∧ Ch [] w w' := by
  have := lowP BasS (by decide) w
  rw [low_Bas] at this
  exact this
theorem dec_some_size {s d : ByteArray} (h : decOf s = some d) : d.size ≤ s.size := by
  have h1 := congrArg List.length (decOf_spec h)
  rw [numsOf_length, enc_len, numsOf_length] at h1
  omega
theorem decP_none {s : ByteArray} (hm : s.size ≤ 1500000) (h : decOf s = none) (w : World) : Calls Tryd.prog 24 #[.string s] w fun e w' => e = .returned (.tuple #[.string ByteArray.empty, .bool false]) ∧ Ch [] w w' := by
  have := decP s hm w
  rw [h] at this
  exact this
theorem decP_some {s d : ByteArray} (hm : s.size ≤ 1500000) (h : decOf s = some d) (w : World) : Calls Tryd.prog 24 #[.string s] w fun e w' => e = .returned (.tuple #[.string d, .bool true]) ∧ Ch [] w w' := by
  have := decP s hm w
  rw [h] at this
  exact this
theorem decR_none {s : ByteArray} (hm : s.size ≤ 1500000) (h : decOf s = none) (w : World) : Calls Tryd.prog 25 #[.string s] w fun e w' => e = .returned (.tuple #[.string ByteArray.empty, .bool false]) ∧ Ch [] w w' := by
  have := decR s hm w
  rw [h] at this
  exact this
theorem decR_some {s d : ByteArray} (hm : s.size ≤ 1500000) (h : decOf s = some d) (w : World) : Calls Tryd.prog 25 #[.string s] w fun e w' => e = .returned (.tuple #[.string d, .bool true]) ∧ Ch [] w w' := by
  have := decR s hm w
  rw [h] at this
  exact this
theorem Ch.cat {w w1 w2 : World} (h : Ch [] w w1) (k : Ch [] w1 w2) : Ch [] w w2 := h.trans k

set_option maxRecDepth 100000 in
set_option maxHeartbeats 4000000 in
theorem headP (s : ByteArray) (hm : s.size ≤ 1500000) (w : World) : Calls Tryd.prog 27 #[.string s] w fun e w' => e = .returned (pairV (parseH s)) ∧ Ch [] w w' := by
  have z32 : byt ⟨#[32]⟩ 0 = 32 := by decide
  have z58 : byt ⟨#[58]⟩ 0 = 58 := by decide
  rcases fnd_spec s 32 (by omega) (by omega) with ⟨g1, g2⟩ | ⟨m, hms, g1, g2, g3⟩
  · have HR := hid (show parseH s = none by unfold parseH; rw [hdr_none g2]; rfl)
    have HG := hid g1
    clear g1 g2
    go_enter Tryd.func27, Tryd.ntmps27
    go_wp2_with (go_at_call 43; (with_reducible refine (cut_none rfl z32 (by omega) HG.out _).mono ?_); rintro e w2 ⟨rfl, n, rfl⟩)
    go_ret3
    exact ⟨by rw [HR.out]; rfl, (Ch.refl _ _).drewN _⟩
  obtain ⟨hk1, hk2⟩ := hdr_some hms g2 g3
  have HG := hid g1
  clear g1 g2 g3
  have hes : (s.extract 0 m).size ≤ 1500000 := by rw [ByteArray.size_extract]; omega
  have hcmp := str_beq (s := lowS (s.extract 0 m)) (t := basS)
  cases hh : hdrB s with
  | false =>
    have HR := hid (show parseH s = none by unfold parseH; rw [hh]; rfl)
    rw [hh] at hk2
    rw [decide_eq_false (fun e => by simpa using hk2.1 e)] at hcmp
    have hcmp2 : ((lowS (s.extract 0 m)).toList != basS.toList) = true := by simp only [bne, hcmp]; rfl
    clear hk1 hk2 hh
    go_enter Tryd.func27, Tryd.ntmps27
    go_wp2_with (first
      | (go_at_call 43; (with_reducible refine (cut_some rfl z32 (by omega) m HG.out _).mono ?_); rintro e w2 ⟨rfl, n, rfl⟩)
      | (go_at_call 44; (with_reducible refine (lowBas _).mono ?_); rintro e w4 ⟨rfl, C4⟩)
      | (go_at_call 44; (with_reducible refine (lowP _ hes _).mono ?_); rintro e w3 ⟨rfl, C3⟩))
    go_ret3
    exact ⟨by rw [HR.out]; rfl, (((Ch.refl _ _).drewN _).trans C3).trans C4⟩
  | true =>
    obtain rfl := hk1 hh
    rw [decide_eq_true (hk2.2 hh)] at hcmp
    have hcmp2 : ((lowS (s.extract 0 5)).toList != basS.toList) = false := by simp only [bne, hcmp]; rfl
    have hes2 : (s.extract 6 s.size).size ≤ 1500000 := by rw [ByteArray.size_extract]; omega
    have hR : parseH s = (decOf (s.extract 6 s.size)).bind colon := by unfold parseH; rw [hh]; rfl
    clear hk1 hk2 hh
    rcases ho : decOf (s.extract 6 s.size) with _ | d
    · have HR := hid (show parseH s = none by rw [hR, ho]; rfl)
      have HO := hid ho
      clear hR ho
      go_enter Tryd.func27, Tryd.ntmps27
      go_wp2_with (first
        | (go_at_call 43; (with_reducible refine (cut_some rfl z32 (by omega) 5 HG.out _).mono ?_); rintro e w2 ⟨rfl, n, rfl⟩)
        | (go_at_call 44; (with_reducible refine (lowBas _).mono ?_); rintro e w4 ⟨rfl, C4⟩)
        | (go_at_call 44; (with_reducible refine (lowP _ hes _).mono ?_); rintro e w3 ⟨rfl, C3⟩)
        | (go_at_call 24; (with_reducible refine (decP_none hes2 HO.out _).mono ?_); rintro e w5 ⟨rfl, C5⟩))
      go_ret3
      exact ⟨by rw [HR.out]; rfl, ((((Ch.refl _ _).drewN _).trans C3).trans C4).trans C5⟩
    · have hds := dec_some_size ho
      have hds2 : d.size ≤ 140737488351232 := by omega
      rcases fnd_spec d 58 (by omega) (by omega) with ⟨f1, f2⟩ | ⟨k, hks, f1, f2, f3⟩
      · have HR := hid (show parseH s = none by rw [hR, ho]; show colon d = none; unfold colon; rw [if_pos f1])
        have HO := hid ho
        have HF := hid f1
        clear hR ho f1 f2
        go_enter Tryd.func27, Tryd.ntmps27
        go_wp2_with (first
          | (go_at_call 43; (with_reducible refine (cut_none rfl z58 hds2 HF.out _).mono ?_); rintro e w6 ⟨rfl, n6, rfl⟩)
          | (go_at_call 43; (with_reducible refine (cut_some rfl z32 (by omega) 5 HG.out _).mono ?_); rintro e w2 ⟨rfl, n, rfl⟩)
          | (go_at_call 44; (with_reducible refine (lowBas _).mono ?_); rintro e w4 ⟨rfl, C4⟩)
          | (go_at_call 44; (with_reducible refine (lowP _ hes _).mono ?_); rintro e w3 ⟨rfl, C3⟩)
          | (go_at_call 24; (with_reducible refine (decP_some hes2 HO.out _).mono ?_); rintro e w5 ⟨rfl, C5⟩))
        go_ret3
        exact ⟨by rw [HR.out]; rfl, (((((Ch.refl _ _).drewN _).trans C3).trans C4).trans C5).drewN _⟩
      · have HR := hid (show parseH s = some (d.extract 0 k, d.extract (k + 1) d.size) by
          rw [hR, ho]; show colon d = _; unfold colon; rw [if_neg (by omega), f1]; rfl)
        have HO := hid ho
        have HF := hid f1
        clear hR ho f1 f2 f3
        go_enter Tryd.func27, Tryd.ntmps27
        go_wp2_with (first
          | (go_at_call 43; (with_reducible refine (cut_some rfl z58 hds2 k HF.out _).mono ?_); rintro e w6 ⟨rfl, n6, rfl⟩)
          | (go_at_call 43; (with_reducible refine (cut_some rfl z32 (by omega) 5 HG.out _).mono ?_); rintro e w2 ⟨rfl, n, rfl⟩)
          | (go_at_call 44; (with_reducible refine (lowBas _).mono ?_); rintro e w4 ⟨rfl, C4⟩)
          | (go_at_call 44; (with_reducible refine (lowP _ hes _).mono ?_); rintro e w3 ⟨rfl, C3⟩)
          | (go_at_call 24; (with_reducible refine (decP_some hes2 HO.out _).mono ?_); rintro e w5 ⟨rfl, C5⟩))
        go_ret3
        exact ⟨by rw [HR.out]; rfl, (((((Ch.refl _ _).drewN _).trans C3).trans C4).trans C5).drewN _⟩
end Go.Proofs.YtlgeohjcjhhmhaaDoor
