/- Base64: what a decoding gives (two functions, one answer); strings.TrimRight at '='; the place of a byte in the alphabet; base64Value. -/
import Derived.Test.YtlgeohjcjhhmhaaDoorB64R
import Derived.Test.YtlgeohjcjhhmhaaDoorB64D
import Derived.Test.YtlgeohjcjhhmhaaDoorFind
namespace Go.Proofs.YtlgeohjcjhhmhaaDoor
open Go.RowKit

theorem b64L_bytes (n : Int) (h0 : 0 ≤ n) (h1 : n < 64) : 0 ≤ b64L n ∧ b64L n ≤ 255 := by have := b64L_rng n h0 h1; omega
theorem bytes_cons {a : Int} {l : List Int} (h : 0 ≤ a ∧ a ≤ 255) (hl : Bytes l) : Bytes (a :: l) := fun x hx => by
  rcases List.mem_cons.1 hx with rfl | h2
  · exact h
  · exact hl x h2
theorem bytes_enc : ∀ d : List Int, Bytes d → Bytes (enc d)
  | a :: b :: c :: r, h => by
    have ha := h.head; have hb := h.tail.head; have hc := h.tail.tail.head
    rw [enc]
    exact bytes_cons (b64L_bytes _ (by omega) (by omega)) (bytes_cons (b64L_bytes _ (by omega) (by omega)) (bytes_cons (b64L_bytes _ (by omega) (by omega)) (bytes_cons (b64L_bytes _ (by omega) (by omega)) (bytes_enc r h.tail.tail.tail))))
  | [a, b], h => by
    have ha := h.head; have hb := h.tail.head
    rw [enc]
    exact bytes_cons (b64L_bytes _ (by omega) (by omega)) (bytes_cons (b64L_bytes _ (by omega) (by omega)) (bytes_cons (b64L_bytes _ (by omega) (by omega)) (bytes_cons (by omega) Bytes.nil)))
  | [a], h => by
    have ha := h.head
    rw [enc]
    exact bytes_cons (b64L_bytes _ (by omega) (by omega)) (bytes_cons (b64L_bytes _ (by omega) (by omega)) (bytes_cons (by omega) (bytes_cons (by omega) Bytes.nil)))
  | [], _ => Bytes.nil

open Classical in
/-- The string whose encoding s is. -/
noncomputable def decOf (s : ByteArray) : Option ByteArray := if h : ∃ d : ByteArray, numsOf s = enc (numsOf d) then some h.choose else none
theorem nums_inj {s t : ByteArray} (h : numsOf s = numsOf t) : s = t := by rw [← strOf_nums s, ← strOf_nums t, h]
theorem enc_inj {d e : ByteArray} (h : enc (numsOf d) = enc (numsOf e)) : d = e := nums_inj (by rw [← rdec_enc _ (bytes_numsOf d), ← rdec_enc _ (bytes_numsOf e), h])
theorem decOf_some {s d : ByteArray} (h : numsOf s = enc (numsOf d)) : decOf s = some d := by
  unfold decOf
  have h2 : ∃ d : ByteArray, numsOf s = enc (numsOf d) := ⟨d, h⟩
  rw [dif_pos h2]
  exact congrArg some (enc_inj (h2.choose_spec.symm.trans h))
theorem decOf_spec {s d : ByteArray} (h : decOf s = some d) : numsOf s = enc (numsOf d) := by
  unfold decOf at h
  split at h
  · rename_i h2
    have := h2.choose_spec
    rw [Option.some.inj h] at this
    exact this
  · cases h
theorem decOf_enc (d : ByteArray) : decOf (strOfNums (enc (numsOf d))) = some d := decOf_some (nums_str _ (bytes_enc _ (bytes_numsOf d)))
/-- The pair that a decoder returns. -/
def decV (o : Option ByteArray) : Value := .tuple #[.string (o.getD ByteArray.empty), .bool o.isSome]
/-- What a candidate's encoding says. -/
theorem dec_yes {s : ByteArray} {out : List Int} (h : (strOfNums (enc (numsOf (strOfNums out)))).toList = s.toList) : decOf s = some (strOfNums out) := by
  have h2 : strOfNums (enc (numsOf (strOfNums out))) = s := by
    rw [ByteArray.toList_eq, ByteArray.toList_eq] at h
    exact str_ext h
  rw [← h2]; exact decOf_enc _
theorem dec_no {s : ByteArray} {out : List Int} (hc : ∀ d : ByteArray, numsOf s = enc (numsOf d) → out = numsOf d) (h : (strOfNums (enc (numsOf (strOfNums out)))).toList ≠ s.toList) : decOf s = none := by
  rcases ho : decOf s with _ | d
  · rfl
  · have h1 := decOf_spec ho
    have h2 := hc d h1
    refine absurd ?_ h
    rw [h2, strOf_nums, ← h1, strOf_nums]

theorem trimEq (s : ByteArray) (w : World) (hs : s.size ≤ 9223372036854775807) :
    Calls Tryd.prog 40 #[.string s, .string ⟨#[61]⟩] w fun e w' => (∃ m, e = .returned (.string (s.extract 0 m)) ∧ m ≤ s.size ∧ Hid (∀ i, m ≤ i → i < s.size → byt s i = 61) ∧ (0 < m → byt s (m - 1) ≠ 61)) ∧ w = w' := by
  by_cases h0 : s.size = 0
  · have e0 : s.toList = [] := by
      rw [ByteArray.toList_eq]
      exact List.eq_nil_of_length_eq_zero (by rw [Array.length_toList]; exact h0)
    have H0 := hid h0
    clear h0
    go_enter Tryd.func40, Tryd.ntmps40
    go_wp2
    go_ret
    refine ⟨⟨s.size, by rw [show s.extract 0 s.size = s by simp]; rfl, Nat.le_refl _, fun i h1 h2 => absurd h1 (by omega), fun h => absurd H0.out (by omega)⟩, rfl⟩
  · have e0 : ¬ s.toList = [] := by
      rw [ByteArray.toList_eq]
      intro h
      have := congrArg List.length h
      rw [Array.length_toList] at this
      exact h0 this
    obtain ⟨z, hz, hz1, hz0, hz3⟩ : ∃ z : ByteArray, (⟨#[61]⟩ : ByteArray) = z ∧ ¬ z.toList = [] ∧ z.size = 1 ∧ ∀ h : 0 < z.size, (z[0]'h).toNat = 61 :=
      ⟨_, rfl, by rw [ByteArray.toList_eq]; simp, rfl, fun h => rfl⟩
    rw [hz]
    have hz2 : 0 < z.size := by omega
    have hz4 := hz3 hz2
    have i0 : s.toList.isEmpty = false := by simpa using e0
    have i1 : z.toList.isEmpty = false := by simpa using hz1
    clear hz hz3
    go_enter Tryd.func40, Tryd.ntmps40
    go_wp2_with (go_at_call 48; (with_reducible refine (trimR s 61 _ hs).mono ?_); rintro e w2 ⟨⟨m, rfl, hm, hall, hlast⟩, rfl⟩)
    go_ret
    exact ⟨⟨m, rfl, hm, hall, hlast⟩, rfl⟩

theorem byt_alph (m : Nat) (h : m < 64) : byt alphB m = b64L m := by
  have h' : m < alphB.size := h
  exact (byt_get h').symm.trans (alphN m h (b64L m) rfl)
theorem fnd_alph (c : Int) (h0 : 0 ≤ c) (h1 : c ≤ 255) : fnd alphB c = b64V c := by
  rcases fnd_spec alphB c h0 h1 with ⟨g1, g2⟩ | ⟨m, hm, g1, g2, _⟩
  · rw [g1, b64V_none c]
    intro n hn
    rw [← byt_alph n hn]; exact g2 n hn
  · have hm' : m < 64 := hm
    rw [g1, ← g2, byt_alph m hm', b64V_L m (by omega) (by omega)]

theorem refValue (c : Int) (w : World) : Calls Tryd.prog 42 #[.int .u8 c] w fun e w' => e = .returned (.int .i64 (b64V c)) ∧ w = w' := by
  go_enter Tryd.func42, Tryd.ntmps42
  go_wp2_with fail
  go_loopw [3] (fun i wr => ∃ n : Nat, n ≤ 64 ∧ i = .int .i64 n ∧ Hid (∀ m : Nat, m < n → b64L m ≠ c) ∧ w = wr) (fun i _ => 64 - (intOf i).toNat)
  case atStart => exact ⟨0, by omega, rfl, fun m h => absurd h (by omega), rfl⟩
  case round =>
    obtain ⟨n, hn, rfl, hall, rfl⟩ := hrel
    by_cases hp : n < 64
    · by_cases hc : b64L n = c
      · have hd : (b64L n == c) = true := by simpa using hc
        have hv : b64V c = n := by rw [← hc]; exact b64V_L n (by omega) (by omega)
        have HV := hid hv
        clear hc hv
        go_wp2_with (go_at_call 39; (with_reducible refine (refLetter _ (by omega) (by omega) _).mono ?_); rintro e w9 ⟨rfl, rfl⟩)
        go_ret
        exact ⟨by rw [HV.out]; rfl, rfl⟩
      · have hd : (b64L n == c) = false := by simpa using hc
        have HC := hid hc
        clear hc
        go_wp2_with (go_at_call 39; (with_reducible refine (refLetter _ (by omega) (by omega) _).mono ?_); rintro e w9 ⟨rfl, rfl⟩)
        go_roundw
        case rel =>
          refine ⟨n + 1, by omega, by go_num, fun m h => ?_, by first | trivial | rfl⟩
          rcases Nat.lt_or_ge m n with h3 | h3
          · exact hall.out m h3
          · obtain rfl : m = n := by omega
            exact HC.out
        case measure => simp [intOf]; omega
    · obtain rfl : n = 64 := by omega
      go_wp2_with fail
      go_ret
      exact ⟨by rw [b64V_none c hall.out]; rfl, rfl⟩
end Go.Proofs.YtlgeohjcjhhmhaaDoor
