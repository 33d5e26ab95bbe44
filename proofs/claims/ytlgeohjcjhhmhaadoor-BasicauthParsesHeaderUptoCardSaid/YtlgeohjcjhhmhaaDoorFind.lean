/- strings.IndexByte; strings.Cut at one byte. -/
import Derived.Test.YtlgeohjcjhhmhaaDoorTrim
import Derived.Lib.Bytealg
import Derived.BigQuiet
namespace Go.Proofs.YtlgeohjcjhhmhaaDoor
open Go.RowKit

theorem indexByte_spec (c : UInt8) : ∀ l : List UInt8, (Lib.indexByte l c = -1 ∧ ∀ x ∈ l, x ≠ c) ∨ ∃ m : Nat, ∃ h : m < l.length, Lib.indexByte l c = m ∧ l[m] = c ∧ ∀ j : Nat, ∀ hj : j < m, l[j] ≠ c
  | [] => .inl ⟨rfl, fun x hx => by cases hx⟩
  | b :: l => by
    by_cases hb : b = c
    · refine .inr ⟨0, by simp, ?_, hb, fun j hj => absurd hj (by omega)⟩
      simp [Lib.indexByte, hb]
    · have hb' : (b == c) = false := by simpa using hb
      rcases indexByte_spec c l with ⟨h1, h2⟩ | ⟨m, hm, h1, h2, h3⟩
      · refine .inl ⟨by simp [Lib.indexByte, hb', h1], fun x hx => ?_⟩
        rcases List.mem_cons.1 hx with rfl | h
        · exact hb
        · exact h2 x h
      · refine .inr ⟨m + 1, by simp; omega, ?_, by simpa using h2, fun j hj => ?_⟩
        · have hne : ¬ ((m : Int) = -1) := by omega
          simp [Lib.indexByte, hb', h1, hne]
        · cases j with
          | zero => simpa using hb
          | succ j => simpa using h3 j (by omega)
/-- The place of the first byte c; -1 where there is none. -/
def fnd (s : ByteArray) (c : Int) : Int := Lib.indexByte s.data.toList c.toNat.toUInt8
theorem byt_u8 (s : ByteArray) (i : Nat) (h : i < s.data.toList.length) : byt s i = (s.data.toList[i].toNat : Int) := by
  have h' : i < s.data.size := by simpa using h
  unfold byt
  rw [Array.getElem?_eq_getElem h', Array.getElem_toList]
  rfl
theorem u8_of (c : Int) (h0 : 0 ≤ c) (h1 : c ≤ 255) : (c.toNat.toUInt8.toNat : Int) = c := by
  simp [Nat.toUInt8, UInt8.toNat_ofNat']; omega
theorem fnd_spec (s : ByteArray) (c : Int) (h0 : 0 ≤ c) (h1 : c ≤ 255) : (fnd s c = -1 ∧ ∀ j : Nat, j < s.size → byt s j ≠ c) ∨ ∃ m : Nat, m < s.size ∧ fnd s c = m ∧ byt s m = c ∧ ∀ j : Nat, j < m → byt s j ≠ c := by
  have hl : s.data.toList.length = s.size := by rw [Array.length_toList]; rfl
  have key (x : UInt8) : x = c.toNat.toUInt8 ↔ (x.toNat : Int) = c := by
    constructor
    · rintro rfl; exact u8_of c h0 h1
    · intro h; apply UInt8.toNat_inj.1; have := u8_of c h0 h1; omega
  rcases indexByte_spec c.toNat.toUInt8 s.data.toList with ⟨g1, g2⟩ | ⟨m, hm, g1, g2, g3⟩
  · refine .inl ⟨g1, fun j hj hc => ?_⟩
    rw [byt_u8 s j (by omega)] at hc
    exact g2 _ (List.getElem_mem _) ((key _).2 hc)
  · refine .inr ⟨m, by omega, g1, by rw [byt_u8 s m hm]; exact (key _).1 g2, fun j hj hc => ?_⟩
    rw [byt_u8 s j (by omega)] at hc
    exact g3 j hj ((key _).2 hc)

theorem findLite (s : ByteArray) (c : Int) (w : World) : Calls Tryd.prog 52 #[.string s, .int .u8 c] w fun e w' => e = .returned (.int .i64 (fnd s c)) ∧ w = w' := by
  go_enter Tryd.func52, Tryd.ntmps52
  go_wp2
  rw [run_callFunc_extern Tryd.func60 (by kernel_rfl) (by kernel_rfl) (by kernel_rfl) (e := Extern.BytealgIndexByte.indexByte) (by kernel_rfl), Lib.run_indexByteString]
  simp only [Result.andThen]
  rw [Oper.upon_value]
  go_wp2
  go_ret
  exact ⟨rfl, rfl⟩
theorem findByte (s : ByteArray) (c : Int) (w : World) : Calls Tryd.prog 41 #[.string s, .int .u8 c] w fun e w' => e = .returned (.int .i64 (fnd s c)) ∧ w = w' := by
  go_enter Tryd.func41, Tryd.ntmps41
  go_wp2_with (go_at_call 52; (with_reducible refine (findLite s c _).mono ?_); rintro e w2 ⟨rfl, rfl⟩)
  go_ret
  exact ⟨rfl, rfl⟩
theorem findOne (s z : ByteArray) (c : Int) (hz : z.size = 1) (hc : byt z 0 = c) (w : World) : Calls Tryd.prog 61 #[.string s, .string z] w fun e w' => e = .returned (.int .i64 (fnd s c)) ∧ w = w' := by
  obtain ⟨n, hn⟩ : ∃ n, z.size = n := ⟨_, rfl⟩
  have hz0 : 0 < z.size := by omega
  have e0 : ((z[0]'hz0).toNat : Int) = c := by rw [byt_get]; exact hc
  obtain ⟨b, hb⟩ : ∃ b, (z.toList == s.toList) = b := ⟨_, rfl⟩
  have hz1 : (z.size : Int) = 1 := by omega
  cases b with
  | true =>
    have hs : z = s := by
      have := of_decide_eq_true (p := z.toList = s.toList) (by simpa using hb)
      rw [ByteArray.toList_eq, ByteArray.toList_eq] at this
      exact str_ext this
    subst hs
    have hf : fnd z c = 0 := by
      have hr := byt_rng z 0
      rcases fnd_spec z c (by omega) (by omega) with ⟨_, g⟩ | ⟨m, hm, g1, g2, g3⟩
      · exact absurd hc (g 0 hz0)
      · rw [g1]; omega
    have HF := hid hf
    clear hf hc
    go_enter Tryd.func61, Tryd.ntmps61
    go_wp2
    go_ret
    exact ⟨by rw [HF.out]; rfl, rfl⟩
  | false =>
    clear hc
    go_enter Tryd.func61, Tryd.ntmps61
    go_wp2_with (go_at_call 52; (with_reducible refine (findLite s c _).mono ?_); rintro e w2 ⟨rfl, rfl⟩)
    all_goals go_ret
    all_goals exact ⟨rfl, rfl⟩
theorem cutLite (s z : ByteArray) (c : Int) (hz : z.size = 1) (hc : byt z 0 = c) (hs : s.size ≤ 140737488351232) (w : World) :
    Calls Tryd.prog 53 #[.string s, .string z] w fun e w' => ((fnd s c = -1 ∧ e = .returned (.tuple #[.string s, .string ByteArray.empty, .bool false])) ∨ ∃ m : Nat, m < s.size ∧ fnd s c = m ∧ e = .returned (.tuple #[.string (s.extract 0 m), .string (s.extract (m + 1) s.size), .bool true])) ∧ ∃ n, w' = w.drewN n := by
  have hr := byt_rng z 0
  have hz1 : (z.size : Int) = 1 := by omega
  rcases fnd_spec s c (by omega) (by omega) with ⟨g1, _⟩ | ⟨m, hm, g1, _⟩
  · have G := hid g1
    go_enter Tryd.func53, Tryd.ntmps53
    go_wp2_with (go_at_call 61; (with_reducible refine (findOne s z c hz hc _).mono ?_); rintro e w2 ⟨rfl, rfl⟩)
    go_ret3
    exact ⟨.inl ⟨G.out, rfl⟩, 0, rfl⟩
  · have G := hid g1
    have h1 : (m : Int) + z.size ≤ s.size := by omega
    have h2 : ((m : Int) + z.size).toNat = m + 1 := by omega
    go_enter Tryd.func53, Tryd.ntmps53
    go_wp2_with (go_at_call 61; (with_reducible refine (findOne s z c hz hc _).mono ?_); rintro e w2 ⟨rfl, rfl⟩)
    go_quiet (fail)
    go_wp2
    go_ret3
    exact ⟨.inr ⟨m, hm, G.out, rfl⟩, nq, rfl⟩
theorem cutOne (s z : ByteArray) (c : Int) (hz : z.size = 1) (hc : byt z 0 = c) (hs : s.size ≤ 140737488351232) (w : World) :
    Calls Tryd.prog 43 #[.string s, .string z] w fun e w' => ((fnd s c = -1 ∧ e = .returned (.tuple #[.string s, .string ByteArray.empty, .bool false])) ∨ ∃ m : Nat, m < s.size ∧ fnd s c = m ∧ e = .returned (.tuple #[.string (s.extract 0 m), .string (s.extract (m + 1) s.size), .bool true])) ∧ ∃ n, w' = w.drewN n := by
  have hr := byt_rng z 0
  rcases fnd_spec s c (by omega) (by omega) with ⟨g1, _⟩ | ⟨m, hm, g1, _⟩
  · have G := hid g1
    go_enter Tryd.func43, Tryd.ntmps43
    go_wp2_with (go_at_call 53; (with_reducible refine (cutLite s z c hz hc hs _).mono ?_); rintro e w2 ⟨⟨_, rfl⟩ | ⟨m, hm, h0, _⟩, n, rfl⟩; rotate_left; exact absurd (G.out.symm.trans h0) (by omega))
    go_ret3
    exact ⟨.inl ⟨G.out, rfl⟩, n, rfl⟩
  · have G := hid g1
    go_enter Tryd.func43, Tryd.ntmps43
    go_wp2_with (go_at_call 53; (with_reducible refine (cutLite s z c hz hc hs _).mono ?_); rintro e w2 ⟨⟨h0, _⟩ | ⟨m', hm', h0, rfl⟩, n, rfl⟩; exact absurd (G.out.symm.trans h0) (by omega); (obtain rfl : m = m' := by have := G.out.symm.trans h0; omega))
    go_ret3
    exact ⟨.inr ⟨m, hm, G.out, rfl⟩, n, rfl⟩
end Go.Proofs.YtlgeohjcjhhmhaaDoor
