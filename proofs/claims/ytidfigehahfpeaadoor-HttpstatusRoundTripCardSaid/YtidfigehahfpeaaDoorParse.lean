/- httpstatus.Parse and its reference: what they answer at any string. -/
import Derived.Test.YtidfigehahfpeaaDoorHttp
import Derived.Test.YtidfigehahfpeaaDoorTrim
import Derived.OwnWalk
namespace Go.Proofs.YtidfigehahfpeaaDoor
open Go.RowKit

theorem pfx_slice {s p : ByteArray} (_ : p.size ≤ s.size) : ((s.extract 0 p.size).toList == p.toList) = p.data.toList.isPrefixOf s.data.toList := by
  have l2 : p.data.toList.length = p.size := by rw [Array.length_toList]; rfl
  rw [ByteArray.toList_eq, ByteArray.toList_eq, ByteArray.data_extract, Array.toList_extract, List.extract_eq_take_drop, List.drop_zero, Nat.sub_zero]
  rw [Bool.eq_iff_iff, beq_iff_eq, List.isPrefixOf_iff_prefix, List.prefix_iff_eq_take, l2]
  exact eq_comm
theorem pfx_long {s p : ByteArray} (h : s.size < p.size) : p.data.toList.isPrefixOf s.data.toList = false := by
  have l1 : s.data.toList.length = s.size := by rw [Array.length_toList]; rfl
  have l2 : p.data.toList.length = p.size := by rw [Array.length_toList]; rfl
  rw [Bool.eq_false_iff]
  intro h2
  rw [List.isPrefixOf_iff_prefix] at h2
  have := h2.length_le
  omega
theorem hasPfxL (s p : ByteArray) (b : Bool) (hb : p.data.toList.isPrefixOf s.data.toList = b) (w : World) :
    Calls Tryd.prog 56 #[.string s, .string p] w fun e w' => e = .returned (.bool b) ∧ w = w' := by
  by_cases h1 : p.size ≤ s.size
  · have hbe : ((s.extract 0 p.size).toList == p.toList) = b := (pfx_slice h1).trans hb
    clear hb
    go_enter Tryd.func56, Tryd.ntmps56
    go_wp2
    go_ret
    exact ⟨rfl, rfl⟩
  · have hbf : b = false := hb.symm.trans (pfx_long (by omega))
    subst hbf
    clear hb
    go_enter Tryd.func56, Tryd.ntmps56
    go_wp2
    go_ret
    exact ⟨rfl, rfl⟩
theorem hasPfx (s p : ByteArray) (b : Bool) (hb : p.data.toList.isPrefixOf s.data.toList = b) (w : World) :
    Calls Tryd.prog 43 #[.string s, .string p] w fun e w' => e = .returned (.bool b) ∧ w = w' := by
  have HB := hid hb
  clear hb
  go_enter Tryd.func43, Tryd.ntmps43
  go_wp2_with (go_at_call 56; with_reducible refine (hasPfxL s p b HB.out _).mono ?_; rintro e w' ⟨rfl, rfl⟩)
  go_ret
  exact ⟨rfl, rfl⟩

def codesL : List Int := [200, 400, 403, 407, 408, 429, 502, 503, 504]
def parseGo (s : List UInt8) : List Int → Int → Int × Int × Int
  | [], st => (0, 0, st)
  | c :: cs, st => if (fmtS c).data.toList.isPrefixOf s then (c, ((fmtS c).data.toList.length : Int), 1) else parseGo s cs (if s.isPrefixOf (fmtS c).data.toList then 0 else st)
def parseL (s : List UInt8) : Int × Int × Int := parseGo s codesL 2
theorem fmtS_size (c : Int) : (fmtS c).size ≤ 200 := by
  by_cases h200 : c = 200
  · subst h200; decide +kernel
  by_cases h400 : c = 400
  · subst h400; decide +kernel
  by_cases h403 : c = 403
  · subst h403; decide +kernel
  by_cases h407 : c = 407
  · subst h407; decide +kernel
  by_cases h408 : c = 408
  · subst h408; decide +kernel
  by_cases h429 : c = 429
  · subst h429; decide +kernel
  by_cases h502 : c = 502
  · subst h502; decide +kernel
  by_cases h503 : c = 503
  · subst h503; decide +kernel
  by_cases h504 : c = 504
  · subst h504; decide +kernel
  have e2 : fmtS c = ⟨#[]⟩ := by simp [fmtS, h200, h400, h403, h407, h408, h429, h502, h503, h504]
  rw [e2]; decide +kernel
theorem drop_codes {k : Nat} (h : k < 9) : codesL.drop k = at_ codesL k :: codesL.drop (k + 1) := by
  rw [List.drop_eq_getElem_cons (show k < codesL.length from h)]
  simp [at_, List.getD, show k < codesL.length from h]

theorem codesP (w : World) : Calls Tryd.prog 42 #[] w fun e w' => e = .returned (.slice (some ⟨w.heap.size, 0, none⟩) 9 9) ∧ RdI .i64 w' w'.heap.size (some ⟨w.heap.size, 0, none⟩) 9 codesL ∧ Ch [] w w' := by
  go_enter Tryd.func42, Tryd.ntmps42
  go_wp2
  go_ret
  refine ⟨rfl, ?_, (Ch.refl _ _).alloc _⟩
  have := blk_ints (k := .i64) (Blk.new w 3 (codesL.map (Value.int .i64))) 0 9 codesL rfl (fun i hi => by rw [Nat.zero_add, List.getElem?_map, List.getElem?_eq_getElem hi]; rfl)
  exact RdI.more this (by simp)
theorem codesR (w : World) : Calls Tryd.prog 13 #[] w fun e w' => e = .returned (.slice (some ⟨w.heap.size, 0, none⟩) 9 9) ∧ RdI .i64 w' w'.heap.size (some ⟨w.heap.size, 0, none⟩) 9 codesL ∧ Ch [] w w' := by
  go_enter Tryd.func13, Tryd.ntmps13
  go_wp2
  go_ret
  refine ⟨rfl, ?_, (Ch.refl _ _).alloc _⟩
  have := blk_ints (k := .i64) (Blk.new w 3 (codesL.map (Value.int .i64))) 0 9 codesL rfl (fun i hi => by rw [Nat.zero_add, List.getElem?_map, List.getElem?_eq_getElem hi]; rfl)
  exact RdI.more this (by simp)

theorem parse_step (s : List UInt8) (k : Nat) (h : k < 9) (st : Int) : parseGo s (codesL.drop k) st =
    if (fmtS (at_ codesL k)).data.toList.isPrefixOf s then (at_ codesL k, ((fmtS (at_ codesL k)).data.toList.length : Int), 1) else parseGo s (codesL.drop (k + 1)) (if s.isPrefixOf (fmtS (at_ codesL k)).data.toList then 0 else st) := by
  rw [drop_codes h]; rfl

set_option maxRecDepth 100000 in
set_option maxHeartbeats 2000000 in
theorem parseP (s : ByteArray) (c n st : Int) (hR : parseL s.data.toList = (c, n, st)) (w : World) (ht : Tab w) :
    Calls Tryd.prog 19 #[.string s] w fun e w' => e = .returned (.tuple #[.int .i64 c, .int .i64 n, .int .i64 st]) ∧ Ch [] w w' := by
  have HR : Hid (parseGo s.data.toList codesL 2 = (c, n, st)) := hR
  clear hR
  go_enter Tryd.func19, Tryd.ntmps19
  go_wp2_with (go_at_call 42; (with_reducible refine (codesP _).mono ?_); rintro e w1 ⟨rfl, hC, C1⟩)
  have T1 := ht.ch C1
  have hz1 := C1.size
  go_loopw [5, 11] (fun sv i wr => ∃ (k : Nat) (q : Int), k ≤ 9 ∧ i = .int .i64 k ∧ sv = .int .i64 q ∧ Hid (parseGo s.data.toList (codesL.drop k) q = (c, n, st)) ∧ Ch [] w1 wr) (fun _ i _ => 9 - (intOf i).toNat)
  case atStart => exact ⟨0, 2, by omega, rfl, rfl, HR, Ch.refl _ _⟩
  case round =>
    obtain ⟨k, q, hk, rfl, rfl, hq, C2⟩ := hrel
    have T2 := T1.ch C2
    by_cases hlt : k < 9
    · have hc := (hC.ch C2 (Nat.le_refl _) (by simp)).at_ (i := k) hlt
      obtain ⟨b, off, he, _, hcell⟩ := hc
      obtain ⟨rfl, rfl⟩ : w.heap.size = b ∧ 0 = off := by simpa using he
      rw [Nat.zero_add] at hcell
      have hst := hq.out
      rw [parse_step _ k hlt] at hst
      have hsz := fmtS_size (at_ codesL k)
      generalize at_ codesL k = x at hcell hst hsz
      obtain ⟨S, hS⟩ : ∃ S, fmtS x = S := ⟨_, rfl⟩
      rw [hS] at hst hsz
      have hSl : S.data.toList.length = S.size := by rw [Array.length_toList]; rfl
      rw [hSl] at hst
      have HS := hid hS
      clear hS hSl he
      obtain ⟨p1, hp1⟩ : ∃ b, S.data.toList.isPrefixOf s.data.toList = b := ⟨_, rfl⟩
      obtain ⟨p2, hp2⟩ : ∃ b, s.data.toList.isPrefixOf S.data.toList = b := ⟨_, rfl⟩
      rw [hp1, hp2] at hst
      have HP1 := hid hp1
      have HP2 := hid hp2
      clear hp1 hp2
      cases p1
      · cases p2
        all_goals
          simp only [Bool.false_eq_true, if_false, if_true] at hst
          have HST := hid hst
          clear hst
          go_wp2_with (first
            | (go_at_call 15; (with_reducible refine (fmtP x _ T2).mono ?_); rw [HS.out]; rintro e w3 ⟨rfl, C3⟩)
            | (go_at_call 43; with_reducible refine (hasPfx s S _ HP1.out _).mono ?_; rintro e w' ⟨rfl, rfl⟩)
            | (go_at_call 43; with_reducible refine (hasPfx S s _ HP2.out _).mono ?_; rintro e w' ⟨rfl, rfl⟩))
          go_roundw
          case rel => exact ⟨k + 1, _, by omega, by go_num, rfl, HST.out, C2.trans C3⟩
          case measure => simp [intOf]; omega
      · simp only [if_true, Prod.mk.injEq] at hst
        obtain ⟨rfl, rfl, rfl⟩ := hst
        go_wp2_with (first
          | (go_at_call 15; (with_reducible refine (fmtP x _ T2).mono ?_); rw [HS.out]; rintro e w3 ⟨rfl, C3⟩)
          | (go_at_call 43; with_reducible refine (hasPfx s S _ HP1.out _).mono ?_; rintro e w' ⟨rfl, rfl⟩))
        go_ret3
        exact ⟨rfl, C1.trans (C2.trans C3)⟩
    · obtain rfl : k = 9 := by omega
      have hq' : (0, 0, q) = (c, n, st) := hq.out
      simp only [Prod.mk.injEq] at hq'
      obtain ⟨rfl, rfl, rfl⟩ := hq'
      go_wp2
      go_ret3
      exact ⟨rfl, C1.trans C2⟩

set_option maxRecDepth 100000 in
set_option maxHeartbeats 2000000 in
theorem parseR (s : ByteArray) (hs : s.size ≤ 4611686018427387904) (c n st : Int) (hR : parseL s.data.toList = (c, n, st)) (w : World) :
    Calls Tryd.prog 20 #[.string s] w fun e w' => e = .returned (.tuple #[.int .i64 c, .int .i64 n, .int .i64 st]) ∧ Ch [] w w' := by
  have HR : Hid (parseGo s.data.toList codesL 2 = (c, n, st)) := hR
  clear hR
  go_enter Tryd.func20, Tryd.ntmps20
  go_wp2_with (go_at_call 13; (with_reducible refine (codesR _).mono ?_); rintro e w1 ⟨rfl, hC, C1⟩)
  have hz1 := C1.size
  go_loopw [5, 7] (fun sv i wr => ∃ (k : Nat) (q : Int), k ≤ 9 ∧ i = .int .i64 k ∧ sv = .int .i64 q ∧ Hid (parseGo s.data.toList (codesL.drop k) q = (c, n, st)) ∧ Ch [] w1 wr) (fun _ i _ => 9 - (intOf i).toNat)
  case atStart => exact ⟨0, 2, by omega, rfl, rfl, HR, Ch.refl _ _⟩
  case round =>
    obtain ⟨k, q, hk, rfl, rfl, hq, C2⟩ := hrel
    by_cases hlt : k < 9
    · have hc := (hC.ch C2 (Nat.le_refl _) (by simp)).at_ (i := k) hlt
      obtain ⟨b, off, he, hblt, hcell⟩ := hc
      obtain ⟨rfl, rfl⟩ : w.heap.size = b ∧ 0 = off := by simpa using he
      rw [Nat.zero_add] at hcell
      have hst := hq.out
      rw [parse_step _ k hlt] at hst
      have hsz := fmtS_size (at_ codesL k)
      generalize at_ codesL k = x at hcell hst hsz
      obtain ⟨S, hS⟩ : ∃ S, fmtS x = S := ⟨_, rfl⟩
      rw [hS] at hst hsz
      have hSl : S.data.toList.length = S.size := by rw [Array.length_toList]; rfl
      rw [hSl] at hst
      have HS := hid hS
      clear hS hSl he
      obtain ⟨p1, hp1⟩ : ∃ b, S.data.toList.isPrefixOf s.data.toList = b := ⟨_, rfl⟩
      obtain ⟨p2, hp2⟩ : ∃ b, s.data.toList.isPrefixOf S.data.toList = b := ⟨_, rfl⟩
      rw [hp1, hp2] at hst
      rcases (show S.size ≤ s.size ∨ s.size < S.size by omega) with hle | hgt
      · have g1 := (pfx_slice hle).trans hp1
        have g0 : ¬ s.size < S.size := by omega
        cases p1
        · have h2f : p2 = false := by
            rw [← hp2, Bool.eq_false_iff]
            intro h2
            rw [Bool.eq_false_iff] at hp1
            apply hp1
            rw [List.isPrefixOf_iff_prefix] at h2 ⊢
            have l1 : s.data.toList.length = s.size := by rw [Array.length_toList]; rfl
            have l2 : S.data.toList.length = S.size := by rw [Array.length_toList]; rfl
            rw [h2.eq_of_length (by have := h2.length_le; omega)]
            exact List.prefix_refl _
          subst h2f
          simp only [Bool.false_eq_true, if_false] at hst
          have HST := hid hst
          clear hst hp1 hp2
          go_wp2_with (go_at_call 16; (with_reducible refine (fmtR x _).mono ?_); rw [HS.out]; rintro e w3 ⟨rfl, C3⟩; have hc3 := (C3.cell (p := ⟨w.heap.size, k, none⟩) (by have := C2.size; simp; omega) (by simp)).trans hcell)
          go_roundw
          case rel => exact ⟨k + 1, _, by omega, by go_num, rfl, HST.out, C2.trans C3⟩
          case measure => simp [intOf]; omega
        · simp only [if_true, Prod.mk.injEq] at hst
          obtain ⟨rfl, rfl, rfl⟩ := hst
          clear hp1 hp2
          go_wp2_with (go_at_call 16; (with_reducible refine (fmtR x _).mono ?_); rw [HS.out]; rintro e w3 ⟨rfl, C3⟩; have hc3 := (C3.cell (p := ⟨w.heap.size, k, none⟩) (by have := C2.size; simp; omega) (by simp)).trans hcell)
          go_ret3
          exact ⟨rfl, C1.trans (C2.trans C3)⟩
      · have h1f : p1 = false := hp1.symm.trans (pfx_long hgt)
        subst h1f
        have g2 := (pfx_slice (Nat.le_of_lt hgt)).trans hp2
        have g0 : ¬ S.size ≤ s.size := by omega
        simp only [Bool.false_eq_true, if_false] at hst
        clear hp1 hp2
        cases p2
        all_goals
          simp only [Bool.false_eq_true, if_false, if_true] at hst
          have HST := hid hst
          clear hst
          go_wp2_with (go_at_call 16; (with_reducible refine (fmtR x _).mono ?_); rw [HS.out]; rintro e w3 ⟨rfl, C3⟩; have hc3 := (C3.cell (p := ⟨w.heap.size, k, none⟩) (by have := C2.size; simp; omega) (by simp)).trans hcell)
          go_roundw
          case rel => exact ⟨k + 1, _, by omega, by go_num, rfl, HST.out, C2.trans C3⟩
          case measure => simp [intOf]; omega
    · obtain rfl : k = 9 := by omega
      have hq' : (0, 0, q) = (c, n, st) := hq.out
      simp only [Prod.mk.injEq] at hq'
      obtain ⟨rfl, rfl, rfl⟩ := hq'
      go_wp2
      go_ret3
      exact ⟨rfl, C1.trans C2⟩
end Go.Proofs.YtidfigehahfpeaaDoor
