/- The reference's registry: Acquire, Release, Authenticate. -/
import Derived.Test.YtbmbnibamhgfmaaDoorTenP
import Derived.Test.YtbmbnibamhgfmaaDoorTenQ
namespace Go.Proofs.YtbmbnibamhgfmaaDoor
open Go.RowKit

/-- The tenants as the reference's registry reads them. -/
def TRd (w : World) (TA : Option Addr) (X : List En) : Prop := ∀ (k : Nat) (e : En), X[k]? = some e → ∃ b off, TA = some ⟨b, off, none⟩ ∧ w.cell? ⟨b, off + k * 6, none⟩ = some (.string e.t.u) ∧ w.cell? ⟨b, off + k * 6 + 1, none⟩ = some (.string e.t.p) ∧ w.cell? ⟨b, off + k * 6 + 5, none⟩ = some (.int .i64 e.t.m)
section
variable {w : World} {g cap bc ac : Nat} {TA BA AA : Option Addr} {X : List En}
theorem RfM.sameA (h : RfM w g X.length TA cap X BA bc AA ac) (q : Nat) : RfM (w.drewN q) g X.length TA cap X BA bc AA ac ∧ Ch (blkOf AA) w (w.drewN q) := ⟨h.drewN q, (Ch.refl _ _).drewN q⟩
theorem acqX_len (X : List En) (i : Int) : (acqX X i).length = X.length := by
  unfold acqX setA
  split
  · split
    · rw [List.length_set]
    · rfl
  · rfl
theorem relX_len (X : List En) (i : Int) : (relX X i).length = X.length := by
  unfold relX setA
  split
  · split
    · rw [List.length_set]
    · rfl
  · rfl
set_option maxHeartbeats 2000000 in
theorem refAcq (h : RfM w g X.length TA cap X BA bc AA ac) (hT : TRd w TA X) (i : Int) (hb : ∀ e ∈ X, 0 ≤ e.act ∧ e.act ≤ e.t.m ∧ e.t.m ≤ 100) : Calls Tryd.prog 11 #[.pointer (some ⟨g, 0, none⟩), .int .i64 i] w fun r w' => r = .returned (.bool (acqOk X i)) ∧ RfM w' g X.length TA cap (acqX X i) BA bc AA ac ∧ Ch (blkOf AA) w w' := by
  have c0 : w.cell? ⟨g, 0, none⟩ = some (.slice TA X.length cap) := h.blk.cell 0
  have c2 : w.cell? ⟨g, 2, none⟩ = some (.slice AA X.length ac) := h.blk.cell 2
  have HH := hid h
  rcases idx_cases X i with ⟨k, e, rfl, hk⟩ | ⟨hi, hn⟩
  · have hq : acqOk X k = !(e.act == e.t.m) := by unfold acqOk; rw [Int.toNat_natCast, hk]; simp
    obtain ⟨b0, b1, b2⟩ := hb e (List.mem_of_getElem? hk)
    obtain ⟨b, off, rfl, _, _, cm⟩ := hT k e hk
    obtain ⟨p, rfl, ca, fa, _⟩ := h.acell hk
    have hlt := (List.getElem?_eq_some_iff.1 hk).1
    have hk0 : (0 : Int) ≤ k := by omega
    have hkn : (k : Int) < X.length := by omega
    have HK := hid hk
    obtain ⟨n, hn⟩ : ∃ n, X.length = n := ⟨_, rfl⟩
    have HNN := hid hn
    rw [hn] at c0 c2 hlt hkn
    by_cases hf : e.act = e.t.m
    · have hbt : (e.act == e.t.m) = true := by simpa using hf
      have HQ : Hid (acqOk X k = false) := by show _ = _; rw [hq, hbt]; rfl
      have hge : e.act ≥ e.t.m := by omega
      clear h hT hb hk hq hf hbt hn
      go_enter Tryd.func11, Tryd.ntmps11
      go_wp2_with fail
      go_quiet (fail)
      go_wp2
      go_ret
      obtain ⟨r1, r2⟩ := HH.out.sameA _
      exact ⟨ret_bool HQ.out.symm, by unfold acqX; rw [HQ.out]; exact r1, r2⟩
    · have hbt : (e.act == e.t.m) = false := by simpa using hf
      have HQ : Hid (acqOk X k = true) := by show _ = _; rw [hq, hbt]; rfl
      have HX : Hid (acqX X k = X.set k { e with act := e.act + 1 }) := by show _ = _; unfold acqX setA; rw [HQ.out, if_pos rfl, Int.toNat_natCast, hk]
      have hlt2 : ¬ e.act ≥ e.t.m := by omega
      clear h hT hb hk hq hf hbt hn
      go_enter Tryd.func11, Tryd.ntmps11
      go_wp2_with fail
      go_quiet (fail)
      go_wp2
      go_ret
      obtain ⟨r1, r2⟩ := (HH.out.drewN _).aset (a := e.act + 1) HK.out rfl
      exact ⟨ret_bool HQ.out.symm, by rw [HX.out]; exact r1, ((Ch.refl _ _).drewN _).trans r2⟩
  · have HQ : Hid (acqOk X i = false) := by
      show _ = _
      unfold acqOk
      by_cases h0 : 0 ≤ i
      · rw [hn h0]; simp
      · simp [h0]
    clear h hT hb hn
    by_cases h0 : i < 0
    · clear hi
      go_enter Tryd.func11, Tryd.ntmps11
      go_wp2_with fail
      go_quiet (fail)
      go_wp2
      go_ret
      obtain ⟨r1, r2⟩ := HH.out.sameA _
      exact ⟨ret_bool HQ.out.symm, by unfold acqX; rw [HQ.out]; exact r1, r2⟩
    · have h1 : i ≥ X.length := by omega
      have h2 : ¬ i < 0 := h0
      clear hi h0 c2
      obtain ⟨n, hn⟩ : ∃ n, X.length = n := ⟨_, rfl⟩
      rw [hn] at c0 h1
      have hd1 : decide (i ≥ (n : Int)) = true := by simpa using h1
      have hd2 : decide ((n : Int) ≤ i) = true := by simpa using h1
      have hd0 : decide (i < 0) = false := by simpa using h2
      clear hn
      go_enter Tryd.func11, Tryd.ntmps11
      go_wp2_with fail
      go_quiet (fail)
      go_wp2
      go_ret
      obtain ⟨r1, r2⟩ := HH.out.sameA _
      exact ⟨ret_bool HQ.out.symm, by unfold acqX; rw [HQ.out]; exact r1, r2⟩
set_option maxHeartbeats 2000000 in
theorem refRel (h : RfM w g X.length TA cap X BA bc AA ac) (i : Int) (hb : ∀ e ∈ X, 0 ≤ e.act ∧ e.act ≤ 100) : Calls Tryd.prog 13 #[.pointer (some ⟨g, 0, none⟩), .int .i64 i] w fun r w' => r = .returned (.bool (relOk X i)) ∧ RfM w' g X.length TA cap (relX X i) BA bc AA ac ∧ Ch (blkOf AA) w w' := by
  have c0 : w.cell? ⟨g, 0, none⟩ = some (.slice TA X.length cap) := h.blk.cell 0
  have c2 : w.cell? ⟨g, 2, none⟩ = some (.slice AA X.length ac) := h.blk.cell 2
  have HH := hid h
  rcases idx_cases X i with ⟨k, e, rfl, hk⟩ | ⟨hi, hn⟩
  · have hq : relOk X k = !(e.act == 0) := by unfold relOk; rw [Int.toNat_natCast, hk]; simp
    obtain ⟨b0, b1⟩ := hb e (List.mem_of_getElem? hk)
    obtain ⟨p, rfl, ca, fa, _⟩ := h.acell hk
    have hlt := (List.getElem?_eq_some_iff.1 hk).1
    have hk0 : (0 : Int) ≤ k := by omega
    have hkn : (k : Int) < X.length := by omega
    have HK := hid hk
    obtain ⟨n, hn⟩ : ∃ n, X.length = n := ⟨_, rfl⟩
    rw [hn] at c0 c2 hlt hkn
    by_cases hf : e.act = 0
    · have hbt : (e.act == 0) = true := by simpa using hf
      have HQ : Hid (relOk X k = false) := by show _ = _; rw [hq, hbt]; rfl
      clear h hb hk hq hf hn
      go_enter Tryd.func13, Tryd.ntmps13
      go_wp2_with go_big_skip
      go_ret
      obtain ⟨r1, r2⟩ := HH.out.sameA 0
      exact ⟨ret_bool HQ.out.symm, by unfold relX; rw [HQ.out]; exact r1, r2⟩
    · have hbt : (e.act == 0) = false := by simpa using hf
      have HQ : Hid (relOk X k = true) := by show _ = _; rw [hq, hbt]; rfl
      have HX : Hid (relX X k = X.set k { e with act := e.act - 1 }) := by show _ = _; unfold relX setA; rw [HQ.out, if_pos rfl, Int.toNat_natCast, hk]; rfl
      clear h hb hk hq hf hn
      go_enter Tryd.func13, Tryd.ntmps13
      go_wp2_with go_big_skip
      go_ret
      obtain ⟨r1, r2⟩ := HH.out.aset (a := e.act - 1) HK.out rfl
      exact ⟨ret_bool HQ.out.symm, by rw [HX.out]; exact r1, r2⟩
  · have HQ : Hid (relOk X i = false) := by
      show _ = _
      unfold relOk
      by_cases h0 : 0 ≤ i
      · rw [hn h0]; simp
      · simp [h0]
    clear h hb hn
    by_cases h0 : i < 0
    · clear hi
      go_enter Tryd.func13, Tryd.ntmps13
      go_wp2_with go_big_skip
      go_ret
      obtain ⟨r1, r2⟩ := HH.out.sameA 0
      exact ⟨ret_bool HQ.out.symm, by unfold relX; rw [HQ.out]; exact r1, r2⟩
    · have h1 : i ≥ X.length := by omega
      clear hi
      go_enter Tryd.func13, Tryd.ntmps13
      go_wp2_with go_big_skip
      go_ret
      obtain ⟨r1, r2⟩ := HH.out.sameA 0
      exact ⟨ret_bool HQ.out.symm, by unfold relX; rw [HQ.out]; exact r1, r2⟩
set_option maxHeartbeats 2000000 in
theorem refAuth (h : RfM w g X.length TA cap X BA bc AA ac) (hT : TRd w TA X) (hl : X.length ≤ 1000000) (u p : ByteArray) : Calls Tryd.prog 17 #[.pointer (some ⟨g, 0, none⟩), .string u, .string p] w fun r w' => r = .returned (.int .i64 (match X.findIdx? (isU u p) with | some k => (k : Int) | none => -1)) ∧ Ch [] w w' := by
  have HC0 : Hid (∀ w', Ch [] w w' → w'.cell? ⟨g, 0, none⟩ = some (.slice TA X.length cap)) := fun w' c => (h.blk.ch c (by simp)).cell 0
  have HS : Hid (∀ (k : Nat) (e : En), X[k]? = some e → ∃ b off, TA = some ⟨b, off, none⟩ ∧ ∀ w', Ch [] w w' → w'.cell? ⟨b, off + k * 6, none⟩ = some (.string e.t.u) ∧ w'.cell? ⟨b, off + k * 6 + 1, none⟩ = some (.string e.t.p)) := fun k e hk => by
    obtain ⟨b, off, hA, h1, h2, _⟩ := hT k e hk
    exact ⟨b, off, hA, fun w' hch => ⟨(hch.cell (p := ⟨b, off + k * 6, none⟩) (World.block_lt_of_cell? w _ h1) (by simp)).trans h1, (hch.cell (p := ⟨b, off + k * 6 + 1, none⟩) (World.block_lt_of_cell? w _ h2) (by simp)).trans h2⟩⟩
  obtain ⟨n, hn⟩ : ∃ n, X.length = n := ⟨_, rfl⟩
  rw [hn] at HC0 hl
  have HN := hid hn
  obtain ⟨ri, hri⟩ : ∃ ri : Int, (match X.findIdx? (isU u p) with | some k => (k : Int) | none => -1) = ri := ⟨_, rfl⟩
  rw [hri]
  have HRI := hid hri
  clear h hT hn hri
  go_enter Tryd.func17, Tryd.ntmps17
  go_wp2_with go_big_skip
  go_loopw [7] (fun i wr => ∃ k : Nat, i = .int .i64 k ∧ k ≤ n ∧ Hid (∀ (j : Nat) x, j < k → X[j]? = some x → isU u p x = false) ∧ Ch [] w wr) (fun i _ => n - (intOf i).toNat)
  case atStart => exact ⟨0, rfl, by omega, by show ∀ j x, _; omega, Ch.refl _ _⟩
  case round =>
    obtain ⟨k, rfl, hk, HNO, CX⟩ := hrel
    have c0 := HC0.out _ CX
    by_cases hlt : k < n
    · obtain ⟨e, he⟩ : ∃ e, X[k]? = some e := ⟨_, List.getElem?_eq_getElem (by rw [HN.out]; exact hlt)⟩
      obtain ⟨b, off, rfl, hc1⟩ := HS.out k e he
      obtain ⟨d0, d1⟩ := hc1 _ CX
      clear hc1
      have hi0 : (0 : Int) ≤ k := by omega
      have hik : (k : Int) < n := by omega
      cases hu : (e.t.u.toList == u.toList)
      · have HNK : Hid (∀ (j : Nat) x, j < k + 1 → X[j]? = some x → isU u p x = false) := fun j x hj hx => by
          by_cases hjk : j < k
          · exact HNO.out j x hjk hx
          · obtain rfl : j = k := by omega
            obtain rfl : x = e := by rw [he] at hx; exact (Option.some.inj hx).symm
            unfold isU; rw [hu]; rfl
        clear he
        go_wp2_with go_big_skip
        go_roundw
        case rel => exact ⟨k + 1, by go_num, by omega, HNK, CX⟩
        case measure => simp [intOf]; omega
      · cases hp : (e.t.p.toList == p.toList)
        · have HNK : Hid (∀ (j : Nat) x, j < k + 1 → X[j]? = some x → isU u p x = false) := fun j x hj hx => by
            by_cases hjk : j < k
            · exact HNO.out j x hjk hx
            · obtain rfl : j = k := by omega
              obtain rfl : x = e := by rw [he] at hx; exact (Option.some.inj hx).symm
              unfold isU; rw [hp]; simp
          clear he
          go_wp2_with go_big_skip
          go_roundw
          case rel => exact ⟨k + 1, by go_num, by omega, HNK, CX⟩
          case measure => simp [intOf]; omega
        · have hfd := find_some HNO.out he (show isU u p e = true by unfold isU; rw [hu, hp]; rfl)
          have h1 : ri = k := by rw [← HRI.out, hfd]
          have H1 := hid h1
          clear h1 hfd he
          go_wp2_with go_big_skip
          go_ret
          exact ⟨by rw [H1.out]; rfl, CX⟩
    · have hfd := find_none HNO.out (by rw [HN.out]; omega)
      have h1 : ri = -1 := by rw [← HRI.out, hfd]
      have H1 := hid h1
      clear h1 hfd
      have hik : ¬ (k : Int) < n := by omega
      go_wp2_with go_big_skip
      go_ret
      exact ⟨by rw [H1.out]; rfl, CX⟩
end
end Go.Proofs.YtbmbnibamhgfmaaDoor
