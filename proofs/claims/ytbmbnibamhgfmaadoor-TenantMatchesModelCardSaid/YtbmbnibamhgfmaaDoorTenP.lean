/- tenant.Registry: Acquire, Release, Authenticate. -/
import Derived.Test.YtbmbnibamhgfmaaDoorTenM
namespace Go.Proofs.YtbmbnibamhgfmaaDoor
open Go.RowKit

section
variable {w : World} {g : Nat} {X : List En} {FF : List Nat}
theorem RegM.same (h : RegM w g X FF) {w' : World} (hc : Ch [] w w') : RegM w' g X FF ∧ Ch FF w w' := ⟨h.nil hc, hc.mono (by simp)⟩
set_option maxHeartbeats 1000000 in
theorem regAcq (h : RegM w g X FF) (i : Int) (hb : ∀ e ∈ X, 0 ≤ e.act ∧ e.act ≤ 100) : Calls Tryd.prog 10 #[.pointer (some ⟨g, 0, none⟩), .int .i64 i] w fun r w' => r = .returned (.bool (acqOk X i)) ∧ RegM w' g (acqX X i) FF ∧ Ch FF w w' := by
  rcases idx_cases X i with ⟨k, e, rfl, hk⟩ | ⟨hi, hn⟩
  · have hq : acqOk X k = !(e.act == e.t.m) := by unfold acqOk; rw [Int.toNat_natCast, hk]; simp
    have hbe := hb e (List.mem_of_getElem? hk)
    obtain ⟨Gi, hE, hG, hP⟩ := h.entry hk
    have HL := hid (regLook h hk)
    have hset := fun a w' q (hq : w' = w.drewN q) => (hE.ch ((Ch.refl [] w).drewN q) (by simp) : EntM (w.drewN q) e.g e.t e.bd e.act Gi).setAct a
    have HPUT : Hid (∀ a q, RegM ((w.drewN q).setCell ⟨e.g, 8, none⟩ (.int .i64 a)) g (X.set k { e with act := a }) FF ∧ Ch FF w ((w.drewN q).setCell ⟨e.g, 8, none⟩ (.int .i64 a))) := fun a q => by
      obtain ⟨h1, h2, h3⟩ := hset a _ q rfl
      have hc := ((Ch.refl [e.g] w).drewN q).trans h2
      exact ⟨hP _ { e with act := a } [e.g] hc (fun b hb => by rw [List.mem_singleton] at hb; subst hb; exact h3) h1 rfl, hc.mono (fun b _ hb => by rw [List.mem_singleton] at hb; subst hb; exact hG _ h3)⟩
    obtain ⟨ga, gb, F, h1, _⟩ := hE
    have c8 : w.cell? ⟨e.g, 8, none⟩ = some (.int .i64 e.act) := h1.cell 8
    have c5 : w.cell? ⟨e.g, 5, none⟩ = some (.int .i64 e.t.m) := h1.cell 5
    have f8 := h1.frozen 8
    have HH := hid h
    by_cases hf : e.act = e.t.m
    · have hbt : (e.act == e.t.m) = true := by simpa using hf
      have HQ : Hid (acqOk X k = false) := by show _ = _; rw [hq, hbt]; rfl
      clear h hk h1 hq hP hset hb hf hG hbe
      go_enter Tryd.func10, Tryd.ntmps10
      go_wp2_with (first
        | go_big_skip
        | (go_at_call 32; (with_reducible refine HL.out.mono ?_); rintro r w2 ⟨rfl, rfl⟩; simp only [enP]))
      go_quiet (fail)
      go_wp2
      go_ret
      obtain ⟨r1, r2⟩ := HH.out.same ((Ch.refl [] w).drewN _)
      exact ⟨ret_bool HQ.out.symm, by unfold acqX; rw [HQ.out]; exact r1, r2⟩
    · have hbt : (e.act == e.t.m) = false := by simpa using hf
      have HQ : Hid (acqOk X k = true) := by show _ = _; rw [hq, hbt]; rfl
      have HX : Hid (acqX X k = X.set k { e with act := e.act + 1 }) := by show _ = _; unfold acqX setA; rw [HQ.out, if_pos rfl, Int.toNat_natCast, hk]
      clear h hk h1 hq hP hset hb hf hG
      go_enter Tryd.func10, Tryd.ntmps10
      go_wp2_with (first
        | go_big_skip
        | (go_at_call 32; (with_reducible refine HL.out.mono ?_); rintro r w2 ⟨rfl, rfl⟩; simp only [enP]))
      go_quiet (fail)
      go_wp2
      go_ret
      obtain ⟨r1, r2⟩ := HPUT.out (e.act + 1) _
      exact ⟨ret_bool HQ.out.symm, by rw [HX.out]; exact r1, r2⟩
  · have HQ : Hid (acqOk X i = false) := by
      show _ = _
      unfold acqOk
      by_cases h0 : 0 ≤ i
      · rw [hn h0]; simp
      · simp [h0]
    have HL := hid (regLookNo h i hi)
    have HH := hid h
    clear h hi hn hb
    go_enter Tryd.func10, Tryd.ntmps10
    go_wp2_with (first
      | go_big_skip
      | (go_at_call 32; (with_reducible refine HL.out.mono ?_); rintro r w2 ⟨rfl, rfl⟩))
    go_quiet (fail)
    go_wp2
    go_ret
    obtain ⟨r1, r2⟩ := HH.out.same ((Ch.refl [] w).drewN _)
    exact ⟨ret_bool HQ.out.symm, by unfold acqX; rw [HQ.out]; exact r1, r2⟩
set_option maxHeartbeats 1000000 in
theorem regRel (h : RegM w g X FF) (i : Int) (hb : ∀ e ∈ X, 0 ≤ e.act ∧ e.act ≤ 100) : Calls Tryd.prog 12 #[.pointer (some ⟨g, 0, none⟩), .int .i64 i] w fun r w' => r = .returned (.bool (relOk X i)) ∧ RegM w' g (relX X i) FF ∧ Ch FF w w' := by
  rcases idx_cases X i with ⟨k, e, rfl, hk⟩ | ⟨hi, hn⟩
  · have hq : relOk X k = !(e.act == 0) := by unfold relOk; rw [Int.toNat_natCast, hk]; simp
    have hbe := hb e (List.mem_of_getElem? hk)
    obtain ⟨Gi, hE, hG, hP⟩ := h.entry hk
    have HL := hid (regLook h hk)
    have HPUT : Hid (∀ a, RegM (w.setCell ⟨e.g, 8, none⟩ (.int .i64 a)) g (X.set k { e with act := a }) FF ∧ Ch FF w (w.setCell ⟨e.g, 8, none⟩ (.int .i64 a))) := fun a => by
      obtain ⟨h1, hc, h3⟩ := hE.setAct a
      exact ⟨hP _ { e with act := a } [e.g] hc (fun b hb => by rw [List.mem_singleton] at hb; subst hb; exact h3) h1 rfl, hc.mono (fun b _ hb => by rw [List.mem_singleton] at hb; subst hb; exact hG _ h3)⟩
    obtain ⟨ga, gb, F, h1, _⟩ := hE
    have c8 : w.cell? ⟨e.g, 8, none⟩ = some (.int .i64 e.act) := h1.cell 8
    have f8 := h1.frozen 8
    have HH := hid h
    by_cases hf : e.act = 0
    · have hbt : (e.act == 0) = true := by simpa using hf
      have HQ : Hid (relOk X k = false) := by show _ = _; rw [hq, hbt]; rfl
      clear h hk h1 hq hP hb hf hG hbe
      go_enter Tryd.func12, Tryd.ntmps12
      go_wp2_with (first
        | go_big_skip
        | (go_at_call 32; (with_reducible refine HL.out.mono ?_); rintro r w2 ⟨rfl, rfl⟩; simp only [enP]))
      go_ret
      obtain ⟨r1, r2⟩ := HH.out.same (Ch.refl [] w)
      exact ⟨ret_bool HQ.out.symm, by unfold relX; rw [HQ.out]; exact r1, r2⟩
    · have hbt : (e.act == 0) = false := by simpa using hf
      have HQ : Hid (relOk X k = true) := by show _ = _; rw [hq, hbt]; rfl
      have HX : Hid (relX X k = X.set k { e with act := e.act - 1 }) := by show _ = _; unfold relX setA; rw [HQ.out, if_pos rfl, Int.toNat_natCast, hk]; rfl
      clear h hk h1 hq hP hb hf hG
      go_enter Tryd.func12, Tryd.ntmps12
      go_wp2_with (first
        | go_big_skip
        | (go_at_call 32; (with_reducible refine HL.out.mono ?_); rintro r w2 ⟨rfl, rfl⟩; simp only [enP]))
      go_ret
      obtain ⟨r1, r2⟩ := HPUT.out (e.act - 1)
      exact ⟨ret_bool HQ.out.symm, by rw [HX.out]; exact r1, r2⟩
  · have HQ : Hid (relOk X i = false) := by
      show _ = _
      unfold relOk
      by_cases h0 : 0 ≤ i
      · rw [hn h0]; simp
      · simp [h0]
    have HL := hid (regLookNo h i hi)
    have HH := hid h
    clear h hi hn hb
    go_enter Tryd.func12, Tryd.ntmps12
    go_wp2_with (first
      | go_big_skip
      | (go_at_call 32; (with_reducible refine HL.out.mono ?_); rintro r w2 ⟨rfl, rfl⟩))
    go_ret
    obtain ⟨r1, r2⟩ := HH.out.same (Ch.refl [] w)
    exact ⟨ret_bool HQ.out.symm, by unfold relX; rw [HQ.out]; exact r1, r2⟩
/-- Whose name and password they are. -/
def isU (u p : ByteArray) (e : En) : Bool := (e.t.u.toList == u.toList) && (e.t.p.toList == p.toList)
theorem find_none {α : Type} {q : α → Bool} {X : List α} {k : Nat} (h : ∀ (j : Nat) x, j < k → X[j]? = some x → q x = false) (hk : X.length ≤ k) : X.findIdx? q = none := by
  rw [List.findIdx?_eq_none_iff]
  intro x hx
  obtain ⟨j, hj⟩ := List.getElem?_of_mem hx
  exact h j x (by have := (List.getElem?_eq_some_iff.1 hj).1; omega) hj
theorem find_some {α : Type} {q : α → Bool} {X : List α} {k : Nat} {x : α} (h : ∀ (j : Nat) x, j < k → X[j]? = some x → q x = false) (hx : X[k]? = some x) (hq : q x = true) : X.findIdx? q = some k := by
  rw [List.findIdx?_eq_some_iff_getElem]
  obtain ⟨hlt, he⟩ := List.getElem?_eq_some_iff.1 hx
  refine ⟨hlt, by rw [he]; exact hq, fun j hj => ?_⟩
  rw [h j _ hj (List.getElem?_eq_getElem _)]; simp
set_option maxHeartbeats 2000000 in
theorem regAuth (h : RegM w g X FF) (hl : X.length ≤ 1000000) (u p : ByteArray) : Calls Tryd.prog 16 #[.pointer (some ⟨g, 0, none⟩), .string u, .string p] w fun r w' => r = .returned (.tuple #[.int .i64 (match X.findIdx? (isU u p) with | some k => (k : Int) | none => 0), .bool (X.findIdx? (isU u p)).isSome]) ∧ Ch [] w w' := by
  obtain ⟨A, c, c0, hs⟩ := h.slot
  have HS : Hid (∀ (k : Nat) (e : En), X[k]? = some e → ∃ b off, A = some ⟨b, off, none⟩ ∧ ∀ w', Ch [] w w' → w'.cell? ⟨b, off + k, none⟩ = some (enP e)) := fun k e hk => by
    obtain ⟨b, off, hA, hc⟩ := hs k e hk
    exact ⟨b, off, hA, fun w' hch => (hch.cell (p := ⟨b, off + k, none⟩) (World.block_lt_of_cell? w _ hc) (by simp)).trans hc⟩
  have HE : Hid (∀ (k : Nat) (e : En), X[k]? = some e → ∀ w', Ch [] w w' → w'.cell? ⟨e.g, 0, none⟩ = some (.string e.t.u) ∧ w'.cell? ⟨e.g, 1, none⟩ = some (.string e.t.p)) := fun k e hk w' hch => by
    obtain ⟨Gi, ⟨ga, gb, F, h1, _⟩, _⟩ := h.entry hk
    exact ⟨(h1.ch hch (by simp)).cell 0, (h1.ch hch (by simp)).cell 1⟩
  obtain ⟨n, hn⟩ : ∃ n, X.length = n := ⟨_, rfl⟩
  rw [hn] at c0 hl
  have HN := hid hn
  obtain ⟨ri, hri⟩ : ∃ ri : Int, (match X.findIdx? (isU u p) with | some k => (k : Int) | none => 0) = ri := ⟨_, rfl⟩
  obtain ⟨rb, hrb⟩ : ∃ rb, (X.findIdx? (isU u p)).isSome = rb := ⟨_, rfl⟩
  rw [hri, hrb]
  have HRI := hid hri
  have HRB := hid hrb
  clear h hs hn hri hrb
  go_enter Tryd.func16, Tryd.ntmps16
  go_wp2_with go_big_skip
  go_loopw [15] (fun i wr => ∃ k : Nat, i = .int .i64 k ∧ k ≤ n ∧ Hid (∀ (j : Nat) x, j < k → X[j]? = some x → isU u p x = false) ∧ Ch [] w wr) (fun i _ => n - (intOf i).toNat)
  case atStart => exact ⟨0, rfl, by omega, by show ∀ j x, _; omega, Ch.refl _ _⟩
  case round =>
    obtain ⟨k, rfl, hk, HNO, CX⟩ := hrel
    by_cases hlt : k < n
    · obtain ⟨e, he⟩ : ∃ e, X[k]? = some e := ⟨_, List.getElem?_eq_getElem (by rw [HN.out]; exact hlt)⟩
      obtain ⟨b, off, rfl, hc1⟩ := HS.out k e he
      have c1 := hc1 _ CX
      obtain ⟨d0, d1⟩ := HE.out k e he _ CX
      clear hc1
      have hi0 : (0 : Int) ≤ k := by omega
      have hik : (k : Int) < n := by omega
      simp only [enP] at c1
      cases hu : (e.t.u.toList == u.toList)
      · have HNK : Hid (∀ (j : Nat) x, j < k + 1 → X[j]? = some x → isU u p x = false) := fun j x hj hx => by
          by_cases hjk : j < k
          · exact HNO.out j x hjk hx
          · obtain rfl : j = k := by omega
            obtain rfl : x = e := by rw [he] at hx; exact (Option.some.inj hx).symm
            unfold isU; rw [hu]; rfl
        clear he
        go_wp2_with go_big_skip
        go_roundw
        case rel => exact ⟨k + 1, by go_num, by omega, HNK, CX⟩
        case measure => simp [intOf]; omega
      · cases hp : (e.t.p.toList == p.toList)
        · have HNK : Hid (∀ (j : Nat) x, j < k + 1 → X[j]? = some x → isU u p x = false) := fun j x hj hx => by
            by_cases hjk : j < k
            · exact HNO.out j x hjk hx
            · obtain rfl : j = k := by omega
              obtain rfl : x = e := by rw [he] at hx; exact (Option.some.inj hx).symm
              unfold isU; rw [hp]; simp
          clear he
          go_wp2_with go_big_skip
          go_roundw
          case rel => exact ⟨k + 1, by go_num, by omega, HNK, CX⟩
          case measure => simp [intOf]; omega
        · have hfd := find_some HNO.out he (show isU u p e = true by unfold isU; rw [hu, hp]; rfl)
          have h1 : ri = k := by rw [← HRI.out, hfd]
          have h2 : rb = true := by rw [← HRB.out, hfd]; rfl
          have H1 := hid h1
          have H2 := hid h2
          clear h1 h2 hfd he
          go_wp2_with go_big_skip
          go_ret2
          exact ⟨by rw [H1.out, H2.out]; rfl, CX⟩
    · have hfd := find_none HNO.out (by rw [HN.out]; omega)
      have h1 : ri = 0 := by rw [← HRI.out, hfd]
      have h2 : rb = false := by rw [← HRB.out, hfd]; rfl
      have H1 := hid h1
      have H2 := hid h2
      clear h1 h2 hfd
      have hik : ¬ (k : Int) < n := by omega
      go_wp2_with go_big_skip
      go_ret2
      exact ⟨by rw [H1.out, H2.out]; rfl, CX⟩
end
end Go.Proofs.YtbmbnibamhgfmaaDoor
