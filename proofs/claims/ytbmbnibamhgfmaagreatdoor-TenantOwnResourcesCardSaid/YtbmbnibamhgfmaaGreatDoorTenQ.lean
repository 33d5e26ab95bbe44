/- Acquire, Release, Authenticate: the program's and the reference's; the reference's Charge at an element of a slice. -/
import Derived.Test.YtbmbnibamhgfmaaGreatDoorTenM
import Derived.Test.YtbmbnibamhgfmaaGreatDoorTenR
namespace Go.Proofs.YtbmbnibamhgfmaaGreatDoor
open Go.RowKit

theorem flat_set1 {α : Type} {f : α → List Value} {size : Nat} (hf : ∀ x, (f x).length = size) {e e' : α} {j : Nat} {v : Value} (hj : j < size) (he : f e' = (f e).set j v) : ∀ (X : List α) (k : Nat), X[k]? = some e → (X.flatMap f).set (k * size + j) v = (X.set k e').flatMap f
  | [], k, h => by simp at h
  | x :: X, 0, h => by
    obtain rfl : x = e := by simpa using h
    simp only [List.flatMap_cons, Nat.zero_mul, Nat.zero_add, List.set_cons_zero]
    rw [List.set_append_left _ _ (by rw [hf]; exact hj), he]
  | x :: X, k + 1, h => by
    simp only [List.flatMap_cons, List.set_cons_succ]
    rw [List.set_append_right _ _ (by rw [hf, Nat.succ_mul]; omega), hf, ← flat_set1 hf hj he X k (by simpa using h)]
    congr 2
    rw [Nat.succ_mul]; omega
theorem map_set1 {α : Type} {f : α → Value} {e' : α} {v : Value} (he : f e' = v) (X : List α) (k : Nat) : (X.map f).set k v = (X.set k e').map f := by
  rw [← he, List.map_set]
section
variable {w : World} {g n cap bc ac : Nat} {TA BA AA : Option Addr} {X : List En}
theorem RfM.bcell (h : RfM w g n TA cap X BA bc AA ac) {k : Nat} {e : En} (hk : X[k]? = some e) : ∃ p, BA = some ⟨p, 0, none⟩ ∧ (∀ j v, e.bd.cells[j]? = some v → w.cell? ⟨p, k * 4 + j, none⟩ = some v) ∧ (∀ j, j < 4 → w.frozen? ⟨p, k * 4 + j, none⟩ = false) := by
  have hlt := (List.getElem?_eq_some_iff.1 hk).1
  obtain ⟨p, hp, _, _⟩ := h.bud.form (by omega)
  subst hp
  obtain ⟨b, off, e1, _, hc⟩ := h.bud.rd.2 (by omega)
  simp only [Option.some.injEq, Addr.mk.injEq] at e1
  obtain ⟨rfl, rfl, _⟩ := e1
  refine ⟨p, rfl, fun j v hv => ?_, fun j hj => ?_⟩
  · have := hc _ v (flat_get X (f := fun e => e.bd.cells) (size := 4) (fun x _ => rfl) k e hk j v hv)
    rwa [Nat.zero_add] at this
  · have := (h.bud.there (k * 4 + j) (by have : k * 4 + j < X.length * 4 := by omega
                                         exact this)).2
    rwa [Nat.zero_add] at this
theorem RfM.acell (h : RfM w g n TA cap X BA bc AA ac) {k : Nat} {e : En} (hk : X[k]? = some e) : ∃ p, AA = some ⟨p, 0, none⟩ ∧ w.cell? ⟨p, k, none⟩ = some (.int .i64 e.act) ∧ w.frozen? ⟨p, k, none⟩ = false ∧ g < p := by
  have hlt := (List.getElem?_eq_some_iff.1 hk).1
  obtain ⟨p, hp, hgp, _⟩ := h.act.form (by omega)
  subst hp
  obtain ⟨b, off, e1, _, hc⟩ := h.act.rd.2 (by omega)
  simp only [Option.some.injEq, Addr.mk.injEq] at e1
  obtain ⟨rfl, rfl, _⟩ := e1
  refine ⟨p, rfl, ?_, ?_, hgp⟩
  · have := hc k (.int .i64 e.act) (by rw [List.getElem?_map, hk]; rfl)
    rwa [Nat.zero_add] at this
  · have := (h.act.there k (by rw [Nat.mul_one]; exact hlt)).2
    rwa [Nat.zero_add] at this
theorem RfM.bset (h : RfM w g n TA cap X BA bc AA ac) {k p : Nat} {e : En} {bd : Bud} {j : Nat} {v : Value} (hk : X[k]? = some e) (hp : BA = some ⟨p, 0, none⟩) (hj : j < 4) (he : bd.cells = e.bd.cells.set j v) : RfM (w.setCell ⟨p, k * 4 + j, none⟩ v) g n TA cap (X.set k { e with bd := bd }) BA bc AA ac ∧ Ch (blkOf BA) w (w.setCell ⟨p, k * 4 + j, none⟩ v) := by
  subst hp
  have hc : Ch [p] w (w.setCell ⟨p, k * 4 + j, none⟩ v) := (Ch.refl [p] w).setCell (p := ⟨p, k * 4 + j, none⟩) (.inl (by simp)) _
  have hgp : g + 1 ≤ p := (h.bud.blks p (by simp [blkOf])).1
  refine ⟨⟨?_, ?_, ?_, h.ba⟩, hc⟩
  · rw [List.length_set]; exact h.blk.far (p := ⟨p, k * 4 + j, none⟩) (by show g ≠ p; omega) _
  · rw [List.length_set, ← flat_set1 (f := fun e : En => e.bd.cells) (size := 4) (fun _ => rfl) hj he X k hk]
    exact h.bud.set _ v
  · have e1 : (X.set k { e with bd := bd }).map (fun e => Value.int .i64 e.act) = X.map fun e => Value.int .i64 e.act := by
      rw [List.map_set]
      obtain ⟨hlt, he⟩ := List.getElem?_eq_some_iff.1 hk
      have : (X.map (fun e => Value.int .i64 e.act))[k]'(by simpa using hlt) = Value.int .i64 e.act := by simp [he]
      rw [← this, List.set_getElem_self]
    rw [List.length_set, e1]
    exact h.act.ch hc (fun b hb hs => by rw [List.mem_singleton] at hs; subst hs; exact h.ba b (by simp [blkOf]) hb)
theorem RfM.aset (h : RfM w g n TA cap X BA bc AA ac) {k p : Nat} {e : En} {a : Int} (hk : X[k]? = some e) (hp : AA = some ⟨p, 0, none⟩) : RfM (w.setCell ⟨p, k, none⟩ (.int .i64 a)) g n TA cap (X.set k { e with act := a }) BA bc AA ac ∧ Ch (blkOf AA) w (w.setCell ⟨p, k, none⟩ (.int .i64 a)) := by
  subst hp
  have hc : Ch [p] w (w.setCell ⟨p, k, none⟩ (.int .i64 a)) := (Ch.refl [p] w).setCell (p := ⟨p, k, none⟩) (.inl (by simp)) _
  have hgp : g + 1 ≤ p := (h.act.blks p (by simp [blkOf])).1
  refine ⟨⟨?_, ?_, ?_, h.ba⟩, hc⟩
  · rw [List.length_set]; exact h.blk.far (p := ⟨p, k, none⟩) (by show g ≠ p; omega) _
  · have e1 : (X.set k { e with act := a }).flatMap (fun e => e.bd.cells) = X.flatMap fun e => e.bd.cells := by
      rw [List.flatMap_def, List.flatMap_def, List.map_set]
      obtain ⟨hlt, he⟩ := List.getElem?_eq_some_iff.1 hk
      have : (X.map (fun e => e.bd.cells))[k]'(by simpa using hlt) = e.bd.cells := by simp [he]
      rw [← this, List.set_getElem_self]
    rw [List.length_set, e1]
    exact h.bud.ch hc (fun b hb hs => by rw [List.mem_singleton] at hs; subst hs; exact h.ba b hb (by simp [blkOf]))
  · rw [List.length_set, ← map_set1 (f := fun e : En => Value.int .i64 e.act) (v := Value.int .i64 a) rfl X k]
    exact h.act.set _ _
theorem RfM.drewN (h : RfM w g n TA cap X BA bc AA ac) (q : Nat) : RfM (w.drewN q) g n TA cap X BA bc AA ac := ⟨h.blk.drewN q, h.bud.drewN q, h.act.drewN q, h.ba⟩
theorem set_set_eq {α : Type} (X : List α) (k : Nat) (a b : α) : (X.set k a).set k b = X.set k b := List.set_set a
end
set_option maxRecDepth 100000 in
theorem rudChargeX {w : World} {g n cap bc ac : Nat} {TA BA AA : Option Addr} {X : List En} (h : RfM w g n TA cap X BA bc AA ac) {k p : Nat} {e : En} (hk : X[k]? = some e) (hp : BA = some ⟨p, 0, none⟩) (hs : e.bd.Ok) (now : Int) (h0 : 0 ≤ now) (h1 : now ≤ 18446744073709551615) :
    Calls Tryz.prog 36 #[.pointer (some ⟨p, k * 4, none⟩), .int .u64 now] w fun r w' => r = .returned (.bool (e.bd.grants now)) ∧ RfM w' g n TA cap (X.set k { e with bd := e.bd.next now }) BA bc AA ac ∧ Ch (blkOf BA) w w' := by
  obtain ⟨p', hp', hc, hf⟩ := h.bcell hk
  obtain rfl : p' = p := by rw [hp] at hp'; simpa using hp'.symm
  have hself : ∀ (w' : World) (q : Nat), w' = w.drewN q → RfM w' g n TA cap (X.set k e) BA bc AA ac := fun w' q hq => by
    have : X.set k e = X := by
      obtain ⟨hlt, he⟩ := List.getElem?_eq_some_iff.1 hk
      rw [← he, List.set_getElem_self]
    rw [this, hq]
    exact h.drewN q
  have hkl := (List.getElem?_eq_some_iff.1 hk).1
  obtain ⟨t0, g0, bd, act⟩ := e
  obtain ⟨bn, bw, bx, bu⟩ := bd
  have c0 : w.cell? ⟨p', k * 4, none⟩ = some (.int .i64 bn) := hc 0 _ rfl
  have c1 : w.cell? ⟨p', k * 4 + 1, none⟩ = some (.int .u64 bw) := hc 1 _ rfl
  have c2 : w.cell? ⟨p', k * 4 + 2, none⟩ = some (.int .u64 bx) := hc 2 _ rfl
  have c3 : w.cell? ⟨p', k * 4 + 3, none⟩ = some (.int .i64 bu) := hc 3 _ rfl
  have f2 := hf 2 (by omega)
  have f3 := hf 3 (by omega)
  have HH := hid h
  have HSF := hid hself
  have HK := hid hk
  have HP := hid hp
  have HKL := hid hkl
  obtain ⟨n0, n1, w0, w1, u0, u1, x0, x1⟩ := hs
  simp only at n0 n1 w0 w1 u0 u1 x0 x1
  clear h hself hk hp hp' hkl hc hf
  have hset : ∀ (b1 : Bud) (e1 : En), (X.set k e1)[k]? = some e1 := fun _ e1 => List.getElem?_set_self HKL.out
  have HSET := hid hset
  clear hset
  by_cases hw : bx < winT now bw
  · by_cases hn : bn = 0
    · have hb : ((0 : Int) == bn) = true := by rw [hn]; rfl
      have hi : bn ≤ 0 := by omega
      have hq : Bud.grants ⟨bn, bw, bx, bu⟩ now = false ∧ Bud.next ⟨bn, bw, bx, bu⟩ now = ⟨bn, bw, winT now bw, 0⟩ := by
        have : Bud.grants ⟨bn, bw, bx, bu⟩ now = false := by rw [Bud.grants, Bud.at_, if_pos hw]; simp [hb]
        exact ⟨this, by rw [Bud.next, if_neg (by simp [this]), Bud.at_, if_pos hw]⟩
      have HQ := hid hq
      clear hq hn hb
      go_enter Tryz.func36, Tryz.ntmps36
      go_wp2_with (go_at_call 68; refine (refWindow _ _ _ (by omega) (by omega) (by omega) (by omega)).mono ?_; rintro e w' ⟨rfl, rfl⟩)
      go_quiet (fail)
      go_wp2
      go_ret
      obtain ⟨r1, d1⟩ := HH.out.bset (bd := ⟨bn, bw, winT now bw, bu⟩) (j := 2) (v := .int .u64 (winT now bw)) HK.out HP.out (by omega) rfl
      obtain ⟨r2, d2⟩ := r1.bset (bd := ⟨bn, bw, winT now bw, 0⟩) (j := 3) (v := .int .i64 0) (HSET.out ⟨0, 0, 0, 0⟩ _) HP.out (by omega) rfl
      rw [set_set_eq] at r2
      exact ⟨ret_bool HQ.out.1.symm, by rw [HQ.out.2]; exact r2.drewN _, (d1.trans d2).drewN _⟩
    · have hb : ((0 : Int) == bn) = false := by simp; omega
      have hi : 0 < bn := by omega
      have hq : Bud.grants ⟨bn, bw, bx, bu⟩ now = true ∧ Bud.next ⟨bn, bw, bx, bu⟩ now = ⟨bn, bw, winT now bw, 0 + 1⟩ := by
        have : Bud.grants ⟨bn, bw, bx, bu⟩ now = true := by rw [Bud.grants, Bud.at_, if_pos hw]; simp [hb]
        exact ⟨this, by rw [Bud.next, if_pos this, Bud.at_, if_pos hw]⟩
      have HQ := hid hq
      clear hq hn hb
      go_enter Tryz.func36, Tryz.ntmps36
      go_wp2_with (go_at_call 68; refine (refWindow _ _ _ (by omega) (by omega) (by omega) (by omega)).mono ?_; rintro e w' ⟨rfl, rfl⟩)
      go_quiet (fail)
      go_wp2
      go_ret
      obtain ⟨r1, d1⟩ := HH.out.bset (bd := ⟨bn, bw, winT now bw, bu⟩) (j := 2) (v := .int .u64 (winT now bw)) HK.out HP.out (by omega) rfl
      obtain ⟨r2, d2⟩ := r1.bset (bd := ⟨bn, bw, winT now bw, 0⟩) (j := 3) (v := .int .i64 0) (HSET.out ⟨0, 0, 0, 0⟩ _) HP.out (by omega) rfl
      rw [set_set_eq] at r2
      have d3 := d1.trans d2
      obtain ⟨r3, d4⟩ := (r2.drewN _).bset (bd := ⟨bn, bw, winT now bw, 0 + 1⟩) (j := 3) (v := .int .i64 (0 + 1)) (HSET.out ⟨0, 0, 0, 0⟩ _) HP.out (by omega) rfl
      rw [set_set_eq] at r3
      exact ⟨ret_bool HQ.out.1.symm, by rw [HQ.out.2]; exact r3, (d3.drewN _).trans d4⟩
  · by_cases hn : bu = bn
    · have hb : (bu == bn) = true := by rw [hn]; simp
      have hi : bn ≤ bu := by omega
      have hq : Bud.grants ⟨bn, bw, bx, bu⟩ now = false ∧ Bud.next ⟨bn, bw, bx, bu⟩ now = ⟨bn, bw, bx, bu⟩ := by
        have : Bud.grants ⟨bn, bw, bx, bu⟩ now = false := by rw [Bud.grants, Bud.at_, if_neg (by simpa using hw)]; simp [hb]
        exact ⟨this, by rw [Bud.next, if_neg (by simp [this]), Bud.at_, if_neg (by simpa using hw)]⟩
      have HQ := hid hq
      clear hq hn hb
      go_enter Tryz.func36, Tryz.ntmps36
      go_wp2_with (go_at_call 68; refine (refWindow _ _ _ (by omega) (by omega) (by omega) (by omega)).mono ?_; rintro e w' ⟨rfl, rfl⟩)
      go_quiet (fail)
      go_wp2
      go_ret
      exact ⟨ret_bool HQ.out.1.symm, by rw [HQ.out.2]; exact HSF.out _ _ rfl, (Ch.refl _ _).drewN _⟩
    · have hb : (bu == bn) = false := by simpa using hn
      have hi : bu < bn := by omega
      have hq : Bud.grants ⟨bn, bw, bx, bu⟩ now = true ∧ Bud.next ⟨bn, bw, bx, bu⟩ now = ⟨bn, bw, bx, bu + 1⟩ := by
        have : Bud.grants ⟨bn, bw, bx, bu⟩ now = true := by rw [Bud.grants, Bud.at_, if_neg (by simpa using hw)]; simp [hb]
        exact ⟨this, by rw [Bud.next, if_pos this, Bud.at_, if_neg (by simpa using hw)]⟩
      have HQ := hid hq
      clear hq hn hb
      go_enter Tryz.func36, Tryz.ntmps36
      go_wp2_with (go_at_call 68; refine (refWindow _ _ _ (by omega) (by omega) (by omega) (by omega)).mono ?_; rintro e w' ⟨rfl, rfl⟩)
      go_quiet (fail)
      go_wp2
      go_ret
      obtain ⟨r3, d4⟩ := (HH.out.drewN _).bset (bd := ⟨bn, bw, bx, bu + 1⟩) (j := 3) (v := .int .i64 (bu + 1)) HK.out HP.out (by omega) rfl
      exact ⟨ret_bool HQ.out.1.symm, by rw [HQ.out.2]; exact r3, ((Ch.refl _ _).drewN _).trans d4⟩
end Go.Proofs.YtbmbnibamhgfmaaGreatDoor
