/- ginnelref07.Covers; BlocklistDisjoint. -/
import Derived.Test.YtjabeabbaambcaaDoorLawBlk0
import Derived.Test.YtjabeabbaambcaaDoorHelpP
import Derived.Test.YtjabeabbaambcaaDoorGen
namespace Go.Proofs.YtjabeabbaambcaaDoor
open Go.ChangeShapes Go.WideShapes Go.ChangeAt Go.RowKit

set_option maxRecDepth 20000 in
set_option maxHeartbeats 4000000 in
theorem refCov (p q : Pfx) (hp : GoodA p.2.1) (hq : GoodA q.2.1) (w : World) : Calls Tryd.prog 34 #[.agg (pfxC p).toArray, .agg (pfxC q).toArray] w fun e w' => e = .returned (.bool (covP p q)) ∧ Ch [] w w' := by
  have hB1 : Blk ((w.alloc (.cells (pfxC p).toArray 49)).alloc (.cells (pfxC q).toArray 49)) w.heap.size 49 (pfxC p) := (Blk.new w _ _).alloc _
  have hB2 : Blk ((w.alloc (.cells (pfxC p).toArray 49)).alloc (.cells (pfxC q).toArray 49)) (w.heap.size + 1) 49 (pfxC q) := Blk.newAt _ _ _ (by simp)
  have hC : Ch [] w ((w.alloc (.cells (pfxC p).toArray 49)).alloc (.cells (pfxC q).toArray 49)) := ((Ch.refl _ _).alloc _).alloc _
  have HIP := hid (pfx_inf (p := p) hp.1)
  have HIQ := hid (pfx_inf (p := q) hq.1)
  have HIA := hid (addr_inf (six := q.1) hq.1)
  have HP17 := hid (pfx_bits (p := p) hp.1)
  have HQ17 := hid (pfx_bits (p := q) hq.1)
  have HQA := hid (fun j v (hj : (addrC q.1 q.2.1)[j]? = some v) => pfx_addr (p := q) hj)
  have HV : Hid (∀ w, Calls Tryd.prog 75 #[.agg (pfxC q).toArray] w fun e w' => e = .returned (.bool (validP q)) ∧ Ch [] w w') := refValidPfx q.1 q.2.1 q.2.2 hq
  have HC : Hid (∀ w, Calls Tryd.prog 70 #[.agg (pfxC p).toArray, .agg (addrC q.1 q.2.1).toArray] w fun e w' => e = .returned (.bool (contP p q.1 q.2.1)) ∧ Ch [] w w') := refContPfx p.1 p.2.1 p.2.2 hp q.1 q.2.1 hq
  obtain ⟨n, hn⟩ : ∃ n, p.2.2 = n := ⟨_, rfl⟩
  obtain ⟨m, hm⟩ : ∃ m, q.2.2 = m := ⟨_, rfl⟩
  obtain ⟨V, hV⟩ : ∃ V, covP p q = V := ⟨_, rfl⟩
  rw [hV]
  unfold covP at hV
  rw [hn, hm] at hV
  rw [hn] at HP17
  rw [hm] at HQ17
  generalize validP q = vq at HV hV
  generalize contP p q.1 q.2.1 = cpq at HC hV
  generalize addrC q.1 q.2.1 = ca at HIA HQA HC
  generalize pfxC p = cp at hB1 hB2 hC HIP HP17 HC ⊢
  generalize pfxC q = cq at hB1 hB2 hC HIQ HQ17 HQA HV ⊢
  clear hn hm
  cases vq with
  | false =>
    obtain rfl : V = false := by rw [← hV]; rfl
    clear hV
    go_enter Tryd.func34, Tryd.ntmps34
    go_wp2_with (first
      | (refine wpList_loadB rfl 49 _ rfl (w.heap.size + 1) 49 cq _ rfl hB2 Tryd.underlying49 rfl HIQ.out ?_)
      | (go_at_call 75; (with_reducible refine (HV.out _).mono ?_); rintro e w2 ⟨rfl, C2⟩; have P2 := hB1.ch C2 (by simp); have Q2 := hB2.ch C2 (by simp); have c1 : w2.cell? ⟨w.heap.size, 17, none⟩ = some (.int .i64 n) := (P2.cell 17).trans HP17.out; have c2 : w2.cell? ⟨w.heap.size + 1, 17, none⟩ = some (.int .i64 m) := (Q2.cell 17).trans HQ17.out))
    go_ret
    exact ⟨rfl, hC.trans C2⟩
  | true =>
    by_cases hle : n ≤ m
    · have hd : decide (n ≤ m) = true := by simpa using hle
      obtain rfl : V = cpq := by rw [← hV, hd]; rfl
      clear hV
      go_enter Tryd.func34, Tryd.ntmps34
      go_wp2_with (first
        | (refine wpList_loadB rfl 49 _ rfl (w.heap.size + 1) 49 cq _ rfl hB2 Tryd.underlying49 rfl HIQ.out ?_)
        | (go_at_call 75; (with_reducible refine (HV.out _).mono ?_); rintro e w2 ⟨rfl, C2⟩; have P2 := hB1.ch C2 (by simp); have Q2 := hB2.ch C2 (by simp); have c1 : w2.cell? ⟨w.heap.size, 17, none⟩ = some (.int .i64 n) := (P2.cell 17).trans HP17.out; have c2 : w2.cell? ⟨w.heap.size + 1, 17, none⟩ = some (.int .i64 m) := (Q2.cell 17).trans HQ17.out)
        | (refine wpList_load_want rfl 49 _ rfl w.heap.size 0 rfl cp _ P2.range Tryd.underlying49 rfl HIP.out ?_)
        | (refine wpList_load_want rfl 29 _ rfl (w.heap.size + 1) 0 rfl ca _ (Q2.rangeMid 0 _ HQA.out) Tryd.underlying29 rfl HIA.out ?_)
        | (go_at_call 70; (with_reducible refine (HC.out _).mono ?_); rintro e w3 ⟨rfl, C3⟩))
      go_ret
      exact ⟨rfl, (hC.trans C2).trans C3⟩
    · have hd : decide (n ≤ m) = false := by simpa using hle
      obtain rfl : V = false := by rw [← hV, hd]; rfl
      clear hV
      go_enter Tryd.func34, Tryd.ntmps34
      go_wp2_with (first
        | (refine wpList_loadB rfl 49 _ rfl (w.heap.size + 1) 49 cq _ rfl hB2 Tryd.underlying49 rfl HIQ.out ?_)
        | (go_at_call 75; (with_reducible refine (HV.out _).mono ?_); rintro e w2 ⟨rfl, C2⟩; have P2 := hB1.ch C2 (by simp); have Q2 := hB2.ch C2 (by simp); have c1 : w2.cell? ⟨w.heap.size, 17, none⟩ = some (.int .i64 n) := (P2.cell 17).trans HP17.out; have c2 : w2.cell? ⟨w.heap.size + 1, 17, none⟩ = some (.int .i64 m) := (Q2.cell 17).trans HQ17.out))
      go_ret
      exact ⟨rfl, hC.trans C2⟩

set_option maxRecDepth 20000 in
set_option maxHeartbeats 4000000 in
theorem blocklistDisjoint_came {H : Type} {enc : TypeId × Value → H} (W : World) (args : Array Value) (ds : List (DataW H)) (_ : laidMetH Tryd.prog Rows.blocklistDisjointRow.laid W) (h : Came enc Tryd.prog Tryd.f5 W args ds) :
    Calls Tryd.prog 5 args W fun e W' => e = .returned (.bool true) ∧ Below W.heap.size W W' := by
  obtain ⟨v0, v1, d0, d1, rfl, a0, a1⟩ := h.args2 rfl
  obtain ⟨m, rfl, hm0, hm1⟩ := a0.i64 Tryd.underlying3
  obtain ⟨n, rfl, hn0, hn1⟩ := a1.i64 Tryd.underlying3
  clear h a0 a1
  have r1 := modI_rng m 15 (by omega)
  have r2 := modI_rng n 15 (by omega)
  have M1 := hid (fun w => genMod m 15 w (by omega) (by omega))
  have M2 := hid (fun w => genMod n 15 w (by omega) (by omega))
  obtain ⟨i, hi⟩ : ∃ i : Nat, modI m 15 = i := ⟨(modI m 15).toNat, by omega⟩
  obtain ⟨j, hj⟩ : ∃ j : Nat, modI n 15 = j := ⟨(modI n 15).toNat, by omega⟩
  rw [hi] at M1 r1
  rw [hj] at M2 r2
  have hi15 : i < 15 := by omega
  have hj15 : j < 15 := by omega
  have HG : Hid (∀ x ∈ blkT, x.2.1.length = 16) := fun x hx => (blk_good x hx).1
  clear hi hj
  go_enter Tryd.func5, Tryd.ntmps5
  go_wp2_with (first
    | (go_at_call 32; (with_reducible refine (pfxList w2).mono ?_); rintro e w3 ⟨A3, rfl, own3, C3⟩; have CC3 := CC2.trans C3)
    | (go_at_call 32; (with_reducible refine (pfxList W).mono ?_); rintro e w1 ⟨A1, rfl, own1, C1⟩)
    | (go_at_call 31; (with_reducible refine (ovrPOwn w1 _ _ _ _ _ _ own1 (by omega)).mono ?_); rintro e w2 ⟨rfl, C2⟩; have CC2 : Ch [] W w2 := C1.step C2 (fun g hg => .inr (own1.blks g hg).1))
    | (go_at_call 23; (with_reducible refine (refBlkL w3).mono ?_); rintro e w4 ⟨A4, c4, rfl, own4, C4⟩; have own3b := own3.ch C4 (by simp); have CC4 := CC3.trans C4)
    | (go_at_call 33; (with_reducible refine (eqEqP w4 _ _ 15 _ _ _ _ blkT own3b.rd own4.rd (Nat.le_refl _) (Nat.le_refl _) (by omega) HG.out).mono ?_); rintro e w5 ⟨rfl, C5⟩; have own5 := own3b.ch C5 (by simp); have CC5 := CC4.trans C5)
    | (go_at_call 14; (with_reducible refine (M1.out _).mono ?_); rintro e w6 ⟨rfl, rfl⟩)
    | (go_at_call 14; (with_reducible refine (M2.out _).mono ?_); rintro e w6 ⟨rfl, rfl⟩))
  obtain ⟨g, rfl, hg0, hg1⟩ := own5.form (by decide)
  have hbi := blkT[i]'(by rw [blk_len]; exact hi15)
  obtain ⟨pI, hpI⟩ : ∃ p, blkT[i]? = some p := ⟨_, List.getElem?_eq_getElem (by rw [blk_len]; exact hi15)⟩
  obtain ⟨pJ, hpJ⟩ : ∃ p, blkT[j]? = some p := ⟨_, List.getElem?_eq_getElem (by rw [blk_len]; exact hj15)⟩
  have hcov : i ≠ j → covP pI pJ = false := fun hne => by
    have := blk_disjoint ⟨i, hi15⟩ ⟨j, hj15⟩ (by intro e; exact hne (congrArg Fin.val e))
    rw [List.getElem?_eq_getElem (by rw [blk_len]; exact hi15)] at hpI
    rw [List.getElem?_eq_getElem (by rw [blk_len]; exact hj15)] at hpJ
    rw [← Option.some.inj hpI, ← Option.some.inj hpJ]
    exact this
  have hgI := blk_good pI (List.mem_of_getElem? hpI)
  have hgJ := blk_good pJ (List.mem_of_getElem? hpJ)
  have HRI : Hid (∀ w', Ch [] w5 w' → w'.rangeAt g (i * 18) (pfxC pI)) := fun w' h => range_ch (own_rows own5 i pI hpI) h hg1 (by simp)
  have HRJ : Hid (∀ w', Ch [] w5 w' → w'.rangeAt g (j * 18) (pfxC pJ)) := fun w' h => range_ch (own_rows own5 j pJ hpJ) h hg1 (by simp)
  have HII := hid (pfx_inf (p := pI) hgI.1)
  have HIJ := hid (pfx_inf (p := pJ) hgJ.1)
  have HCV := hid (refCov pI pJ hgI hgJ)
  clear own1 own3 own4 own3b own5 hbi hpI hpJ hgI hgJ
  generalize pfxC pI = pi at HRI HII HCV
  generalize pfxC pJ = pj at HRJ HIJ HCV
  have z0 : (0 : Int) ≤ i := by omega
  have z1 : (0 : Int) ≤ j := by omega
  have z2 : (i : Int) < 15 := by omega
  have z3 : (j : Int) < 15 := by omega
  by_cases hij : i = j
  · have hd : ((i : Int) == j) = true := by simp [hij]
    clear hcov
    clear hij
    refine wp_region_quietA (w5) (by kernel_rfl) (by kernel_rfl) (Ch.refl _ _) ?_
    repeat (first
      | (go_big_quiet_want; refine quiet_rowA 49 _ rfl g (i * 18) rfl pi _ HRI.out Tryd.underlying49 rfl HII.out ?_; simp only [Act.put, List.setIfInBounds_toArray, List.set_cons_succ, List.set_cons_zero]; go_big_quiet_on)
      | (go_big_quiet_want; refine quiet_rowA 49 _ rfl g (j * 18) rfl pj _ HRJ.out Tryd.underlying49 rfl HIJ.out ?_; simp only [Act.put, List.setIfInBounds_toArray, List.set_cons_succ, List.set_cons_zero]; go_big_quiet_on)
      | go_big_quiet_step (first
        | (go_at_call 26; with_reducible exact after_of (awake11 _))))
    refine wpQuiet_nil ?_
    intro wq hwq
    go_wp2_with fail
    go_ret
    exact ⟨rfl, (CC5.trans hwq).nil_below⟩
  · have hd : ((i : Int) == j) = false := by simp; omega
    rw [hcov hij] at HCV
    clear hcov hij
    refine wp_region_quietA (w5) (by kernel_rfl) (by kernel_rfl) (Ch.refl _ _) ?_
    repeat (first
      | (go_big_quiet_want; refine quiet_rowA 49 _ rfl g (i * 18) rfl pi _ HRI.out Tryd.underlying49 rfl HII.out ?_; simp only [Act.put, List.setIfInBounds_toArray, List.set_cons_succ, List.set_cons_zero]; go_big_quiet_on)
      | (go_big_quiet_want; refine quiet_rowA 49 _ rfl g (j * 18) rfl pj _ HRJ.out Tryd.underlying49 rfl HIJ.out ?_; simp only [Act.put, List.setIfInBounds_toArray, List.set_cons_succ, List.set_cons_zero]; go_big_quiet_on)
      | go_big_quiet_step (first
        | (go_at_call 26; with_reducible exact after_of (awake11 _))
        | (go_at_call 34; with_reducible exact after_of (HCV.out _))))
    refine wpQuiet_nil ?_
    intro wq hwq
    go_wp2_with fail
    go_ret
    exact ⟨rfl, (CC5.trans hwq).nil_below⟩
end Go.Proofs.YtjabeabbaambcaaDoor
