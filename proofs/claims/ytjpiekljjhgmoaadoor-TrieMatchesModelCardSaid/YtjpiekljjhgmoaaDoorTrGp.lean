/- gen.Prefix (printed by mk_trgp.py). -/
import Derived.Test.YtjpiekljjhgmoaaDoorTrCm
import Derived.Test.YtjpiekljjhgmoaaDoorMD
import Derived.Deep.DeepCutAuto
import Derived.Deep.CutRange
namespace Go.Proofs.YtjpiekljjhgmoaaDoor
open Go.RowKit

/-- The prefix that gen.Prefix gives. -/
def genP (p : Pfx) : Pfx :=
  let a := someA p.1 p.2.1
  let v := vldA a.1 a.2
  let k := modI p.2.2 (bitL a.1 + 1)
  (a.1, truncL v k, k)
theorem genP_ok {p : Pfx} (h : GoodA p.2.1) : OkP (genP p) := by
  have h1 := someA_good (six := p.1) h
  obtain ⟨h2, h3⟩ := vldA_good (six := (someA p.1 p.2.1).1) h1
  have hb : 0 ≤ bitL (someA p.1 p.2.1).1 := by cases (someA p.1 p.2.1).1 <;> decide
  obtain ⟨k0, k1⟩ := modI_rng p.2.2 (bitL (someA p.1 p.2.1).1 + 1) (by omega)
  obtain ⟨k, hk⟩ := Int.eq_ofNat_of_zero_le k0
  unfold genP
  simp only [hk]
  exact okP_of h2 h3 (by omega)
set_option maxRecDepth 20000 in
set_option maxHeartbeats 8000000 in
theorem genPfx (p : Pfx) (hg : GoodA p.2.1) (w : World) :
    Calls Tryd.prog 17 #[.agg (pfxC p).toArray] w fun e w' => e = .returned (.agg (pfxC (genP p)).toArray) ∧ Ch [] w w' := by
  have BP : Blk ((w.alloc (.cells (pfxC p).toArray 33)).alloc (.cells (pfxC (false, zeros, 0)).toArray 33)) w.heap.size 33 (pfxC p) := (Blk.new w _ _).alloc _
  have BR : Blk ((w.alloc (.cells (pfxC p).toArray 33)).alloc (.cells (pfxC (false, zeros, 0)).toArray 33)) (w.heap.size + 1) 33 (pfxC (false, zeros, 0)) := Blk.newAt _ _ _ (by simp)
  have CX : Ch [] w ((w.alloc (.cells (pfxC p).toArray 33)).alloc (.cells (pfxC (false, zeros, 0)).toArray 33)) := ((Ch.refl _ _).alloc _).alloc _
  have HA : Hid (∀ j v, (addrC p.1 p.2.1)[j]? = some v → (pfxC p)[0 + j]? = some v) := fun j v hj => pfx_addr (p := p) hj
  have H17 := hid (pfx_bits (p := p) hg.1)
  have HIA := hid (addr_inf (six := p.1) hg.1)
  have HSA := hid (genSome p.1 p.2.1 hg)
  have hok := genP_ok hg
  obtain ⟨pq, hpq⟩ : ∃ pq, genP p = pq := ⟨_, rfl⟩
  rw [hpq] at hok ⊢
  have hgp : genP p = ((someA p.1 p.2.1).1, truncL (vldA (someA p.1 p.2.1).1 (someA p.1 p.2.1).2) (modI p.2.2 (bitL (someA p.1 p.2.1).1 + 1)), modI p.2.2 (bitL (someA p.1 p.2.1).1 + 1)) := rfl
  rw [hgp] at hpq
  clear hgp
  have h1 := someA_good (six := p.1) hg
  generalize (someA p.1 p.2.1).1 = s2 at HSA h1 hpq
  generalize (someA p.1 p.2.1).2 = ys at HSA h1 hpq
  obtain ⟨h2, h3⟩ := vldA_good (six := s2) h1
  have HVA := hid (genValid s2 ys h1)
  generalize vldA s2 ys = xs at HVA h2 h3 hpq
  have hb0 : 0 ≤ bitL s2 := by cases s2 <;> decide
  have hb1 := bitL_le s2
  obtain ⟨k0, k1⟩ := modI_rng p.2.2 (bitL s2 + 1) (by omega)
  obtain ⟨k, hk⟩ := Int.eq_ofNat_of_zero_le k0
  have HBL := hid (bitLenR s2 xs)
  have HMD : Hid (∀ w, Calls Tryd.prog 9 #[.int .i64 p.2.2, .int .i64 (bitL s2 + 1)] w fun e w' => e = .returned (.int .i64 k) ∧ w = w') := fun w => by
    rw [← hk]; exact genMod _ _ w (by omega) (by omega)
  have HPO := hid (refPfxOf s2 xs h2 h3 k (by omega))
  have hpq2 : (s2, truncL xs k, (k : Int)) = pq := by rw [← hpq, hk]
  rw [hpq2] at HPO
  have HIX := hid (addr_inf (six := s2) h2.1)
  have HLX : Hid ((addrC false zeros).length = (addrC s2 xs).length) := (addr_len (six := false) (bs := zeros) rfl).trans (addr_len h2.1).symm
  have HIQ := hid (pfx_inf (p := pq) hok.g.1)
  have HLQ : Hid ((pfxC (false, zeros, 0)).length = (pfxC pq).length) := by show _ = _; rw [pfx_len hok.g.1]; rfl
  generalize hLs : bitL s2 = L at *
  generalize hac : addrC p.1 p.2.1 = ac at *
  generalize hpn : p.2.2 = pn at *
  generalize pfxC p = cs at *
  clear hg hok hpq hpq2 h1 h2 h3 k0 k1 hk hac hpn hLs
  go_enter Tryd.func17, Tryd.ntmps17
  go_upto_region 2 with (first
    | (refine wpList_load_want rfl 24 _ rfl w.heap.size 0 rfl ac _ (BP.rangeMid 0 _ HA.out) Tryd.underlying24 rfl HIA.out ?_)
    | (go_at_call 24; (with_reducible refine (HSA.out _).mono ?_); rintro e w2 ⟨rfl, D⟩; replace BP := BP.ch D (by simp); replace BR := BR.ch D (by simp); replace CX := CX.trans D; clear D)
    | (go_at_call 8; (with_reducible refine (HVA.out _).mono ?_); rintro e w3 ⟨rfl, D⟩; replace BP := BP.ch D (by simp); replace BR := BR.ch D (by simp); replace CX := CX.trans D; clear D; have lr := BR.lt)
    | (refine wpList_storeB rfl 24 _ _ rfl w3.heap.size 24 (addrC false zeros) (addrC s2 xs) rfl rfl (Blk.new _ _ _) HIX.out HLX.out (addr_one' _ _) ?_; intro w4 BX D Z; clear Z; have D2 := ((Ch.refl [] w3).alloc _).step D (fun i hi => .inr (by simp at hi; omega)); replace BP := BP.ch D2 (by simp); replace BR := BR.ch D2 (by simp); replace CX := CX.trans D2; clear D D2))
  generalize w3.heap.size = gx at BX lr ⊢
  have e17 : w4.cell? ⟨w.heap.size, 17, none⟩ = some (.int .i64 pn) := (BP.cell 17).trans H17.out
  try simp only [Act.put]
  refine wp_region_tree [⟨0, 8, 2048⟩, ⟨0, 2, 4096⟩, ⟨2, 4096, 8192⟩, ⟨0, 8, 16384⟩, ⟨8, 16384, 32768⟩, ⟨16, 32768, 65536⟩, ⟨52, 73728, 131072⟩, ⟨65, 133120, 262144⟩, ⟨128, 262144, 1024⟩, ⟨256, 1024, 524288⟩, ⟨256, 1024, 1048576⟩, ⟨0, 0, 16⟩, ⟨3071, 524304, 0⟩, ⟨8191, 1048576, 32⟩] [(4, [0, 1, 2]), (7, []), (11, [0, 1, 2, 3, 5, 6, 8, 9, 10]), (12, [10])] (.two [0, 1, 2, 3] 4 [0, 1, 2] (.two [5, 6] 7 [] (.one [8, 9, 10] 11 [0, 1, 2, 3, 5, 6, 8, 9, 10] (.one [] 12 [10] (.last [13]))) 11 [0, 1, 2, 3, 5, 6] (.one [] 7 [] (.one [8, 9, 10] 12 [10] (.last [13])))) 11 [0, 1, 2, 3] (.one [] 4 [0, 1, 2] (.one [5, 6] 7 [] (.one [8, 9, 10] 12 [10] (.last [13]))))) (by kernel_rfl) (by kernel_rfl) ?_
  refine wpTree_two ?_
  try simp only [pick, List.map_cons, List.map_nil, List.getD_cons_zero, List.getD_cons_succ]
  repeat (first
    | (refine wpQuiet_row rfl 24 _ rfl gx 0 rfl (addrC s2 xs) _ (fun w' ⟨q, hq⟩ => hq ▸ (BX.drewN q).range) Tryd.underlying24 rfl HIX.out ?_; simp only [Act.put, List.setIfInBounds_toArray, List.set_cons_succ, List.set_cons_zero])
    | go_big_quiet_step (first
      | (go_at_call 9; exact quiet_eq (HMD.out _))))
  refine wpQuiet_nil ?_
  refine ⟨?_, ?_⟩
  · skip
    intro n0
    try simp only [pick, List.map_cons, List.map_nil, List.getD_cons_zero, List.getD_cons_succ]
    go_wp2_with (go_at_call 10; (with_reducible refine (HBL.out _).mono ?_); rintro e b0 ⟨rfl, Dn0⟩)
    have En0 := ((Ch.refl [] w4).drewN n0).trans Dn0
    replace BP := BP.ch En0 (by simp)
    replace BX := BX.ch En0 (by simp)
    replace BR := BR.ch En0 (by simp)
    replace CX := CX.trans En0
    clear En0 e17
    have e17 : b0.cell? ⟨w.heap.size, 17, none⟩ = some (.int .i64 pn) := (BP.cell 17).trans H17.out
    refine stagePost_mk ?_ ?_
    · intro o ho
      simp only [pick, List.map_cons, List.map_nil, List.getD_cons_zero, List.getD_cons_succ, List.mem_cons, List.not_mem_nil, or_false] at ho
      rcases ho with rfl | rfl | rfl
      all_goals
        refine float_any ?_
        repeat (first
          | (refine wpQuiet_row rfl 24 _ rfl gx 0 rfl (addrC s2 xs) _ (fun w' ⟨q, hq⟩ => hq ▸ (BX.drewN q).range) Tryd.underlying24 rfl HIX.out ?_; simp only [Act.put, List.setIfInBounds_toArray, List.set_cons_succ, List.set_cons_zero])
          | go_big_quiet_step (first
            | (go_at_call 9; exact quiet_eq (HMD.out _))))
        refine wpQuiet_nil ?_
        rfl
    refine wpTree_two ?_
    try simp only [pick, List.map_cons, List.map_nil, List.getD_cons_zero, List.getD_cons_succ]
    repeat (first
      | (refine wpQuiet_row rfl 24 _ rfl gx 0 rfl (addrC s2 xs) _ (fun w' ⟨q, hq⟩ => hq ▸ (BX.drewN q).range) Tryd.underlying24 rfl HIX.out ?_; simp only [Act.put, List.setIfInBounds_toArray, List.set_cons_succ, List.set_cons_zero])
      | go_big_quiet_step (first
        | (go_at_call 9; exact quiet_eq (HMD.out _))))
    refine wpQuiet_nil ?_
    refine ⟨?_, ?_⟩
    · skip
      intro n1
      try simp only [pick, List.map_cons, List.map_nil, List.getD_cons_zero, List.getD_cons_succ]
      go_wp2_with (go_at_call 11; (with_reducible refine (HPO.out _).mono ?_); rintro e p1 ⟨rfl, Dn1⟩)
      have En1 := ((Ch.refl [] b0).drewN n1).trans Dn1
      replace BP := BP.ch En1 (by simp)
      replace BX := BX.ch En1 (by simp)
      replace BR := BR.ch En1 (by simp)
      replace CX := CX.trans En1
      clear En1 e17
      have e17 : p1.cell? ⟨w.heap.size, 17, none⟩ = some (.int .i64 pn) := (BP.cell 17).trans H17.out
      refine stagePost_mk (by simp [pick]) ?_
      refine wpTree_one ?_
      try simp only [pick, List.map_cons, List.map_nil, List.getD_cons_zero, List.getD_cons_succ]
      repeat (first
        | (refine wpQuiet_row rfl 24 _ rfl gx 0 rfl (addrC s2 xs) _ (fun w' ⟨q, hq⟩ => hq ▸ (BX.drewN q).range) Tryd.underlying24 rfl HIX.out ?_; simp only [Act.put, List.setIfInBounds_toArray, List.set_cons_succ, List.set_cons_zero])
        | go_big_quiet_step (first
          | (go_at_call 9; exact quiet_eq (HMD.out _))))
      refine wpQuiet_nil ?_
      intro n2
      try simp only [pick, List.map_cons, List.map_nil, List.getD_cons_zero, List.getD_cons_succ]
      go_wp2_with fail
      have BQ : Blk ((p1.drewN n2).alloc (.cells #[.bool false, .int .u8 0, .int .u8 0, .int .u8 0, .int .u8 0, .int .u8 0, .int .u8 0, .int .u8 0, .int .u8 0, .int .u8 0, .int .u8 0, .int .u8 0, .int .u8 0, .int .u8 0, .int .u8 0, .int .u8 0, .int .u8 0, .int .i64 0] 33)) p1.heap.size 33 (pfxC (false, zeros, 0)) := Blk.newAt _ _ _ rfl
      have Dn2 : Ch [] (p1.drewN n2) ((p1.drewN n2).alloc (.cells #[.bool false, .int .u8 0, .int .u8 0, .int .u8 0, .int .u8 0, .int .u8 0, .int .u8 0, .int .u8 0, .int .u8 0, .int .u8 0, .int .u8 0, .int .u8 0, .int .u8 0, .int .u8 0, .int .u8 0, .int .u8 0, .int .u8 0, .int .i64 0] 33)) := (Ch.refl _ _).alloc _
      have gq0 := BX.lt
      have En2 := ((Ch.refl [] p1).drewN n2).trans Dn2
      replace BP := BP.ch En2 (by simp)
      replace BX := BX.ch En2 (by simp)
      replace BR := BR.ch En2 (by simp)
      replace CX := CX.trans En2
      clear En2 e17
      have e17 : ((p1.drewN n2).alloc (.cells #[.bool false, .int .u8 0, .int .u8 0, .int .u8 0, .int .u8 0, .int .u8 0, .int .u8 0, .int .u8 0, .int .u8 0, .int .u8 0, .int .u8 0, .int .u8 0, .int .u8 0, .int .u8 0, .int .u8 0, .int .u8 0, .int .u8 0, .int .i64 0] 33)).cell? ⟨w.heap.size, 17, none⟩ = some (.int .i64 pn) := (BP.cell 17).trans H17.out
      generalize p1.heap.size = gq at BQ gq0 ⊢
      generalize ((p1.drewN n2).alloc (.cells #[.bool false, .int .u8 0, .int .u8 0, .int .u8 0, .int .u8 0, .int .u8 0, .int .u8 0, .int .u8 0, .int .u8 0, .int .u8 0, .int .u8 0, .int .u8 0, .int .u8 0, .int .u8 0, .int .u8 0, .int .u8 0, .int .u8 0, .int .i64 0] 33)) = a2 at BP BX BR BQ CX e17 Dn2 ⊢
      clear Dn2
      refine stagePost_mk ?_ ?_
      · intro o ho
        simp only [pick, List.map_cons, List.map_nil, List.getD_cons_zero, List.getD_cons_succ, List.mem_cons, List.not_mem_nil, or_false] at ho
        rcases ho with rfl | rfl | rfl | rfl | rfl | rfl | rfl | rfl | rfl
        all_goals
          refine float_any ?_
          repeat (first
            | (refine wpQuiet_row rfl 24 _ rfl gx 0 rfl (addrC s2 xs) _ (fun w' ⟨q, hq⟩ => hq ▸ (BX.drewN q).range) Tryd.underlying24 rfl HIX.out ?_; simp only [Act.put, List.setIfInBounds_toArray, List.set_cons_succ, List.set_cons_zero])
            | go_big_quiet_step (first
              | (go_at_call 9; exact quiet_eq (HMD.out _))))
          refine wpQuiet_nil ?_
          rfl
      refine wpTree_one ?_
      try simp only [pick, List.map_nil]
      repeat (first
        | (refine wpQuiet_row rfl 24 _ rfl gx 0 rfl (addrC s2 xs) _ (fun w' ⟨q, hq⟩ => hq ▸ (BX.drewN q).range) Tryd.underlying24 rfl HIX.out ?_; simp only [Act.put, List.setIfInBounds_toArray, List.set_cons_succ, List.set_cons_zero])
        | go_big_quiet_step (first
          | (go_at_call 9; exact quiet_eq (HMD.out _))))
      refine wpQuiet_nil ?_
      intro n3
      try simp only [pick, List.map_cons, List.map_nil, List.getD_cons_zero, List.getD_cons_succ]
      have BQ' := BQ.drewN n3
      go_wp2_with (refine wpList_storeB rfl 33 _ _ rfl gq 33 (pfxC (false, zeros, 0)) (pfxC pq) rfl rfl BQ' HIQ.out HLQ.out (pfx_one _) ?_; intro s3 BS Dn3 Z; clear Z)
      have En3 := ((Ch.refl [gq] a2).drewN n3).trans Dn3
      replace BP := BP.ch En3 (by simp; omega)
      replace BX := BX.ch En3 (by simp; omega)
      replace BR := BR.ch En3 (by simp; omega)
      replace CX := CX.step En3 (fun i hi => .inr (by simp at hi; omega))
      clear e17 BQ BQ'
      have e17 : s3.cell? ⟨w.heap.size, 17, none⟩ = some (.int .i64 pn) := (BP.cell 17).trans H17.out
      refine stagePost_mk ?_ ?_
      · intro o ho
        simp only [pick, List.map_cons, List.map_nil, List.getD_cons_zero, List.getD_cons_succ, List.mem_cons, List.not_mem_nil, or_false] at ho
        subst ho
        all_goals
          refine float_any ?_
          repeat (first
            | (refine wpQuiet_row rfl 24 _ rfl gx 0 rfl (addrC s2 xs) _ (fun w' ⟨q, hq⟩ => hq ▸ (BX.drewN q).range) Tryd.underlying24 rfl HIX.out ?_; simp only [Act.put, List.setIfInBounds_toArray, List.set_cons_succ, List.set_cons_zero])
            | go_big_quiet_step (first
              | (go_at_call 9; exact quiet_eq (HMD.out _))))
          refine wpQuiet_nil ?_
          rfl
      refine wpTree_last ?_
      try simp only [pick, List.map_cons, List.map_nil, List.getD_cons_zero, List.getD_cons_succ]
      repeat (first
        | (refine wpQuiet_row rfl 24 _ rfl gx 0 rfl (addrC s2 xs) _ (fun w' ⟨q, hq⟩ => hq ▸ (BX.drewN q).range) Tryd.underlying24 rfl HIX.out ?_; simp only [Act.put, List.setIfInBounds_toArray, List.set_cons_succ, List.set_cons_zero])
        | go_big_quiet_step (first
          | (go_at_call 9; exact quiet_eq (HMD.out _))))
      refine wpQuiet_nil ?_
      intro n4
      have BQ' := BS.drewN n4
      have BR' := BR.drewN n4
      have CX' := CX.drewN n4
      go_wp2_with (first
        | (refine wpList_load_want rfl 33 _ rfl gq 0 rfl (pfxC pq) _ BQ'.range Tryd.underlying33 rfl HIQ.out ?_)
        | (refine wpList_storeB rfl 33 _ _ rfl (w.heap.size + 1) 33 (pfxC (false, zeros, 0)) (pfxC pq) rfl rfl BR' HIQ.out HLQ.out (pfx_one _) ?_; intro wz BZ DZ ZZ))
      try simp only [Exit.inBlock, Exit.then]
      refine bodyPost_ret (results_row1 rfl _ _ rfl BZ Tryd.underlying33 rfl HIQ.out) rfl ?_
      exact ⟨rfl, CX'.step DZ (fun i hi => .inr (by simp at hi; omega))⟩
    · skip
      intro n1
      try simp only [pick, List.map_cons, List.map_nil, List.getD_cons_zero, List.getD_cons_succ]
      go_wp2_with fail
      have BQ : Blk ((b0.drewN n1).alloc (.cells #[.bool false, .int .u8 0, .int .u8 0, .int .u8 0, .int .u8 0, .int .u8 0, .int .u8 0, .int .u8 0, .int .u8 0, .int .u8 0, .int .u8 0, .int .u8 0, .int .u8 0, .int .u8 0, .int .u8 0, .int .u8 0, .int .u8 0, .int .i64 0] 33)) b0.heap.size 33 (pfxC (false, zeros, 0)) := Blk.newAt _ _ _ rfl
      have Dn1 : Ch [] (b0.drewN n1) ((b0.drewN n1).alloc (.cells #[.bool false, .int .u8 0, .int .u8 0, .int .u8 0, .int .u8 0, .int .u8 0, .int .u8 0, .int .u8 0, .int .u8 0, .int .u8 0, .int .u8 0, .int .u8 0, .int .u8 0, .int .u8 0, .int .u8 0, .int .u8 0, .int .u8 0, .int .i64 0] 33)) := (Ch.refl _ _).alloc _
      have gq0 := BX.lt
      have En1 := ((Ch.refl [] b0).drewN n1).trans Dn1
      replace BP := BP.ch En1 (by simp)
      replace BX := BX.ch En1 (by simp)
      replace BR := BR.ch En1 (by simp)
      replace CX := CX.trans En1
      clear En1 e17
      have e17 : ((b0.drewN n1).alloc (.cells #[.bool false, .int .u8 0, .int .u8 0, .int .u8 0, .int .u8 0, .int .u8 0, .int .u8 0, .int .u8 0, .int .u8 0, .int .u8 0, .int .u8 0, .int .u8 0, .int .u8 0, .int .u8 0, .int .u8 0, .int .u8 0, .int .u8 0, .int .i64 0] 33)).cell? ⟨w.heap.size, 17, none⟩ = some (.int .i64 pn) := (BP.cell 17).trans H17.out
      generalize b0.heap.size = gq at BQ gq0 ⊢
      generalize ((b0.drewN n1).alloc (.cells #[.bool false, .int .u8 0, .int .u8 0, .int .u8 0, .int .u8 0, .int .u8 0, .int .u8 0, .int .u8 0, .int .u8 0, .int .u8 0, .int .u8 0, .int .u8 0, .int .u8 0, .int .u8 0, .int .u8 0, .int .u8 0, .int .u8 0, .int .i64 0] 33)) = a1 at BP BX BR BQ CX e17 Dn1 ⊢
      clear Dn1
      refine stagePost_mk ?_ ?_
      · intro o ho
        simp only [pick, List.map_cons, List.map_nil, List.getD_cons_zero, List.getD_cons_succ, List.mem_cons, List.not_mem_nil, or_false] at ho
        rcases ho with rfl | rfl | rfl | rfl | rfl | rfl
        all_goals
          refine float_any ?_
          repeat (first
            | (refine wpQuiet_row rfl 24 _ rfl gx 0 rfl (addrC s2 xs) _ (fun w' ⟨q, hq⟩ => hq ▸ (BX.drewN q).range) Tryd.underlying24 rfl HIX.out ?_; simp only [Act.put, List.setIfInBounds_toArray, List.set_cons_succ, List.set_cons_zero])
            | go_big_quiet_step (first
              | (go_at_call 9; exact quiet_eq (HMD.out _))))
          refine wpQuiet_nil ?_
          rfl
      refine wpTree_one ?_
      try simp only [pick, List.map_nil]
      repeat (first
        | (refine wpQuiet_row rfl 24 _ rfl gx 0 rfl (addrC s2 xs) _ (fun w' ⟨q, hq⟩ => hq ▸ (BX.drewN q).range) Tryd.underlying24 rfl HIX.out ?_; simp only [Act.put, List.setIfInBounds_toArray, List.set_cons_succ, List.set_cons_zero])
        | go_big_quiet_step (first
          | (go_at_call 9; exact quiet_eq (HMD.out _))))
      refine wpQuiet_nil ?_
      intro n5
      try simp only [pick, List.map_cons, List.map_nil, List.getD_cons_zero, List.getD_cons_succ]
      go_wp2_with (go_at_call 11; (with_reducible refine (HPO.out _).mono ?_); rintro e p5 ⟨rfl, Dn5⟩)
      have En5 := ((Ch.refl [] a1).drewN n5).trans Dn5
      replace BP := BP.ch En5 (by simp)
      replace BX := BX.ch En5 (by simp)
      replace BR := BR.ch En5 (by simp)
      replace BQ := BQ.ch En5 (by simp)
      replace CX := CX.trans En5
      clear En5 e17
      have e17 : p5.cell? ⟨w.heap.size, 17, none⟩ = some (.int .i64 pn) := (BP.cell 17).trans H17.out
      refine stagePost_mk (by simp [pick]) ?_
      refine wpTree_one ?_
      try simp only [pick, List.map_cons, List.map_nil, List.getD_cons_zero, List.getD_cons_succ]
      repeat (first
        | (refine wpQuiet_row rfl 24 _ rfl gx 0 rfl (addrC s2 xs) _ (fun w' ⟨q, hq⟩ => hq ▸ (BX.drewN q).range) Tryd.underlying24 rfl HIX.out ?_; simp only [Act.put, List.setIfInBounds_toArray, List.set_cons_succ, List.set_cons_zero])
        | go_big_quiet_step (first
          | (go_at_call 9; exact quiet_eq (HMD.out _))))
      refine wpQuiet_nil ?_
      intro n6
      try simp only [pick, List.map_cons, List.map_nil, List.getD_cons_zero, List.getD_cons_succ]
      have BQ' := BQ.drewN n6
      go_wp2_with (refine wpList_storeB rfl 33 _ _ rfl gq 33 (pfxC (false, zeros, 0)) (pfxC pq) rfl rfl BQ' HIQ.out HLQ.out (pfx_one _) ?_; intro s6 BS Dn6 Z; clear Z)
      have En6 := ((Ch.refl [gq] p5).drewN n6).trans Dn6
      replace BP := BP.ch En6 (by simp; omega)
      replace BX := BX.ch En6 (by simp; omega)
      replace BR := BR.ch En6 (by simp; omega)
      replace CX := CX.step En6 (fun i hi => .inr (by simp at hi; omega))
      clear e17 BQ BQ'
      have e17 : s6.cell? ⟨w.heap.size, 17, none⟩ = some (.int .i64 pn) := (BP.cell 17).trans H17.out
      refine stagePost_mk ?_ ?_
      · intro o ho
        simp only [pick, List.map_cons, List.map_nil, List.getD_cons_zero, List.getD_cons_succ, List.mem_cons, List.not_mem_nil, or_false] at ho
        subst ho
        all_goals
          refine float_any ?_
          repeat (first
            | (refine wpQuiet_row rfl 24 _ rfl gx 0 rfl (addrC s2 xs) _ (fun w' ⟨q, hq⟩ => hq ▸ (BX.drewN q).range) Tryd.underlying24 rfl HIX.out ?_; simp only [Act.put, List.setIfInBounds_toArray, List.set_cons_succ, List.set_cons_zero])
            | go_big_quiet_step (first
              | (go_at_call 9; exact quiet_eq (HMD.out _))))
          refine wpQuiet_nil ?_
          rfl
      refine wpTree_last ?_
      try simp only [pick, List.map_cons, List.map_nil, List.getD_cons_zero, List.getD_cons_succ]
      repeat (first
        | (refine wpQuiet_row rfl 24 _ rfl gx 0 rfl (addrC s2 xs) _ (fun w' ⟨q, hq⟩ => hq ▸ (BX.drewN q).range) Tryd.underlying24 rfl HIX.out ?_; simp only [Act.put, List.setIfInBounds_toArray, List.set_cons_succ, List.set_cons_zero])
        | go_big_quiet_step (first
          | (go_at_call 9; exact quiet_eq (HMD.out _))))
      refine wpQuiet_nil ?_
      intro n7
      have BQ' := BS.drewN n7
      have BR' := BR.drewN n7
      have CX' := CX.drewN n7
      go_wp2_with (first
        | (refine wpList_load_want rfl 33 _ rfl gq 0 rfl (pfxC pq) _ BQ'.range Tryd.underlying33 rfl HIQ.out ?_)
        | (refine wpList_storeB rfl 33 _ _ rfl (w.heap.size + 1) 33 (pfxC (false, zeros, 0)) (pfxC pq) rfl rfl BR' HIQ.out HLQ.out (pfx_one _) ?_; intro wz BZ DZ ZZ))
      try simp only [Exit.inBlock, Exit.then]
      refine bodyPost_ret (results_row1 rfl _ _ rfl BZ Tryd.underlying33 rfl HIQ.out) rfl ?_
      exact ⟨rfl, CX'.step DZ (fun i hi => .inr (by simp at hi; omega))⟩
  · skip
    intro n0
    try simp only [pick, List.map_cons, List.map_nil, List.getD_cons_zero, List.getD_cons_succ]
    go_wp2_with fail
    have BQ : Blk ((w4.drewN n0).alloc (.cells #[.bool false, .int .u8 0, .int .u8 0, .int .u8 0, .int .u8 0, .int .u8 0, .int .u8 0, .int .u8 0, .int .u8 0, .int .u8 0, .int .u8 0, .int .u8 0, .int .u8 0, .int .u8 0, .int .u8 0, .int .u8 0, .int .u8 0, .int .i64 0] 33)) w4.heap.size 33 (pfxC (false, zeros, 0)) := Blk.newAt _ _ _ rfl
    have Dn0 : Ch [] (w4.drewN n0) ((w4.drewN n0).alloc (.cells #[.bool false, .int .u8 0, .int .u8 0, .int .u8 0, .int .u8 0, .int .u8 0, .int .u8 0, .int .u8 0, .int .u8 0, .int .u8 0, .int .u8 0, .int .u8 0, .int .u8 0, .int .u8 0, .int .u8 0, .int .u8 0, .int .u8 0, .int .i64 0] 33)) := (Ch.refl _ _).alloc _
    have gq0 := BX.lt
    have En0 := ((Ch.refl [] w4).drewN n0).trans Dn0
    replace BP := BP.ch En0 (by simp)
    replace BX := BX.ch En0 (by simp)
    replace BR := BR.ch En0 (by simp)
    replace CX := CX.trans En0
    clear En0 e17
    have e17 : ((w4.drewN n0).alloc (.cells #[.bool false, .int .u8 0, .int .u8 0, .int .u8 0, .int .u8 0, .int .u8 0, .int .u8 0, .int .u8 0, .int .u8 0, .int .u8 0, .int .u8 0, .int .u8 0, .int .u8 0, .int .u8 0, .int .u8 0, .int .u8 0, .int .u8 0, .int .i64 0] 33)).cell? ⟨w.heap.size, 17, none⟩ = some (.int .i64 pn) := (BP.cell 17).trans H17.out
    generalize w4.heap.size = gq at BQ gq0 ⊢
    generalize ((w4.drewN n0).alloc (.cells #[.bool false, .int .u8 0, .int .u8 0, .int .u8 0, .int .u8 0, .int .u8 0, .int .u8 0, .int .u8 0, .int .u8 0, .int .u8 0, .int .u8 0, .int .u8 0, .int .u8 0, .int .u8 0, .int .u8 0, .int .u8 0, .int .u8 0, .int .i64 0] 33)) = a0 at BP BX BR BQ CX e17 Dn0 ⊢
    clear Dn0
    refine stagePost_mk ?_ ?_
    · intro o ho
      simp only [pick, List.map_cons, List.map_nil, List.getD_cons_zero, List.getD_cons_succ, List.mem_cons, List.not_mem_nil, or_false] at ho
      rcases ho with rfl | rfl | rfl | rfl
      all_goals
        refine float_any ?_
        repeat (first
          | (refine wpQuiet_row rfl 24 _ rfl gx 0 rfl (addrC s2 xs) _ (fun w' ⟨q, hq⟩ => hq ▸ (BX.drewN q).range) Tryd.underlying24 rfl HIX.out ?_; simp only [Act.put, List.setIfInBounds_toArray, List.set_cons_succ, List.set_cons_zero])
          | go_big_quiet_step (first
            | (go_at_call 9; exact quiet_eq (HMD.out _))))
        refine wpQuiet_nil ?_
        rfl
    refine wpTree_one ?_
    try simp only [pick, List.map_nil]
    repeat (first
      | (refine wpQuiet_row rfl 24 _ rfl gx 0 rfl (addrC s2 xs) _ (fun w' ⟨q, hq⟩ => hq ▸ (BX.drewN q).range) Tryd.underlying24 rfl HIX.out ?_; simp only [Act.put, List.setIfInBounds_toArray, List.set_cons_succ, List.set_cons_zero])
      | go_big_quiet_step (first
        | (go_at_call 9; exact quiet_eq (HMD.out _))))
    refine wpQuiet_nil ?_
    intro n8
    try simp only [pick, List.map_cons, List.map_nil, List.getD_cons_zero, List.getD_cons_succ]
    go_wp2_with (go_at_call 10; (with_reducible refine (HBL.out _).mono ?_); rintro e b8 ⟨rfl, Dn8⟩)
    have En8 := ((Ch.refl [] a0).drewN n8).trans Dn8
    replace BP := BP.ch En8 (by simp)
    replace BX := BX.ch En8 (by simp)
    replace BR := BR.ch En8 (by simp)
    replace BQ := BQ.ch En8 (by simp)
    replace CX := CX.trans En8
    clear En8 e17
    have e17 : b8.cell? ⟨w.heap.size, 17, none⟩ = some (.int .i64 pn) := (BP.cell 17).trans H17.out
    refine stagePost_mk ?_ ?_
    · intro o ho
      simp only [pick, List.map_cons, List.map_nil, List.getD_cons_zero, List.getD_cons_succ, List.mem_cons, List.not_mem_nil, or_false] at ho
      rcases ho with rfl | rfl | rfl
      all_goals
        refine float_any ?_
        repeat (first
          | (refine wpQuiet_row rfl 24 _ rfl gx 0 rfl (addrC s2 xs) _ (fun w' ⟨q, hq⟩ => hq ▸ (BX.drewN q).range) Tryd.underlying24 rfl HIX.out ?_; simp only [Act.put, List.setIfInBounds_toArray, List.set_cons_succ, List.set_cons_zero])
          | go_big_quiet_step (first
            | (go_at_call 9; exact quiet_eq (HMD.out _))))
        refine wpQuiet_nil ?_
        rfl
    refine wpTree_one ?_
    try simp only [pick, List.map_cons, List.map_nil, List.getD_cons_zero, List.getD_cons_succ]
    repeat (first
      | (refine wpQuiet_row rfl 24 _ rfl gx 0 rfl (addrC s2 xs) _ (fun w' ⟨q, hq⟩ => hq ▸ (BX.drewN q).range) Tryd.underlying24 rfl HIX.out ?_; simp only [Act.put, List.setIfInBounds_toArray, List.set_cons_succ, List.set_cons_zero])
      | go_big_quiet_step (first
        | (go_at_call 9; exact quiet_eq (HMD.out _))))
    refine wpQuiet_nil ?_
    intro n9
    try simp only [pick, List.map_cons, List.map_nil, List.getD_cons_zero, List.getD_cons_succ]
    go_wp2_with (go_at_call 11; (with_reducible refine (HPO.out _).mono ?_); rintro e p9 ⟨rfl, Dn9⟩)
    have En9 := ((Ch.refl [] b8).drewN n9).trans Dn9
    replace BP := BP.ch En9 (by simp)
    replace BX := BX.ch En9 (by simp)
    replace BR := BR.ch En9 (by simp)
    replace BQ := BQ.ch En9 (by simp)
    replace CX := CX.trans En9
    clear En9 e17
    have e17 : p9.cell? ⟨w.heap.size, 17, none⟩ = some (.int .i64 pn) := (BP.cell 17).trans H17.out
    refine stagePost_mk (by simp [pick]) ?_
    refine wpTree_one ?_
    try simp only [pick, List.map_cons, List.map_nil, List.getD_cons_zero, List.getD_cons_succ]
    repeat (first
      | (refine wpQuiet_row rfl 24 _ rfl gx 0 rfl (addrC s2 xs) _ (fun w' ⟨q, hq⟩ => hq ▸ (BX.drewN q).range) Tryd.underlying24 rfl HIX.out ?_; simp only [Act.put, List.setIfInBounds_toArray, List.set_cons_succ, List.set_cons_zero])
      | go_big_quiet_step (first
        | (go_at_call 9; exact quiet_eq (HMD.out _))))
    refine wpQuiet_nil ?_
    intro n10
    try simp only [pick, List.map_cons, List.map_nil, List.getD_cons_zero, List.getD_cons_succ]
    have BQ' := BQ.drewN n10
    go_wp2_with (refine wpList_storeB rfl 33 _ _ rfl gq 33 (pfxC (false, zeros, 0)) (pfxC pq) rfl rfl BQ' HIQ.out HLQ.out (pfx_one _) ?_; intro s10 BS Dn10 Z; clear Z)
    have En10 := ((Ch.refl [gq] p9).drewN n10).trans Dn10
    replace BP := BP.ch En10 (by simp; omega)
    replace BX := BX.ch En10 (by simp; omega)
    replace BR := BR.ch En10 (by simp; omega)
    replace CX := CX.step En10 (fun i hi => .inr (by simp at hi; omega))
    clear e17 BQ BQ'
    have e17 : s10.cell? ⟨w.heap.size, 17, none⟩ = some (.int .i64 pn) := (BP.cell 17).trans H17.out
    refine stagePost_mk ?_ ?_
    · intro o ho
      simp only [pick, List.map_cons, List.map_nil, List.getD_cons_zero, List.getD_cons_succ, List.mem_cons, List.not_mem_nil, or_false] at ho
      subst ho
      all_goals
        refine float_any ?_
        repeat (first
          | (refine wpQuiet_row rfl 24 _ rfl gx 0 rfl (addrC s2 xs) _ (fun w' ⟨q, hq⟩ => hq ▸ (BX.drewN q).range) Tryd.underlying24 rfl HIX.out ?_; simp only [Act.put, List.setIfInBounds_toArray, List.set_cons_succ, List.set_cons_zero])
          | go_big_quiet_step (first
            | (go_at_call 9; exact quiet_eq (HMD.out _))))
        refine wpQuiet_nil ?_
        rfl
    refine wpTree_last ?_
    try simp only [pick, List.map_cons, List.map_nil, List.getD_cons_zero, List.getD_cons_succ]
    repeat (first
      | (refine wpQuiet_row rfl 24 _ rfl gx 0 rfl (addrC s2 xs) _ (fun w' ⟨q, hq⟩ => hq ▸ (BX.drewN q).range) Tryd.underlying24 rfl HIX.out ?_; simp only [Act.put, List.setIfInBounds_toArray, List.set_cons_succ, List.set_cons_zero])
      | go_big_quiet_step (first
        | (go_at_call 9; exact quiet_eq (HMD.out _))))
    refine wpQuiet_nil ?_
    intro n11
    have BQ' := BS.drewN n11
    have BR' := BR.drewN n11
    have CX' := CX.drewN n11
    go_wp2_with (first
      | (refine wpList_load_want rfl 33 _ rfl gq 0 rfl (pfxC pq) _ BQ'.range Tryd.underlying33 rfl HIQ.out ?_)
      | (refine wpList_storeB rfl 33 _ _ rfl (w.heap.size + 1) 33 (pfxC (false, zeros, 0)) (pfxC pq) rfl rfl BR' HIQ.out HLQ.out (pfx_one _) ?_; intro wz BZ DZ ZZ))
    try simp only [Exit.inBlock, Exit.then]
    refine bodyPost_ret (results_row1 rfl _ _ rfl BZ Tryd.underlying33 rfl HIQ.out) rfl ?_
    exact ⟨rfl, CX'.step DZ (fun i hi => .inr (by simp at hi; omega))⟩
end Go.Proofs.YtjpiekljjhgmoaaDoor
