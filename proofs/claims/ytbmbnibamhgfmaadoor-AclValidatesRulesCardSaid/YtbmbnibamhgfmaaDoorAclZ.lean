/- ginnelgen.Rule's answer as a function of the rule (printed by mk_aclz.py from XAclV). -/
import Derived.Test.YtbmbnibamhgfmaaDoorMI
import Derived.Test.YtbmbnibamhgfmaaDoorMH
namespace Go.Proofs.YtbmbnibamhgfmaaDoor
open Go.RowKit

def loHi (lo hi : Int) : Int × Int := if (modI lo 3 == 0) = true then (if modI lo 100 > 60 + modI hi 500 then (60 + modI hi 500, modI lo 100) else (modI lo 100, 60 + modI hi 500)) else (0, 65535)
def genRq (al : Bool) (sx : ByteArray) (lo hi : Int) (pq : Pfx) : Rl := if sx.size % 2 = 1 then (al, hostS ((sx.size : Int) + byt sx 0), zeroP, (loHi lo hi).1, (loHi lo hi).2) else (al, ⟨#[]⟩, pq, (loHi lo hi).1, (loHi lo hi).2)
def genR (r : Rl) : Rl := genRq r.1 r.2.1 r.2.2.2.1 r.2.2.2.2 (genP r.2.2.1)
theorem loHi_ok (lo hi : Int) : 0 ≤ (loHi lo hi).1 ∧ (loHi lo hi).1 ≤ (loHi lo hi).2 ∧ (loHi lo hi).2 ≤ 65535 := by
  obtain ⟨a0, a1⟩ := modI_rng lo 100 (by omega)
  obtain ⟨b0, b1⟩ := modI_rng hi 500 (by omega)
  unfold loHi
  split
  · split
    · exact ⟨by show 0 ≤ 60 + modI hi 500; omega, by show 60 + modI hi 500 ≤ modI lo 100; omega, by show modI lo 100 ≤ 65535; omega⟩
    · exact ⟨by show 0 ≤ modI lo 100; omega, by show modI lo 100 ≤ 60 + modI hi 500; omega, by show 60 + modI hi 500 ≤ 65535; omega⟩
  · exact ⟨by decide, by decide, by decide⟩
theorem genR_ok {r : Rl} (hg : GoodR r) : OkR (genR r) := by
  obtain ⟨l0, l1, l2⟩ := loHi_ok r.2.2.2.1 r.2.2.2.2
  have HHS := hostS_ok ((r.2.1.size : Int) + byt r.2.1 0)
  have HGO := genP_ok (p := r.2.2.1) hg.1
  unfold genR genRq
  generalize (loHi r.2.2.2.1 r.2.2.2.2).1 = lo' at l0 l1
  generalize (loHi r.2.2.2.1 r.2.2.2.2).2 = hi' at l1 l2
  generalize hostS ((r.2.1.size : Int) + byt r.2.1 0) = hs at HHS
  generalize genP r.2.2.1 = pq at HGO
  split
  · refine ⟨?_, ⟨rfl, show ∀ x ∈ zeros, 0 ≤ x ∧ x ≤ 255 by decide⟩, by have := HHS.2.2; show hs.size ≤ _; omega⟩
    unfold validR
    have h4 := HHS.2.1
    have hne : ¬ hs.size = 0 := by omega
    simp only [hne, if_false]
    rw [HHS.1]
    simp [l0, l1, l2]
  · refine ⟨?_, HGO.g, by show (0 : Nat) ≤ _; omega⟩
    unfold validR
    simp only
    rw [if_pos (show (⟨#[]⟩ : ByteArray).size = 0 from rfl), HGO.v]
    simp [l0, l1, l2]
set_option maxRecDepth 100000 in
set_option maxHeartbeats 8000000 in
theorem genRuleD (r : Rl) (hg : GoodR r) (w : World) : Calls Tryd.prog 26 #[.agg (rulC r).toArray] w fun e w' => e = .returned (.agg (rulC (genR r)).toArray) ∧ Ch [] w w' := by
  obtain ⟨Q, hQ⟩ : ∃ Q, genR r = Q := ⟨_, rfl⟩
  rw [hQ]
  unfold genR at hQ
  have HQ := hid hQ
  clear hQ
  obtain ⟨s, hs⟩ : ∃ s, w.heap.size = s := ⟨_, rfl⟩
  have HS := hid hs
  have HSX : Hid ((rulC r)[1]? = some (.string r.2.1)) := rfl
  have HAL : Hid ((rulC r)[0]? = some (.bool r.1)) := rfl
  have HLO := hid (rul_lo (r := r) hg.1.1)
  have HHI := hid (rul_hi (r := r) hg.1.1)
  have HPC : Hid (∀ j v, (pfxC r.2.2.1)[j]? = some v → (rulC r)[2 + j]? = some v) := fun j v hj => rul_pfx hj
  have HIPC := hid (pfx_inf (p := r.2.2.1) hg.1.1)
  have HGP := hid (genPfx r.2.2.1 hg.1)
  have HGO := hid (genP_ok (p := r.2.2.1) hg.1)
  have hsz := hg.2
  generalize genP r.2.2.1 = pq at HGP HGO HQ
  generalize pfxC r.2.2.1 = pc at HPC HIPC HGP
  generalize r.2.2.2.1 = lo at HLO HQ
  generalize r.2.2.2.2 = hi at HHI HQ
  generalize r.2.1 = sx at HSX hsz HQ
  generalize r.1 = al at HAL HQ
  generalize rulC r = rc at HSX HAL HLO HHI HPC ⊢
  clear hg hs
  go_enter Tryd.func26, Tryd.ntmps26
  go_upto_region 1 with fail
  have B0 : Blk ((w.alloc (.cells rc.toArray 61)).alloc (.cells #[.bool false, .string ⟨#[]⟩, .bool false, .int .u8 0, .int .u8 0, .int .u8 0, .int .u8 0, .int .u8 0, .int .u8 0, .int .u8 0, .int .u8 0, .int .u8 0, .int .u8 0, .int .u8 0, .int .u8 0, .int .u8 0, .int .u8 0, .int .u8 0, .int .u8 0, .int .i64 0, .int .i64 0, .int .i64 0] 61)) w.heap.size 61 rc := (Blk.new w _ _).alloc _
  have BO : Blk ((w.alloc (.cells rc.toArray 61)).alloc (.cells #[.bool false, .string ⟨#[]⟩, .bool false, .int .u8 0, .int .u8 0, .int .u8 0, .int .u8 0, .int .u8 0, .int .u8 0, .int .u8 0, .int .u8 0, .int .u8 0, .int .u8 0, .int .u8 0, .int .u8 0, .int .u8 0, .int .u8 0, .int .u8 0, .int .u8 0, .int .i64 0, .int .i64 0, .int .i64 0] 61)) (w.heap.size + 1) 61 (rulC dR) := Blk.newAt _ _ (rulC dR) (by simp)
  have C0 : Ch [] w ((w.alloc (.cells rc.toArray 61)).alloc (.cells #[.bool false, .string ⟨#[]⟩, .bool false, .int .u8 0, .int .u8 0, .int .u8 0, .int .u8 0, .int .u8 0, .int .u8 0, .int .u8 0, .int .u8 0, .int .u8 0, .int .u8 0, .int .u8 0, .int .u8 0, .int .u8 0, .int .u8 0, .int .u8 0, .int .u8 0, .int .i64 0, .int .i64 0, .int .i64 0] 61)) := ((Ch.refl _ _).alloc _).alloc _
  have hs2 : w.heap.size + 2 ≤ ((w.alloc (.cells rc.toArray 61)).alloc (.cells #[.bool false, .string ⟨#[]⟩, .bool false, .int .u8 0, .int .u8 0, .int .u8 0, .int .u8 0, .int .u8 0, .int .u8 0, .int .u8 0, .int .u8 0, .int .u8 0, .int .u8 0, .int .u8 0, .int .u8 0, .int .u8 0, .int .u8 0, .int .u8 0, .int .u8 0, .int .i64 0, .int .i64 0, .int .i64 0] 61)).heap.size := by simp
  generalize hw1 : (w.alloc (.cells rc.toArray 61)).alloc (.cells #[.bool false, .string ⟨#[]⟩, .bool false, .int .u8 0, .int .u8 0, .int .u8 0, .int .u8 0, .int .u8 0, .int .u8 0, .int .u8 0, .int .u8 0, .int .u8 0, .int .u8 0, .int .u8 0, .int .u8 0, .int .u8 0, .int .u8 0, .int .u8 0, .int .u8 0, .int .i64 0, .int .i64 0, .int .i64 0] 61) = w1 at B0 BO C0 hs2 ⊢
  clear hw1
  have HI22 : Hid ((Tryd.prog.info? 61).map (·.size) = some (rulC (al, ⟨#[]⟩, zeroP, 0, 65535)).length) := rul_inf rfl
  have e0 := (B0.cell 0).trans HAL.out
  go_upto_if 10 with (first
    | (refine wpList_storeB rfl 61 _ _ rfl w1.heap.size 61 (rulC dR) (rulC (al, ⟨#[]⟩, zeroP, 0, 65535)) rfl rfl (Blk.new _ _ _) HI22.out rfl (rul_one _) ?_; intro w2 BX D Z; clear Z; have D2 := ((Ch.refl [] w1).alloc _).step D (fun i hi => .inr (by simp at hi; omega)); clear D e0; replace B0 := B0.ch D2 (by simp); replace BO := BO.ch D2 (by simp); replace C0 := C0.trans D2; clear D2; have e20 := (B0.cell 20).trans HLO.out)
    | (go_at_call 9; (with_reducible refine (genMod _ _ _ ?_ ?_).mono ?_); omega; omega; rintro e w' ⟨rfl, rfl⟩))
  generalize w1.heap.size = gx at BX hs2 ⊢
  rw [HS.out] at B0 BO hs2 ⊢
  clear e20
  generalize hkb : (modI lo 3 == 0) = kb
  have HKB := hid hkb
  clear hkb
  go_cut [] (fun wx => ∃ lo' hi' : Int, Hid (loHi lo hi = (lo', hi')) ∧ 0 ≤ lo' ∧ lo' ≤ hi' ∧ hi' ≤ 65535 ∧ Blk wx gx 61 (rulC (al, ⟨#[]⟩, zeroP, lo', hi')) ∧ Blk wx s 61 rc ∧ Blk wx (s + 1) 61 (rulC dR) ∧ Ch [] w wx)
  case first =>
    cases kb
    · go_wp2_with fail
      go_meet
      exact ⟨0, 65535, by show loHi lo hi = _; unfold loHi; rw [HKB.out]; rfl, by omega, by omega, by omega, BX, B0, BO, C0⟩
    · have e20 := (B0.cell 20).trans HLO.out
      have e21 := (B0.cell 21).trans HHI.out
      have f20 := BX.cell 20
      have f21 := BX.cell 21
      have g20 := BX.frozen 20
      have g21 := BX.frozen 21
      obtain ⟨a0, a1⟩ := modI_rng lo 100 (by omega)
      obtain ⟨b0, b1⟩ := modI_rng hi 500 (by omega)
      have HM1 : Hid (∀ w, Calls Tryd.prog 9 #[.int .i64 lo, .int .i64 100] w fun e w' => e = .returned (.int .i64 (modI lo 100)) ∧ w' = w) := (fun w => (genMod lo 100 w (by omega) (by omega)).mono fun _ _ h => ⟨h.1, h.2.symm⟩)
      have HM2 : Hid (∀ w, Calls Tryd.prog 9 #[.int .i64 hi, .int .i64 500] w fun e w' => e = .returned (.int .i64 (modI hi 500)) ∧ w' = w) := (fun w => (genMod hi 500 w (by omega) (by omega)).mono fun _ _ h => ⟨h.1, h.2.symm⟩)
      have HLH : Hid (loHi lo hi = if modI lo 100 > 60 + modI hi 500 then (60 + modI hi 500, modI lo 100) else (modI lo 100, 60 + modI hi 500)) := by show loHi lo hi = _; unfold loHi; rw [HKB.out]; rfl
      generalize modI lo 100 = a at a0 a1 HM1 HLH
      generalize modI hi 500 = b at b0 b1 HM2 HLH
      have hsum : IntKind.i64.wrap (60 + b) = 60 + b := IntWalk.i64_in _ (by omega)
      go_upto_region 3 with fail
      refine wp_region_stagesM [⟨0, 2, 2048⟩, ⟨1, 2048, 4096⟩, ⟨2, 4096, 8192⟩, ⟨0, 2, 16384⟩, ⟨8, 16384, 32768⟩, ⟨20, 32768, 65536⟩, ⟨32, 65536, 131072⟩, ⟨7, 8, 262144⟩, ⟨167, 270336, 0⟩, ⟨511, 8, 524288⟩, ⟨1023, 655360, 0⟩] [([0, 1, 2, 3, 4, 5, 6, 7], 8, [6]), ([9], 10, [])] [] (by kernel_rfl) (by kernel_rfl) ?_
      refine wpStages_step ?_
      try simp only [pick, List.map_cons, List.map_nil, List.getD_cons_zero, List.getD_cons_succ]
      repeat (go_big_quiet_step (first
        | (go_at_call 9; with_reducible exact Calls.quiet_of_same (HM1.out _))
        | (go_at_call 9; with_reducible exact Calls.quiet_of_same (HM2.out _))))
      refine wpQuiet_nil ?_
      intro n0
      try simp only [pick, List.map_cons, List.map_nil, List.getD_cons_zero, List.getD_cons_succ]
      clear f20 g20 f21 g21
      have f20 : (w2.drewN n0).cell? ⟨gx, 20, none⟩ = some (.int .i64 0) := (BX.drewN n0).cell 20
      have g20 := (BX.drewN n0).frozen 20
      go_wp2_with fail
      have BX1 : Blk ((w2.drewN n0).setCell ⟨gx, 20, none⟩ (.int .i64 a)) gx 61 (rulC (al, ⟨#[]⟩, zeroP, a, 65535)) := (BX.drewN n0).set 20 (.int .i64 a)
      have D1 : Ch [gx] w2 ((w2.drewN n0).setCell ⟨gx, 20, none⟩ (.int .i64 a)) := ((Ch.refl [gx] w2).drewN n0).setCell (p := ⟨gx, 20, none⟩) (.inl (by simp)) _
      generalize hwa : (w2.drewN n0).setCell ⟨gx, 20, none⟩ (.int .i64 a) = wa at BX1 D1 ⊢
      clear hwa f20 g20
      refine stagePost_mk ?_ ?_
      · intro o' ho'
        simp only [pick, List.map_cons, List.map_nil, List.getD_cons_zero, List.getD_cons_succ, List.mem_cons, List.not_mem_nil, or_false] at ho'
        subst ho'
        refine float_any ?_
        repeat (go_big_quiet_step (first
          | (go_at_call 9; with_reducible exact Calls.quiet_of_same (HM1.out _))
          | (go_at_call 9; with_reducible exact Calls.quiet_of_same (HM2.out _))))
        refine wpQuiet_nil ?_
        rfl
      refine wpStages_step ?_
      try simp only [pick, List.map_cons, List.map_nil, List.getD_cons_zero, List.getD_cons_succ]
      repeat (go_big_quiet_step (first
        | (go_at_call 9; with_reducible exact Calls.quiet_of_same (HM1.out _))
        | (go_at_call 9; with_reducible exact Calls.quiet_of_same (HM2.out _))))
      refine wpQuiet_nil ?_
      intro n1
      try simp only [pick, List.map_cons, List.map_nil, List.getD_cons_zero, List.getD_cons_succ]
      have f21 : (wa.drewN n1).cell? ⟨gx, 21, none⟩ = some (.int .i64 65535) := (BX1.drewN n1).cell 21
      have g21 := (BX1.drewN n1).frozen 21
      go_wp2_with fail
      have BX2 : Blk ((wa.drewN n1).setCell ⟨gx, 21, none⟩ (.int .i64 (60 + b))) gx 61 (rulC (al, ⟨#[]⟩, zeroP, a, 60 + b)) := (BX1.drewN n1).set 21 (.int .i64 (60 + b))
      have D2 : Ch [gx] w2 ((wa.drewN n1).setCell ⟨gx, 21, none⟩ (.int .i64 (60 + b))) := (D1.drewN n1).setCell (p := ⟨gx, 21, none⟩) (.inl (by simp)) _
      generalize hwb : (wa.drewN n1).setCell ⟨gx, 21, none⟩ (.int .i64 (60 + b)) = wb at BX2 D2 ⊢
      clear hwb f21 g21 BX1 D1
      refine stagePost_mk (by simp [pick]) ?_
      refine wpStages_last ?_
      try simp only [pick, List.map_nil]
      repeat (go_big_quiet_step (first
        | (go_at_call 9; with_reducible exact Calls.quiet_of_same (HM1.out _))
        | (go_at_call 9; with_reducible exact Calls.quiet_of_same (HM2.out _))))
      refine wpQuiet_nil ?_
      intro n2
      clear hsum e20 e21 HM1 HM2
      have f20 : (wb.drewN n2).cell? ⟨gx, 20, none⟩ = some (.int .i64 a) := (BX2.drewN n2).cell 20
      have f21 : (wb.drewN n2).cell? ⟨gx, 21, none⟩ = some (.int .i64 (60 + b)) := (BX2.drewN n2).cell 21
      have g20 := (BX2.drewN n2).frozen 20
      have g21 := (BX2.drewN n2).frozen 21
      have D3 := D2.drewN n2
      have B03 := B0.ch D3 (by simp; omega)
      have BO3 := BO.ch D3 (by simp; omega)
      have C3 := C0.step D3 (fun i hi => .inr (by rw [List.mem_singleton] at hi; have := HS.out; omega))
      by_cases hab : a > 60 + b
      · go_wp2_with fail
        go_meet
        exact ⟨60 + b, a, by show loHi lo hi = _; rw [HLH.out, if_pos hab], by omega, by omega, by omega, ((BX2.drewN n2).set 20 (.int .i64 (60 + b))).set 21 (.int .i64 a), (B03.far (p := ⟨gx, 20, none⟩) (by simp; omega) _).far (p := ⟨gx, 21, none⟩) (by simp; omega) _, (BO3.far (p := ⟨gx, 20, none⟩) (by simp; omega) _).far (p := ⟨gx, 21, none⟩) (by simp; omega) _, (C3.setCell (p := ⟨gx, 20, none⟩) (.inr (by have := HS.out; show _ ≤ gx; omega)) _).setCell (p := ⟨gx, 21, none⟩) (.inr (by have := HS.out; show _ ≤ gx; omega)) _⟩
      · go_wp2_with fail
        go_meet
        exact ⟨a, 60 + b, by show loHi lo hi = _; rw [HLH.out, if_neg (by omega)], by omega, by omega, by omega, BX2.drewN n2, B03, BO3, C3⟩
  case rest =>
    obtain ⟨lo', hi', HLH, hl0, hlh, hh1, BX2, B02, BO2, C2⟩ := hcut
    clear BX B0 BO C0
    have e1 := (B02.cell 1).trans HSX.out
    go_upto_if 35 with fail
    by_cases hodd : sx.size % 2 = 1
    · have hob : ((sx.size : Int) % 2 == 1) = true := by simp; omega
      have hp0 : 0 < sx.size := by omega
      have hbr := byt_rng sx 0
      have eb : ((sx[0]'hp0).toNat : Int) = byt sx 0 := byt_get hp0
      have HH : Hid (∀ w, Calls Tryd.prog 40 #[.int .i64 ((sx.size : Int) + byt sx 0)] w fun e w' => e = .returned (.string (hostS ((sx.size : Int) + byt sx 0))) ∧ w' = w) := fun w => (genHostD _ w).mono fun _ _ h => ⟨h.1, h.2.symm⟩
      have HHS := hid (hostS_ok ((sx.size : Int) + byt sx 0))
      have hsum : wrap64 ((sx.size : Int) + byt sx 0) = (sx.size : Int) + byt sx 0 := IntWalk.wrap64_in _ (by omega)
      have hb0 : wrap64 (byt sx 0) = byt sx 0 := IntWalk.wrap64_in _ (by omega)
      have HQq : Hid (Q = (al, hostS ((sx.size : Int) + byt sx 0), zeroP, lo', hi')) := by show Q = _; rw [← HQ.out]; unfold genRq; rw [if_pos hodd, HLH.out]
      generalize hostS ((sx.size : Int) + byt sx 0) = hs at HH HHS HQq
      clear HQ HLH
      clear hodd hbr
      go_upto_region 7 with fail
      refine wp_region_stagesM [⟨0, 2, 68719476736⟩, ⟨1, 68719476736, 137438953472⟩, ⟨2, 137438953472, 274877906944⟩, ⟨0, 2, 549755813888⟩, ⟨8, 549755813888, 1099511627776⟩, ⟨16, 1099511627776, 2199023255552⟩, ⟨32, 2199023255552, 4398046511104⟩, ⟨68, 4672924418048, 8796093022208⟩, ⟨128, 8796093022208, 17592186044416⟩, ⟨511, 8, 35184372088832⟩, ⟨1023, 52776558133248, 0⟩] [([0, 1, 2, 3, 4, 5, 6, 7, 8, 9], 10, [])] [] (by kernel_rfl) (by kernel_rfl) ?_
      refine wpStages_step ?_
      try simp only [pick, List.map_cons, List.map_nil, List.getD_cons_zero, List.getD_cons_succ]
      repeat (go_big_quiet_step (first
        | (go_at_call 40; with_reducible exact Calls.quiet_of_same (HH.out _))))
      refine wpQuiet_nil ?_
      intro n3
      try simp only [pick, List.map_cons, List.map_nil, List.getD_cons_zero, List.getD_cons_succ]
      clear e1 eb hsum hob hb0
      have f1 : (wc.drewN n3).cell? ⟨gx, 1, none⟩ = some (.string ⟨#[]⟩) := (BX2.drewN n3).cell 1
      have g1 := (BX2.drewN n3).frozen 1
      go_wp2_with fail
      have BX3 : Blk ((wc.drewN n3).setCell ⟨gx, 1, none⟩ (.string hs)) gx 61 (rulC (al, hs, zeroP, lo', hi')) := (BX2.drewN n3).set 1 (.string hs)
      have D1 : Ch [gx] wc ((wc.drewN n3).setCell ⟨gx, 1, none⟩ (.string hs)) := ((Ch.refl [gx] wc).drewN n3).setCell (p := ⟨gx, 1, none⟩) (.inl (by simp)) _
      generalize hwa : (wc.drewN n3).setCell ⟨gx, 1, none⟩ (.string hs) = wa at BX3 D1 ⊢
      clear hwa f1 g1
      refine stagePost_mk (by simp [pick]) ?_
      refine wpStages_last ?_
      try simp only [pick, List.map_nil]
      repeat (go_big_quiet_step (first
        | (go_at_call 40; with_reducible exact Calls.quiet_of_same (HH.out _))))
      refine wpQuiet_nil ?_
      intro n4
      have D2 := D1.drewN n4
      have BX4 := BX3.drewN n4
      have BO3 := BO2.ch D2 (by simp; omega)
      have C3 := C2.step D2 (fun i hi => .inr (by rw [List.mem_singleton] at hi; have := HS.out; omega))
      clear D1 D2 BX3
      have hok : OkR (al, hs, zeroP, lo', hi') := by
        refine ⟨?_, ⟨rfl, show ∀ x ∈ zeros, 0 ≤ x ∧ x ≤ 255 by decide⟩, by have := HHS.out.2.2; show hs.size ≤ _; omega⟩
        unfold validR
        have h4 := HHS.out.2.1
        have hne : ¬ hs.size = 0 := by omega
        simp only [hne, if_false]
        rw [HHS.out.1]
        simp [hl0, hlh, hh1]
      have HOK := hid hok
      have HIQ := hid (rul_inf (r := (al, hs, zeroP, lo', hi')) hok.2.1.1)
      clear hok
      have HRO := hid (rul_one (al, hs, zeroP, lo', hi'))
      have HLQ : Hid ((rulC dR).length = (rulC (al, hs, zeroP, lo', hi')).length) := rfl
      generalize hq : (al, hs, zeroP, lo', hi') = q at HOK HIQ HRO HLQ BX4 HQq
      clear hq
      go_wp2_with (first
        | (refine wpList_load_want rfl 61 _ rfl gx 0 rfl (rulC q) _ BX4.range Tryd.underlying61 rfl HIQ.out ?_)
        | (refine wpList_storeB rfl 61 _ _ rfl (s + 1) 61 (rulC dR) (rulC q) rfl rfl BO3 HIQ.out HLQ.out HRO.out ?_; intro wz BZ DZ Y0))
      try simp only [Exit.inBlock, Exit.then]
      refine bodyPost_ret (results_row1 rfl _ _ rfl BZ Tryd.underlying61 rfl HIQ.out) rfl ?_
      exact ⟨by rw [HQq.out], C3.step DZ (fun i hi => .inr (by rw [List.mem_singleton] at hi; have := HS.out; omega))⟩
    · have hob : ((sx.size : Int) % 2 == 1) = false := by simp; omega
      have HQq : Hid (Q = (al, ⟨#[]⟩, pq, lo', hi')) := by show Q = _; rw [← HQ.out]; unfold genRq; rw [if_neg hodd, HLH.out]
      clear hodd e1 HQ HLH
      have HIP := hid (pfx_inf (p := pq) HGO.out.g.1)
      have HOV : Hid (overL (rulC (al, ⟨#[]⟩, zeroP, lo', hi')) 2 (pfxC pq) = rulC (al, ⟨#[]⟩, pq, lo', hi')) := overL_app (pfxC pq) [.bool al, .string ⟨#[]⟩] (pfxC zeroP) [.int .i64 lo', .int .i64 hi'] (by rw [pfx_len HGO.out.g.1]; rfl)
      have hok : OkR (al, ⟨#[]⟩, pq, lo', hi') := by
        refine ⟨?_, HGO.out.g, by show (0 : Nat) ≤ _; omega⟩
        unfold validR
        simp only
        rw [if_pos (show (⟨#[]⟩ : ByteArray).size = 0 from rfl), HGO.out.v]
        simp [hl0, hlh, hh1]
      have HOK := hid hok
      have HIQ := hid (rul_inf (r := (al, ⟨#[]⟩, pq, lo', hi')) hok.2.1.1)
      have HLE : Hid (2 + (pfxC pq).length ≤ (rulC (al, ⟨#[]⟩, zeroP, lo', hi')).length) := by show _ ≤ 22; rw [pfx_len HGO.out.g.1]; decide
      clear hok
      have HRO := hid (rul_one (al, ⟨#[]⟩, pq, lo', hi'))
      have HLQ : Hid ((rulC dR).length = (rulC (al, ⟨#[]⟩, pq, lo', hi')).length) := (rul_len (r := dR) rfl).trans (rul_len (r := (al, ⟨#[]⟩, pq, lo', hi')) HGO.out.g.1).symm
      generalize hq : (al, (⟨#[]⟩ : ByteArray), pq, lo', hi') = q at HOK HIQ HRO HLQ HOV HQq
      clear hq
      have HONE := hid (pfx_one pq)
      generalize pfxC pq = pcq at HGP HIP HOV HLE HONE
      generalize rulC (al, ⟨#[]⟩, zeroP, lo', hi') = rcx at BX2 HOV HLE
      go_wp2_with (first
        | (refine wpList_load_want rfl 59 _ rfl s 2 rfl pc _ (B02.rangeMid 2 _ HPC.out) Tryd.underlying59 rfl HIPC.out ?_)
        | (go_at_call 41; (with_reducible refine (HGP.out _).mono ?_); rintro e w5 ⟨rfl, C5⟩; replace BX2 := BX2.ch C5 (by simp); replace BO2 := BO2.ch C5 (by simp); replace C2 := C2.trans C5)
        | (refine wpList_storeM rfl 59 _ _ rfl gx 2 61 rcx pcq (rulC q) rfl rfl BX2 HOV.out HLE.out HIP.out HONE.out ?_; intro w6 BX4 D6 Z6; replace BO2 := BO2.ch D6 (by simp; omega); replace C2 := C2.step D6 (fun i hi => .inr (by rw [List.mem_singleton] at hi; have := HS.out; omega)))
        | (refine wpList_load_want rfl 61 _ rfl gx 0 rfl (rulC q) _ BX4.range Tryd.underlying61 rfl HIQ.out ?_)
        | (refine wpList_storeB rfl 61 _ _ rfl (s + 1) 61 (rulC dR) (rulC q) rfl rfl BO2 HIQ.out HLQ.out HRO.out ?_; intro wz BZ DZ Y0))
      try simp only [Exit.inBlock, Exit.then]
      refine bodyPost_ret (results_row1 rfl _ _ rfl BZ Tryd.underlying61 rfl HIQ.out) rfl ?_
      exact ⟨by rw [HQq.out], C2.step DZ (fun i hi => .inr (by rw [List.mem_singleton] at hi; have := HS.out; omega))⟩
end Go.Proofs.YtbmbnibamhgfmaaDoor
