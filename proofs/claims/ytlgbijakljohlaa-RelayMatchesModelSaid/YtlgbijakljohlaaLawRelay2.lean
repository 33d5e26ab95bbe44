/- The walk of RelayMatchesModel (printed by mk_lawrelay2.py). -/
import Derived.Test.YtlgbijakljohlaaLawRelay
import Derived.Deep.RegionHeld3
import Derived.Deep.DeepCutAuto
import Derived.Deep.CutBlock
namespace Go.Proofs.Ytlgbijakljohlaa
open Go.ChangeShapes Go.WideShapes Go.ChangeAt Go.RowKit

set_option maxRecDepth 100000 in
set_option maxHeartbeats 16000000 in
theorem relayMatchesModel_came {H : Type} {enc : TypeId × Value → H} (W : World) (args : Array Value) (ds : List (DataW H)) (h : Came enc Try.prog Try.f3 W args ds) :
    Calls Try.prog 3 args W fun e W' => e = .returned (.bool true) ∧ Below W.heap.size W W' := by
  obtain ⟨v0, v1, d0, d1, rfl, a0, a1⟩ := h.args2 rfl
  obtain ⟨n, rfl, hn, hn'⟩ := a0.i64 Try.underlying3
  obtain ⟨A, len, cap, rfl, hlc, hcm, _, hel⟩ := a1.slice Try.underlying22 (by rw [relOp_four]; omega)
  have HEL := hid hel
  unfold maxLen at hcm
  clear h a0 a1 hel
  obtain ⟨p0, p1⟩ := modI_rng n 40 (by omega)
  obtain ⟨c, hc⟩ := Int.eq_ofNat_of_zero_le (show 0 ≤ modI n 40 by omega)
  have HC := hid hc
  have hc0 : c < 40 := by omega
  clear p0 p1 hc
  go_enter Try.func3, Try.ntmps3
  go_wp2_with fail
  refine (genModAs _ _ c HC.out _ (by omega) (by omega)).mono ?_
  rintro e w' ⟨rfl, rfl⟩
  go_wp2_with fail
  refine (relayNew _ (1 + c) (by omega) _ (by omega) (by omega)).mono ?_
  rintro e w1 ⟨B1, B2, rfl, R1, C1⟩
  have hz1 := C1.size
  go_wp2_with fail
  refine (refRNew _ (1 + c) (by omega) _ (by omega)).mono ?_
  rintro e w2 ⟨rfl, X1, C2⟩
  have hldQ := R1.dn.lt
  have hluQ := R1.up.lt
  have hlq := R1.blk.lt
  have hlx := X1.blk.lt
  have hsp := R1.sep
  unfold relSep at hsp
  have R2 := R1.ch C2 (by simp)
  have hb2 := (C1.trans C2).nil_below
  generalize hQ : w1.heap.size = Q at *
  clear hQ
  go_wp2_with (go_at_call 8; go_must ((with_reducible refine (relayPipe _ _ (1 + c) B1 B2 _ _ R2 _ _ rfl).mono ?_); simp only [if_true, Bool.false_eq_true, if_false]; rintro e w' ⟨rfl, rfl⟩))
  go_loopw [9] (fun i wr => ∃ (k : Nat) (x y : PD), k ≤ 80 ∧ i = .int .i64 k ∧ relayAt wr W.heap.size (1 + c) B1 B2 x y ∧ refR wr Q (1 + c) x y ∧ Below W.heap.size W wr) (fun i _ => 80 - (intOf i).toNat)
  case atStart => exact ⟨0, _, _, by omega, rfl, R2, X1, hb2⟩
  case round =>
    clear R1 C1 C2 X1 R2 hb2 hlq hlx
    obtain ⟨k, x, y, hk, rfl, hR, hX, hb⟩ := hrel
    by_cases hlt : k < len ∧ k < 80
    · obtain ⟨hlt1, hlt2⟩ := hlt
      obtain ⟨b, off, rfl, hbl, hcells⟩ := HEL.out (by omega)
      obtain ⟨cs, hcl, hcell, hcc⟩ := hcells k hlt1
      obtain ⟨kd, up, s, nn, rfl, hs, hnn⟩ := relOp_cells hcc
      rw [relOp_four] at hcell
      have f0 : wr.cell? ⟨b, off + k * 4, none⟩ = some (.int .i64 kd) := ((Below.cells hb).1 _ _ hbl).trans (hcell 0 (by omega))
      have f1 : wr.cell? ⟨b, off + k * 4 + 1, none⟩ = some (.bool up) := ((Below.cells hb).1 _ _ hbl).trans (hcell 1 (by omega))
      have f2 : wr.cell? ⟨b, off + k * 4 + 2, none⟩ = some (.string s) := ((Below.cells hb).1 _ _ hbl).trans (hcell 2 (by omega))
      have f3 : wr.cell? ⟨b, off + k * 4 + 3, none⟩ = some (.int .u64 nn) := ((Below.cells hb).1 _ _ hbl).trans (hcell 3 (by omega))
      clear hcc hcells hcell hcl
      obtain ⟨g0, g1⟩ := modI_rng kd 9 (by omega)
      generalize hd : modI kd 9 = d at g0 g1
      have HDD := hid hd
      clear hd
      have hCo : Ch [] wr (wr.alloc (.cells #[.int .i64 kd, .bool up, .string s, .int .u64 nn] 34)) := (Ch.refl _ _).alloc _
      have hBo : Blk (wr.alloc (.cells #[.int .i64 kd, .bool up, .string s, .int .u64 nn] 34)) wr.heap.size 34 [.int .i64 kd, .bool up, .string s, .int .u64 nn] := Blk.new wr _ _
      have hbo : Below W.heap.size W (wr.alloc (.cells #[.int .i64 kd, .bool up, .string s, .int .u64 nn] 34)) := hb.alloc hb.size _
      have hzo := hCo.size
      have Ro := hR.ch hCo (by simp)
      have Xo := hX.ch hCo (by simp)
      have hld := hR.dn.lt
      have hlu := hR.up.lt
      have hlx := hX.blk.lt
      go_upto_region 10 with fail
      generalize hwo : wr.alloc (.cells #[.int .i64 kd, .bool up, .string s, .int .u64 nn] 34) = wo at hCo hBo hbo hzo Ro Xo ⊢
      have HWO := hid hwo
      clear hwo
      obtain ⟨P, hP⟩ : ∃ P, (if up then B2.p else B1.p) = P := ⟨_, rfl⟩
      have HP := hid hP
      clear hP
      have i0 : wo.cell? ⟨wr.heap.size, 0, none⟩ = some (.int .i64 kd) := hBo.cell 0
      have i1 : wo.cell? ⟨wr.heap.size, 1, none⟩ = some (.bool up) := hBo.cell 1
      have i2 : wo.cell? ⟨wr.heap.size, 2, none⟩ = some (.string s) := hBo.cell 2
      have i3 : wo.cell? ⟨wr.heap.size, 3, none⟩ = some (.int .u64 nn) := hBo.cell 3
      have RQ : ∀ n, relayAt (wo.drewN n) W.heap.size (1 + c) B1 B2 x y := fun n => Ro.heap rfl
      go_quiet ((go_at_call 8; exact quiet_eq (relayPipe _ _ (1 + c) B1 B2 x y (RQ _) _ P HP.out)))
      have R0 := RQ nq
      have X0 : refR (wo.drewN nq) Q (1 + c) x y := Xo.heap rfl
      have J0 : Blk (wo.drewN nq) wr.heap.size 34 [.int .i64 kd, .bool up, .string s, .int .u64 nn] := hBo
      have hb0 := Below.drewN hbo nq
      have hz0 : (wo.drewN nq).heap.size = wo.heap.size := rfl
      generalize hw0 : wo.drewN nq = w0 at R0 X0 J0 hb0 hz0 ⊢
      clear hw0 RQ Ro Xo hBo hbo hCo i0 i1 i2 i3 f0 f1 f2 f3 hR hX
      have i0 : w0.cell? ⟨wr.heap.size, 0, none⟩ = some (.int .i64 kd) := J0.cell 0
      have i1 : w0.cell? ⟨wr.heap.size, 1, none⟩ = some (.bool up) := J0.cell 1
      have i2 : w0.cell? ⟨wr.heap.size, 2, none⟩ = some (.string s) := J0.cell 2
      have i3 : w0.cell? ⟨wr.heap.size, 3, none⟩ = some (.int .u64 nn) := J0.cell 3
      cases up
      · skip
        obtain rfl : B1.p = P := by simpa using HP.out
        clear HP
        go_upto_block 2 with (go_at_call 5; with_reducible refine (genModAs _ _ d HDD.out _ ?_ ?_).mono ?_; omega; omega; rintro e w' ⟨rfl, rfl⟩)
        go_cut [10, 11, 12, 13, 14] (fun _ _ _ f _ wx => f = .bool true ∧ ∃ x y : PD, relayAt wx W.heap.size (1 + c) B1 B2 x y ∧ refR wx Q (1 + c) x y ∧ Below W.heap.size W wx)
        case first =>
          by_cases k3 : d < 3
          · obtain ⟨M, hM⟩ : ∃ M, (if x.cl then 0 else min s.size (1 + c - x.xs.length)) = M := ⟨_, rfl⟩
            have HM := hid hM
            have HS := hid hs
            clear hM hs
            go_wp2_with fail
            refine wp_region_stagesM [⟨0, 2048, 4835703278458516698824704⟩, ⟨0, 1024, 9671406556917033397649408⟩, ⟨2, 9671406556917033397649408, 19342813113834066795298816⟩, ⟨5, 24178516392292583494123520, 38685626227668133590597632⟩, ⟨0, 4096, 77371252455336267181195264⟩, ⟨0, 1024, 154742504910672534362390528⟩, ⟨32, 154742504910672534362390528, 309485009821345068724781056⟩, ⟨88, 386856262276681335905976320, 618970019642690137449562112⟩, ⟨136, 657655645870358271040159744, 1237940039285380274899124224⟩, ⟨511, 1237940039285380274899124224, 8192⟩] [([0, 1, 2, 4, 5, 6], 3, [4, 5, 6]), ([], 7, [])] [8, 9] (by kernel_rfl) (by kernel_rfl) ?_
            refine wpStages_step ?_
            simp only [pick, List.map_cons, List.map_nil, List.getD_cons_zero, List.getD_cons_succ]
            repeat (go_big_quiet_step (fail))
            refine wpQuiet_nil ?_
            intro n0
            simp only [pick, List.map_cons, List.map_nil, List.getD_cons_zero, List.getD_cons_succ]
            have RD : relayAt (w0.drewN n0) W.heap.size (1 + c) B1 B2 x y := R0.heap rfl
            go_wp2_with (go_at_call 9; (with_reducible refine (pWrite _ B1 (1 + c) x RD.dn s (by have := HS.out; unfold maxLen; omega) M HM.out).mono ?_); rintro e w2 ⟨rfl, P2, C2⟩)
            have R2 := RD.dnCh C2 (by simp <;> omega) P2
            have C2' := ((Ch.refl [B1.g, B1.b] w0).drewN n0).trans C2
            have hz2 := C2'.size
            have J2 := J0.ch C2' (by simp <;> omega)
            have j2 : w2.cell? ⟨wr.heap.size, 2, none⟩ = some (.string s) := J2.cell 2
            have X2 := X0.ch C2' (by simp <;> omega)
            refine stagePost_mk ?_ ?_
            · intro o ho
              simp only [pick, List.map_cons, List.map_nil, List.getD_cons_zero, List.getD_cons_succ, List.mem_cons, List.not_mem_nil, or_false] at ho
              rcases ho with rfl | rfl | rfl
              all_goals
                refine float_any ?_
                repeat (go_big_quiet_step (fail))
                refine wpQuiet_nil ?_
                rfl
            refine wpStages_step ?_
            simp only [pick, List.map_nil]
            refine wpQuiet_nil ?_
            intro n1
            simp only [pick, List.map_cons, List.map_nil, List.getD_cons_zero, List.getD_cons_succ]
            have XD : refR (w2.drewN n1) Q (1 + c) x y := X2.heap rfl
            go_wp2_with (go_at_call 10; (with_reducible refine (rDWrite _ Q (1 + c) x y XD s HS.out M HM.out).mono ?_); rintro e w3 ⟨rfl, X3, C3⟩)
            have C3' := ((Ch.refl [Q] w2).drewN n1).trans C3
            have R3 := R2.ch C3' (by simp <;> omega)
            refine stagePost_mk (by simp [pick]) ?_
            refine wpStages_last ?_
            simp only [pick, List.map_cons, List.map_nil, List.getD_cons_zero, List.getD_cons_succ]
            repeat (go_big_quiet_step (fail))
            refine wpQuiet_nil ?_
            intro n2
            go_wp2_with fail
            have BM := Below.drewN (Below.ch (Below.ch hb0 C2' (by simp <;> omega) hb0.size) C3' (by simp <;> omega) (by have := hb0.size; omega)) n2
            go_meet
            exact ⟨rfl, _, _, R3.heap rfl, X3.heap rfl, BM⟩
          · by_cases k5 : d < 5
            · have m0 : 0 ≤ nn % 25 ∧ nn % 25 ≤ 18446744073709551615 := by omega
              go_wp2_with (first
                | (go_at_call 11; go_must (with_reducible refine (pAddCredit _ B1 (1 + c) x R0.dn (nn % 25) m0.1 m0.2).mono ?_); rintro e1 w2 ⟨rfl, P2, C2⟩; have R2 := R0.dnCh C2 (by simp <;> omega) P2; have X2 := X0.ch C2 (by simp <;> omega); have J2 := J0.ch C2 (by simp <;> omega); have j3 : w2.cell? ⟨wr.heap.size, 3, none⟩ = some (.int .u64 nn) := J2.cell 3; have hz2 := C2.size)
                | (go_at_call 12; go_must (with_reducible refine (rDAdd _ Q (1 + c) x y X2 (nn % 25) m0.1 m0.2).mono ?_); rintro e1 w3 ⟨rfl, X3, C3⟩; have R3 := R2.ch C3 (by simp <;> omega)))
              have BM := Below.ch (Below.ch hb0 C2 (by simp <;> omega) hb0.size) C3 (by simp <;> omega) (by have := hb0.size; omega)
              go_meet
              exact ⟨rfl, _, _, R3, X3, BM⟩
            · by_cases k6 : d = 5
              · have hd5 : (d == 5) = true := by simp [k6]
                by_cases k7 : nn % 3 = 0
                · have hd7 : (nn % 3 == 0) = true := by simp [k7]
                  have HK := hid k6
                  clear k6
                  have HK7 := hid k7
                  clear k7
                  obtain ⟨E, hE⟩ : ∃ E, (!x.cl) = E := ⟨_, rfl⟩
                  have HE := hid hE
                  clear hE
                  go_wp2_with (first
                    | (go_at_call 13; go_must (with_reducible refine (pCloseWrite _ B1 (1 + c) x R0.dn).mono ?_); rw [HE.out]; rintro e1 w2 ⟨rfl, P2, C2⟩; have R2 := R0.dnCh C2 (by simp <;> omega) P2; have X2 := X0.ch C2 (by simp <;> omega); have hz2 := C2.size)
                    | (go_at_call 14; go_must (with_reducible refine (rDClose _ Q (1 + c) x y X2 E HE.out).mono ?_); rintro e1 w3 ⟨rfl, X3, C3⟩; have R3 := R2.ch C3 (by simp <;> omega)))
                  have BM := Below.ch (Below.ch hb0 C2 (by simp <;> omega) hb0.size) C3 (by simp <;> omega) (by have := hb0.size; omega)
                  go_meet
                  exact ⟨rfl, _, _, R3, X3, BM⟩
                · have hd7 : (nn % 3 == 0) = false := by simp [k7]
                  have HK := hid k6
                  clear k6
                  go_wp2_with fail
                  go_meet
                  exact ⟨rfl, _, _, R0, X0, hb0⟩
              · have hd5 : (d == 5) = false := by simp [k6]
                obtain ⟨ts, hts⟩ : ∃ z, x.trs false = z := ⟨_, rfl⟩
                have HTS := hid hts
                clear hts
                go_wp2_with fail
                refine wp_region_stagesM [⟨0, 64, 1180591620717411303424⟩, ⟨0, 1024, 2361183241434822606848⟩, ⟨2, 2361183241434822606848, 4722366482869645213696⟩, ⟨5, 5902958103587056517120, 9444732965739290427392⟩, ⟨0, 256, 18889465931478580854784⟩, ⟨0, 1024, 37778931862957161709568⟩, ⟨32, 37778931862957161709568, 75557863725914323419136⟩, ⟨88, 94447329657392904273920, 151115727451828646838272⟩, ⟨136, 160560460417567937265664, 302231454903657293676544⟩, ⟨511, 302231454903657293676544, 8192⟩] [([0, 1, 2, 4, 5, 6], 3, [4, 5, 6]), ([], 7, []), ([], 8, [])] [9] (by kernel_rfl) (by kernel_rfl) ?_
                refine wpStages_step ?_
                simp only [pick, List.map_cons, List.map_nil, List.getD_cons_zero, List.getD_cons_succ]
                repeat (go_big_quiet_step (fail))
                refine wpQuiet_nil ?_
                intro n0
                simp only [pick, List.map_cons, List.map_nil, List.getD_cons_zero, List.getD_cons_succ]
                have RD : relayAt (w0.drewN n0) W.heap.size (1 + c) B1 B2 x y := R0.heap rfl
                go_wp2_with (go_at_call 16; (with_reducible refine (relayTransfer _ _ (1 + c) B1 B2 x y RD false _ rfl _ rfl ts (by simpa using HTS.out)).mono ?_); rintro e w2 ⟨A2, k2, c2, rfl, own2, hk2, R2, C2⟩)
                have C2' := ((Ch.refl [B1.p, B1.g, B1.b, B2.p, B2.g, B2.b] w0).drewN n0).trans C2
                have hz2 := C2'.size
                have J2 := J0.ch C2' (by simp <;> omega)
                have j2 : w2.cell? ⟨wr.heap.size, 1, none⟩ = some (.bool false) := J2.cell 1
                have X2 := X0.ch C2' (by simp <;> omega)
                refine stagePost_mk ?_ ?_
                · intro o ho
                  simp only [pick, List.map_cons, List.map_nil, List.getD_cons_zero, List.getD_cons_succ, List.mem_cons, List.not_mem_nil, or_false] at ho
                  rcases ho with rfl | rfl | rfl
                  all_goals
                    refine float_any ?_
                    repeat (go_big_quiet_step (fail))
                    refine wpQuiet_nil ?_
                    rfl
                refine wpStages_step ?_
                simp only [pick, List.map_nil]
                refine wpQuiet_nil ?_
                intro n1
                simp only [pick, List.map_cons, List.map_nil, List.getD_cons_zero, List.getD_cons_succ]
                have XD : refR (w2.drewN n1) Q (1 + c) x y := X2.heap rfl
                go_wp2_with (go_at_call 17; (with_reducible refine (refRTransfer _ Q (1 + c) x y XD false _ rfl _ rfl ts (by simpa using HTS.out)).mono ?_); rintro e w3 ⟨A3, k3', c3, rfl, own3, hk3, X3, C3⟩)
                have C3' := ((Ch.refl [Q] w2).drewN n1).trans C3
                have R3 := R2.ch C3' (by simp <;> omega)
                have hz3 := C3'.size
                refine stagePost_mk (by simp [pick]) ?_
                obtain rfl : k3' = k2 := by have h1 := own2.len; have h2 := own3.len; rw [trsCells_len] at h1 h2; omega
                have r2 : RdT w3 w2.heap.size A2 k3' ts := Rd.ch own2.rd C3' (Nat.le_refl _) (fun g hg hm => by have := own2.blks g hg; simp at this hm; omega)
                have r3 : RdT w3 w3.heap.size A3 k3' ts := own3.rd
                refine wpStages_step ?_
                simp only [pick, List.map_nil]
                refine wpQuiet_nil ?_
                intro n2
                simp only [pick, List.map_cons, List.map_nil, List.getD_cons_zero, List.getD_cons_succ]
                have q2 : RdT (w3.drewN n2) w2.heap.size A2 k3' ts := RdT.heap r2 rfl
                have q3 : RdT (w3.drewN n2) w3.heap.size A3 k3' ts := RdT.heap r3 rfl
                go_wp2_with (go_at_call 15; (with_reducible refine (eqTEqual _ A2 A3 k3' c2 c3 ts _ _ q2 q3 (by simp; omega) (by simp) hk3).mono ?_); rintro e w4 ⟨rfl, C4⟩)
                have C4' := ((Ch.refl [] w3).drewN n2).trans C4
                have R4 := R3.ch C4' (by simp)
                have X4 := X3.ch C4' (by simp)
                refine stagePost_mk (by simp [pick]) ?_
                refine wpStages_last ?_
                simp only [pick, List.map_cons, List.map_nil, List.getD_cons_zero, List.getD_cons_succ]
                repeat (go_big_quiet_step (fail))
                refine wpQuiet_nil ?_
                intro n3
                go_wp2_with fail
                have BM := Below.drewN (Below.ch (Below.ch (Below.ch hb0 C2' (by simp <;> omega) hb0.size) C3' (by simp <;> omega) (by have := hb0.size; omega)) C4' (by simp) (by have := hb0.size; omega)) n3
                go_meet
                exact ⟨rfl, _, _, R4.heap rfl, X4.heap rfl, BM⟩
        case rest =>
          obtain ⟨rfl, x2, y2, R', X', BN⟩ := hcut
          obtain ⟨dq, hdq⟩ : ∃ f : Bool → Bool, ∀ b, (x2.dr && (!b || y2.dr)) = f b := ⟨_, fun _ => rfl⟩
          obtain ⟨su, hsu⟩ : ∃ z, strOfNums y2.xs = z := ⟨_, rfl⟩
          obtain ⟨sd, hsd⟩ : ∃ z, strOfNums x2.xs = z := ⟨_, rfl⟩
          have HDQ := hid hdq
          have HSU := hid hsu
          have HSD := hid hsd
          have HBU : Hid ((x2.xs.length : Int) + y2.xs.length = (su.size : Int) + sd.size) := by show _ = _; rw [← hsu, ← hsd, strOf_size, strOf_size]; omega
          have hsz1 : su.size ≤ 41 := by rw [← hsu, strOf_size]; have := R'.up.lt; omega
          have hsz2 : sd.size ≤ 41 := by rw [← hsd, strOf_size]; have := R'.dn.lt; omega
          have hb0 : (((su.size : Int) + sd.size) != ((su.size : Int) + sd.size)) = false := by simp
          have hb1 : (dq true != dq true) = false := by simp
          have hb2 : (dq false != dq false) = false := by simp
          have z1 : wc.cell? ⟨Q, 1, none⟩ = some (.string su) := by rw [← hsu]; exact X'.blk.cell 1
          have z6 : wc.cell? ⟨Q, 6, none⟩ = some (.string sd) := by rw [← hsd]; exact X'.blk.cell 6
          clear hdq hsu hsd
          have RQ : ∀ n, relayAt (wc.drewN n) W.heap.size (1 + c) B1 B2 x2 y2 := fun n => R'.heap rfl
          have XQ : ∀ n, refR (wc.drewN n) Q (1 + c) x2 y2 := fun n => X'.heap rfl
          go_wp2_with fail
          try simp only [List.append]
          refine wp_region_stagesM [⟨0, 8192, 83076749736557242056487941267521536⟩, ⟨1, 83076749736557242056487941267521536, 166153499473114484112975882535043072⟩, ⟨2, 166153499473114484112975882535043072, 332306998946228968225951765070086144⟩, ⟨4, 332306998946228968225951765070086208, 664613997892457936451903530140172288⟩, ⟨12, 996920996838686904677855295210258432, 1329227995784915872903807060280344576⟩, ⟨4, 332306998946228968225951765070086400, 2658455991569831745807614120560689152⟩, ⟨36, 2990762990516060714033565885630775296, 5316911983139663491615228241121378304⟩, ⟨68, 5649218982085892459841180006191464448, 10633823966279326983230456482242756608⟩, ⟨132, 10966130965225555951456408247312842752, 21267647932558653966460912964485513216⟩, ⟨260, 21599954931504882934686864729555599360, 42535295865117307932921825928971026432⟩, ⟨516, 42867602864063536901147777694041112576, 85070591730234615865843651857942052864⟩, ⟨4, 332306998946228968225951765070086400, 170141183460469231731687303715884105728⟩, ⟨2052, 170473490459415460699913255480954191872, 340282366920938463463374607431768211456⟩, ⟨4100, 340614673919884692431600559196838297600, 680564733841876926926749214863536422912⟩, ⟨8196, 680897040840823155894975166628606509056, 1361129467683753853853498429727072845824⟩, ⟨16388, 1361461774682700082821724381492142931968, 2722258935367507707706996859454145691648⟩, ⟨32772, 2722591242366453936675222811219215777792, 5444517870735015415413993718908291383296⟩, ⟨66564, 5529920769464196260248063322531303522304, 10889035741470030830827987437816582766592⟩, ⟨131092, 10890697276464761975669117196641933197312, 21778071482940061661655974875633165533184⟩, ⟨262148, 21778403789939007890624200827398235619328, 43556142965880123323311949751266331066368⟩, ⟨524304, 43556142965880123323311949751266331066368, 87112285931760246646623899502532662132736⟩, ⟨1048576, 87112285931760246646623899502532662132800, 174224571863520493293247799005065324265472⟩, ⟨3145728, 261336857795280739939871698507597986398208, 348449143727040986586495598010130648530944⟩, ⟨1048576, 87112285931760246646623899502532662132992, 696898287454081973172991196020261297061888⟩, ⟨13631488, 784010573385842219819615095522793959194624, 1393796574908163946345982392040522594123776⟩, ⟨22020096, 1829358004566965179579101889553185904787456, 2787593149816327892691964784081045188247552⟩, ⟨34603008, 2874705435748088139338588683583577850380288, 5575186299632655785383929568162090376495104⟩, ⟨83886080, 5575186299632655785383929568162090376495104, 11150372599265311570767859136324180752990208⟩, ⟨134217728, 11150372599265311570767859136324180752990272, 22300745198530623141535718272648361505980416⟩, ⟨402653184, 33451117797795934712303577408972542258970624, 44601490397061246283071436545296723011960832⟩, ⟨134217728, 11150372599265311570767859136324180752990464, 89202980794122492566142873090593446023921664⟩, ⟨1744830464, 100353353393387804136910732226917626776911872, 178405961588244985132285746181186892047843328⟩, ⟨2818572288, 234157824584571542986125041862807795812794368, 356811923176489970264571492362373784095686656⟩, ⟨4429185024, 367962295775755281835339351498697964848676864, 713623846352979940529142984724747568191373312⟩, ⟨10737418240, 713623846352979940529142984724747568191373312, 1427247692705959881058285969449495136382746624⟩, ⟨17179869184, 1427247692705959881058285969449495136382746688, 2854495385411919762116571938898990272765493248⟩, ⟨51539607552, 4281743078117879643174857908348485409148239872, 5708990770823839524233143877797980545530986496⟩, ⟨85899345920, 7136238463529799405291429847247475681913733120, 11417981541647679048466287755595961091061972992⟩, ⟨17179869184, 1427247692705959881058285969449495136382746880, 22835963083295358096932575511191922182123945984⟩, ⟨292057776128, 24263210776001317977990861480641417318506692608, 45671926166590716193865151022383844364247891968⟩, ⟨566935683072, 47099173859296676074923436991833339500630638592, 91343852333181432387730302044767688728495783936⟩, ⟨1116691496960, 92771100025887392268788588014217183864878530560, 182687704666362864775460604089535377456991567872⟩, ⟨2216203124736, 184114952359068824656518890058984872593374314496, 365375409332725729550921208179070754913983135744⟩, ⟨4552665333760, 378220638567079368480445781904116211141427855360, 730750818665451459101842416358141509827966271488⟩, ⟨8813272891392, 732178066358157418982900702327591004964349018112, 1461501637330902918203684832716283019655932542976⟩, ⟨17729624997888, 1461501637330902918203684832716283019655932542976, 2923003274661805836407369665432566039311865085952⟩, ⟨35184372088832, 2923003274661805836407369665432566039311865086016, 5846006549323611672814739330865132078623730171904⟩, ⟨105553116266496, 8769009823985417509222108996297698117935595257856, 11692013098647223345629478661730264157247460343808⟩, ⟨175921860444160, 14615016373309029182036848327162830196559325429760, 23384026197294446691258957323460528314494920687616⟩, ⟨35184372088832, 2923003274661805836407369665432566039311865086208, 46768052394588893382517914646921056628989841375232⟩, ⟨598134325510144, 49691055669250699218925284312353622668301706461184, 93536104789177786765035829293842113257979682750464⟩, ⟨1161084278931456, 96459108063839592601443198959274679297291547836416, 187072209578355573530071658587684226515959365500928⟩, ⟨2286984185774080, 189995212853017379366479028253116792555271230586880, 374144419156711147060143317175368453031918731001856⟩, ⟨4538783999459328, 377067422431372952896550686840801019071230596087808, 748288838313422294120286634350736906063837462003712⟩, ⟨9323858603540480, 774595867785378546647952961339630000417644247777280, 1496577676626844588240573268701473812127674924007424⟩, ⟨18049582881570816, 1499500679901506394076980638366906378166986789093376, 2993155353253689176481146537402947624255349848014848⟩] [([0, 1, 2, 3, 4, 5, 6, 7, 8, 9, 10, 11, 12, 13, 14, 15, 16, 17, 18, 19, 20, 21, 22, 23, 24, 25, 26, 27, 28, 29, 30, 31, 32, 33, 34, 35, 36, 38, 39, 40, 41, 42], 37, [38, 39, 40, 41, 42]), ([43, 44, 45, 46, 47, 49, 50, 51, 52, 53], 48, [49, 50, 51, 52, 53])] [54, 55] (by kernel_rfl) (by kernel_rfl) ?_
          refine wpStages_step ?_
          simp only [pick, List.map_cons, List.map_nil, List.getD_cons_zero, List.getD_cons_succ]
          repeat (go_big_quiet_step (first
            | (go_at_call 18; exact Calls.quiet_of (relayBuffered _ _ (1 + c) B1 B2 x2 y2 (RQ _) _ HBU.out))
            | (go_at_call 19; exact quiet_eq (relayDrained _ _ (1 + c) B1 B2 x2 y2 (RQ _) _ _ (HDQ.out _)))
            | (go_at_call 20; exact quiet_eq (refRDrained _ _ (1 + c) x2 y2 (XQ _) _ _ (HDQ.out _)))
            | (go_at_call 8; exact quiet_eq (relayPipe _ _ (1 + c) B1 B2 x2 y2 (RQ _) true B2.p rfl))))
          refine wpQuiet_nil ?_
          intro n0
          simp only [pick, List.map_cons, List.map_nil, List.getD_cons_zero, List.getD_cons_succ]
          have RD := RQ n0
          go_wp2_with (go_at_call 21; (with_reducible refine (pBytes _ B2 (1 + c) y2 RD.up su HSU.out).mono ?_); rintro e w8 ⟨rfl, C8⟩)
          have C8' := ((Ch.refl [] wc).drewN n0).trans C8
          have R8 := R'.ch C8' (by simp)
          have X8 := X'.ch C8' (by simp)
          have y1 : w8.cell? ⟨Q, 1, none⟩ = some (.string su) := by rw [← HSU.out]; exact X8.blk.cell 1
          have y6 : w8.cell? ⟨Q, 6, none⟩ = some (.string sd) := by rw [← HSD.out]; exact X8.blk.cell 6
          refine stagePost_mk ?_ ?_
          · intro o ho
            simp only [pick, List.map_cons, List.map_nil, List.getD_cons_zero, List.getD_cons_succ, List.mem_cons, List.not_mem_nil, or_false] at ho
            rcases ho with rfl | rfl | rfl | rfl | rfl
            all_goals
              refine float_any ?_
              repeat (go_big_quiet_step (fail))
              refine wpQuiet_nil ?_
              rfl
          have RQ8 : ∀ n, relayAt (w8.drewN n) W.heap.size (1 + c) B1 B2 x2 y2 := fun n => R8.heap rfl
          refine wpStages_step ?_
          simp only [pick, List.map_cons, List.map_nil, List.getD_cons_zero, List.getD_cons_succ]
          repeat (go_big_quiet_step ((go_at_call 8; exact quiet_eq (relayPipe _ _ (1 + c) B1 B2 x2 y2 (RQ8 _) false B1.p rfl))))
          refine wpQuiet_nil ?_
          intro n1
          simp only [pick, List.map_cons, List.map_nil, List.getD_cons_zero, List.getD_cons_succ]
          have RE := RQ8 n1
          go_wp2_with (go_at_call 21; (with_reducible refine (pBytes _ B1 (1 + c) x2 RE.dn sd HSD.out).mono ?_); rintro e w9 ⟨rfl, C9⟩)
          have C9' := ((Ch.refl [] w8).drewN n1).trans C9
          have R9 := R8.ch C9' (by simp)
          have X9 := X8.ch C9' (by simp)
          have u1 : w9.cell? ⟨Q, 1, none⟩ = some (.string su) := by rw [← HSU.out]; exact X9.blk.cell 1
          have u6 : w9.cell? ⟨Q, 6, none⟩ = some (.string sd) := by rw [← HSD.out]; exact X9.blk.cell 6
          refine stagePost_mk ?_ ?_
          · intro o ho
            simp only [pick, List.map_cons, List.map_nil, List.getD_cons_zero, List.getD_cons_succ, List.mem_cons, List.not_mem_nil, or_false] at ho
            rcases ho with rfl | rfl | rfl | rfl | rfl
            all_goals
              refine float_any ?_
              repeat (go_big_quiet_step (fail))
              refine wpQuiet_nil ?_
              rfl
          refine wpStages_last ?_
          simp only [pick, List.map_cons, List.map_nil, List.getD_cons_zero, List.getD_cons_succ]
          repeat (go_big_quiet_step (fail))
          refine wpQuiet_nil ?_
          intro n2
          go_wp2_with fail
          have hz8 := C8'.size
          have BE := Below.drewN (Below.ch (Below.ch BN C8' (by simp) BN.size) C9' (by simp) (by have := BN.size; omega)) n2
          go_roundw
          case rel => exact ⟨k + 1, x2, y2, by omega, by go_num, R9.heap rfl, X9.heap rfl, BE⟩
          case measure => simp [intOf]; omega
      · skip
        obtain rfl : B2.p = P := by simpa using HP.out
        clear HP
        go_upto_block 2 with (go_at_call 5; with_reducible refine (genModAs _ _ d HDD.out _ ?_ ?_).mono ?_; omega; omega; rintro e w' ⟨rfl, rfl⟩)
        go_cut [10, 11, 12, 13, 14] (fun _ _ _ f _ wx => f = .bool true ∧ ∃ x y : PD, relayAt wx W.heap.size (1 + c) B1 B2 x y ∧ refR wx Q (1 + c) x y ∧ Below W.heap.size W wx)
        case first =>
          by_cases k3 : d < 3
          · obtain ⟨M, hM⟩ : ∃ M, (if y.cl then 0 else min s.size (1 + c - y.xs.length)) = M := ⟨_, rfl⟩
            have HM := hid hM
            have HS := hid hs
            clear hM hs
            go_wp2_with fail
            refine wp_region_stagesM [⟨0, 2048, 4835703278458516698824704⟩, ⟨0, 1024, 9671406556917033397649408⟩, ⟨2, 9671406556917033397649408, 19342813113834066795298816⟩, ⟨5, 24178516392292583494123520, 38685626227668133590597632⟩, ⟨0, 4096, 77371252455336267181195264⟩, ⟨0, 1024, 154742504910672534362390528⟩, ⟨32, 154742504910672534362390528, 309485009821345068724781056⟩, ⟨88, 386856262276681335905976320, 618970019642690137449562112⟩, ⟨136, 657655645870358271040159744, 1237940039285380274899124224⟩, ⟨511, 1237940039285380274899124224, 8192⟩] [([0, 1, 2, 4, 5, 6], 3, [4, 5, 6]), ([], 7, [])] [8, 9] (by kernel_rfl) (by kernel_rfl) ?_
            refine wpStages_step ?_
            simp only [pick, List.map_cons, List.map_nil, List.getD_cons_zero, List.getD_cons_succ]
            repeat (go_big_quiet_step (fail))
            refine wpQuiet_nil ?_
            intro n0
            simp only [pick, List.map_cons, List.map_nil, List.getD_cons_zero, List.getD_cons_succ]
            have RD : relayAt (w0.drewN n0) W.heap.size (1 + c) B1 B2 x y := R0.heap rfl
            go_wp2_with (go_at_call 9; (with_reducible refine (pWrite _ B2 (1 + c) y RD.up s (by have := HS.out; unfold maxLen; omega) M HM.out).mono ?_); rintro e w2 ⟨rfl, P2, C2⟩)
            have R2 := RD.upCh C2 (by simp <;> omega) P2
            have C2' := ((Ch.refl [B2.g, B2.b] w0).drewN n0).trans C2
            have hz2 := C2'.size
            have J2 := J0.ch C2' (by simp <;> omega)
            have j2 : w2.cell? ⟨wr.heap.size, 2, none⟩ = some (.string s) := J2.cell 2
            have X2 := X0.ch C2' (by simp <;> omega)
            refine stagePost_mk ?_ ?_
            · intro o ho
              simp only [pick, List.map_cons, List.map_nil, List.getD_cons_zero, List.getD_cons_succ, List.mem_cons, List.not_mem_nil, or_false] at ho
              rcases ho with rfl | rfl | rfl
              all_goals
                refine float_any ?_
                repeat (go_big_quiet_step (fail))
                refine wpQuiet_nil ?_
                rfl
            refine wpStages_step ?_
            simp only [pick, List.map_nil]
            refine wpQuiet_nil ?_
            intro n1
            simp only [pick, List.map_cons, List.map_nil, List.getD_cons_zero, List.getD_cons_succ]
            have XD : refR (w2.drewN n1) Q (1 + c) x y := X2.heap rfl
            go_wp2_with (go_at_call 10; (with_reducible refine (rUWrite _ Q (1 + c) x y XD s HS.out M HM.out).mono ?_); rintro e w3 ⟨rfl, X3, C3⟩)
            have C3' := ((Ch.refl [Q] w2).drewN n1).trans C3
            have R3 := R2.ch C3' (by simp <;> omega)
            refine stagePost_mk (by simp [pick]) ?_
            refine wpStages_last ?_
            simp only [pick, List.map_cons, List.map_nil, List.getD_cons_zero, List.getD_cons_succ]
            repeat (go_big_quiet_step (fail))
            refine wpQuiet_nil ?_
            intro n2
            go_wp2_with fail
            have BM := Below.drewN (Below.ch (Below.ch hb0 C2' (by simp <;> omega) hb0.size) C3' (by simp <;> omega) (by have := hb0.size; omega)) n2
            go_meet
            exact ⟨rfl, _, _, R3.heap rfl, X3.heap rfl, BM⟩
          · by_cases k5 : d < 5
            · have m0 : 0 ≤ nn % 25 ∧ nn % 25 ≤ 18446744073709551615 := by omega
              go_wp2_with (first
                | (go_at_call 11; go_must (with_reducible refine (pAddCredit _ B2 (1 + c) y R0.up (nn % 25) m0.1 m0.2).mono ?_); rintro e1 w2 ⟨rfl, P2, C2⟩; have R2 := R0.upCh C2 (by simp <;> omega) P2; have X2 := X0.ch C2 (by simp <;> omega); have J2 := J0.ch C2 (by simp <;> omega); have j3 : w2.cell? ⟨wr.heap.size, 3, none⟩ = some (.int .u64 nn) := J2.cell 3; have hz2 := C2.size)
                | (go_at_call 12; go_must (with_reducible refine (rUAdd _ Q (1 + c) x y X2 (nn % 25) m0.1 m0.2).mono ?_); rintro e1 w3 ⟨rfl, X3, C3⟩; have R3 := R2.ch C3 (by simp <;> omega)))
              have BM := Below.ch (Below.ch hb0 C2 (by simp <;> omega) hb0.size) C3 (by simp <;> omega) (by have := hb0.size; omega)
              go_meet
              exact ⟨rfl, _, _, R3, X3, BM⟩
            · by_cases k6 : d = 5
              · have hd5 : (d == 5) = true := by simp [k6]
                by_cases k7 : nn % 3 = 0
                · have hd7 : (nn % 3 == 0) = true := by simp [k7]
                  have HK := hid k6
                  clear k6
                  have HK7 := hid k7
                  clear k7
                  obtain ⟨E, hE⟩ : ∃ E, (!y.cl) = E := ⟨_, rfl⟩
                  have HE := hid hE
                  clear hE
                  go_wp2_with (first
                    | (go_at_call 13; go_must (with_reducible refine (pCloseWrite _ B2 (1 + c) y R0.up).mono ?_); rw [HE.out]; rintro e1 w2 ⟨rfl, P2, C2⟩; have R2 := R0.upCh C2 (by simp <;> omega) P2; have X2 := X0.ch C2 (by simp <;> omega); have hz2 := C2.size)
                    | (go_at_call 14; go_must (with_reducible refine (rUClose _ Q (1 + c) x y X2 E HE.out).mono ?_); rintro e1 w3 ⟨rfl, X3, C3⟩; have R3 := R2.ch C3 (by simp <;> omega)))
                  have BM := Below.ch (Below.ch hb0 C2 (by simp <;> omega) hb0.size) C3 (by simp <;> omega) (by have := hb0.size; omega)
                  go_meet
                  exact ⟨rfl, _, _, R3, X3, BM⟩
                · have hd7 : (nn % 3 == 0) = false := by simp [k7]
                  have HK := hid k6
                  clear k6
                  go_wp2_with fail
                  go_meet
                  exact ⟨rfl, _, _, R0, X0, hb0⟩
              · have hd5 : (d == 5) = false := by simp [k6]
                obtain ⟨ts, hts⟩ : ∃ z, x.trs false ++ y.trs true = z := ⟨_, rfl⟩
                have HTS := hid hts
                clear hts
                go_wp2_with fail
                refine wp_region_stagesM [⟨0, 64, 1180591620717411303424⟩, ⟨0, 1024, 2361183241434822606848⟩, ⟨2, 2361183241434822606848, 4722366482869645213696⟩, ⟨5, 5902958103587056517120, 9444732965739290427392⟩, ⟨0, 256, 18889465931478580854784⟩, ⟨0, 1024, 37778931862957161709568⟩, ⟨32, 37778931862957161709568, 75557863725914323419136⟩, ⟨88, 94447329657392904273920, 151115727451828646838272⟩, ⟨136, 160560460417567937265664, 302231454903657293676544⟩, ⟨511, 302231454903657293676544, 8192⟩] [([0, 1, 2, 4, 5, 6], 3, [4, 5, 6]), ([], 7, []), ([], 8, [])] [9] (by kernel_rfl) (by kernel_rfl) ?_
                refine wpStages_step ?_
                simp only [pick, List.map_cons, List.map_nil, List.getD_cons_zero, List.getD_cons_succ]
                repeat (go_big_quiet_step (fail))
                refine wpQuiet_nil ?_
                intro n0
                simp only [pick, List.map_cons, List.map_nil, List.getD_cons_zero, List.getD_cons_succ]
                have RD : relayAt (w0.drewN n0) W.heap.size (1 + c) B1 B2 x y := R0.heap rfl
                go_wp2_with (go_at_call 16; (with_reducible refine (relayTransfer _ _ (1 + c) B1 B2 x y RD true _ rfl _ rfl ts (by simpa using HTS.out)).mono ?_); rintro e w2 ⟨A2, k2, c2, rfl, own2, hk2, R2, C2⟩)
                have C2' := ((Ch.refl [B1.p, B1.g, B1.b, B2.p, B2.g, B2.b] w0).drewN n0).trans C2
                have hz2 := C2'.size
                have J2 := J0.ch C2' (by simp <;> omega)
                have j2 : w2.cell? ⟨wr.heap.size, 1, none⟩ = some (.bool true) := J2.cell 1
                have X2 := X0.ch C2' (by simp <;> omega)
                refine stagePost_mk ?_ ?_
                · intro o ho
                  simp only [pick, List.map_cons, List.map_nil, List.getD_cons_zero, List.getD_cons_succ, List.mem_cons, List.not_mem_nil, or_false] at ho
                  rcases ho with rfl | rfl | rfl
                  all_goals
                    refine float_any ?_
                    repeat (go_big_quiet_step (fail))
                    refine wpQuiet_nil ?_
                    rfl
                refine wpStages_step ?_
                simp only [pick, List.map_nil]
                refine wpQuiet_nil ?_
                intro n1
                simp only [pick, List.map_cons, List.map_nil, List.getD_cons_zero, List.getD_cons_succ]
                have XD : refR (w2.drewN n1) Q (1 + c) x y := X2.heap rfl
                go_wp2_with (go_at_call 17; (with_reducible refine (refRTransfer _ Q (1 + c) x y XD true _ rfl _ rfl ts (by simpa using HTS.out)).mono ?_); rintro e w3 ⟨A3, k3', c3, rfl, own3, hk3, X3, C3⟩)
                have C3' := ((Ch.refl [Q] w2).drewN n1).trans C3
                have R3 := R2.ch C3' (by simp <;> omega)
                have hz3 := C3'.size
                refine stagePost_mk (by simp [pick]) ?_
                obtain rfl : k3' = k2 := by have h1 := own2.len; have h2 := own3.len; rw [trsCells_len] at h1 h2; omega
                have r2 : RdT w3 w2.heap.size A2 k3' ts := Rd.ch own2.rd C3' (Nat.le_refl _) (fun g hg hm => by have := own2.blks g hg; simp at this hm; omega)
                have r3 : RdT w3 w3.heap.size A3 k3' ts := own3.rd
                refine wpStages_step ?_
                simp only [pick, List.map_nil]
                refine wpQuiet_nil ?_
                intro n2
                simp only [pick, List.map_cons, List.map_nil, List.getD_cons_zero, List.getD_cons_succ]
                have q2 : RdT (w3.drewN n2) w2.heap.size A2 k3' ts := RdT.heap r2 rfl
                have q3 : RdT (w3.drewN n2) w3.heap.size A3 k3' ts := RdT.heap r3 rfl
                go_wp2_with (go_at_call 15; (with_reducible refine (eqTEqual _ A2 A3 k3' c2 c3 ts _ _ q2 q3 (by simp; omega) (by simp) hk3).mono ?_); rintro e w4 ⟨rfl, C4⟩)
                have C4' := ((Ch.refl [] w3).drewN n2).trans C4
                have R4 := R3.ch C4' (by simp)
                have X4 := X3.ch C4' (by simp)
                refine stagePost_mk (by simp [pick]) ?_
                refine wpStages_last ?_
                simp only [pick, List.map_cons, List.map_nil, List.getD_cons_zero, List.getD_cons_succ]
                repeat (go_big_quiet_step (fail))
                refine wpQuiet_nil ?_
                intro n3
                go_wp2_with fail
                have BM := Below.drewN (Below.ch (Below.ch (Below.ch hb0 C2' (by simp <;> omega) hb0.size) C3' (by simp <;> omega) (by have := hb0.size; omega)) C4' (by simp) (by have := hb0.size; omega)) n3
                go_meet
                exact ⟨rfl, _, _, R4.heap rfl, X4.heap rfl, BM⟩
        case rest =>
          obtain ⟨rfl, x2, y2, R', X', BN⟩ := hcut
          obtain ⟨dq, hdq⟩ : ∃ f : Bool → Bool, ∀ b, (x2.dr && (!b || y2.dr)) = f b := ⟨_, fun _ => rfl⟩
          obtain ⟨su, hsu⟩ : ∃ z, strOfNums y2.xs = z := ⟨_, rfl⟩
          obtain ⟨sd, hsd⟩ : ∃ z, strOfNums x2.xs = z := ⟨_, rfl⟩
          have HDQ := hid hdq
          have HSU := hid hsu
          have HSD := hid hsd
          have HBU : Hid ((x2.xs.length : Int) + y2.xs.length = (su.size : Int) + sd.size) := by show _ = _; rw [← hsu, ← hsd, strOf_size, strOf_size]; omega
          have hsz1 : su.size ≤ 41 := by rw [← hsu, strOf_size]; have := R'.up.lt; omega
          have hsz2 : sd.size ≤ 41 := by rw [← hsd, strOf_size]; have := R'.dn.lt; omega
          have hb0 : (((su.size : Int) + sd.size) != ((su.size : Int) + sd.size)) = false := by simp
          have hb1 : (dq true != dq true) = false := by simp
          have hb2 : (dq false != dq false) = false := by simp
          have z1 : wc.cell? ⟨Q, 1, none⟩ = some (.string su) := by rw [← hsu]; exact X'.blk.cell 1
          have z6 : wc.cell? ⟨Q, 6, none⟩ = some (.string sd) := by rw [← hsd]; exact X'.blk.cell 6
          clear hdq hsu hsd
          have RQ : ∀ n, relayAt (wc.drewN n) W.heap.size (1 + c) B1 B2 x2 y2 := fun n => R'.heap rfl
          have XQ : ∀ n, refR (wc.drewN n) Q (1 + c) x2 y2 := fun n => X'.heap rfl
          go_wp2_with fail
          try simp only [List.append]
          refine wp_region_stagesM [⟨0, 8192, 83076749736557242056487941267521536⟩, ⟨1, 83076749736557242056487941267521536, 166153499473114484112975882535043072⟩, ⟨2, 166153499473114484112975882535043072, 332306998946228968225951765070086144⟩, ⟨4, 332306998946228968225951765070086208, 664613997892457936451903530140172288⟩, ⟨12, 996920996838686904677855295210258432, 1329227995784915872903807060280344576⟩, ⟨4, 332306998946228968225951765070086400, 2658455991569831745807614120560689152⟩, ⟨36, 2990762990516060714033565885630775296, 5316911983139663491615228241121378304⟩, ⟨68, 5649218982085892459841180006191464448, 10633823966279326983230456482242756608⟩, ⟨132, 10966130965225555951456408247312842752, 21267647932558653966460912964485513216⟩, ⟨260, 21599954931504882934686864729555599360, 42535295865117307932921825928971026432⟩, ⟨516, 42867602864063536901147777694041112576, 85070591730234615865843651857942052864⟩, ⟨4, 332306998946228968225951765070086400, 170141183460469231731687303715884105728⟩, ⟨2052, 170473490459415460699913255480954191872, 340282366920938463463374607431768211456⟩, ⟨4100, 340614673919884692431600559196838297600, 680564733841876926926749214863536422912⟩, ⟨8196, 680897040840823155894975166628606509056, 1361129467683753853853498429727072845824⟩, ⟨16388, 1361461774682700082821724381492142931968, 2722258935367507707706996859454145691648⟩, ⟨32772, 2722591242366453936675222811219215777792, 5444517870735015415413993718908291383296⟩, ⟨66564, 5529920769464196260248063322531303522304, 10889035741470030830827987437816582766592⟩, ⟨131092, 10890697276464761975669117196641933197312, 21778071482940061661655974875633165533184⟩, ⟨262148, 21778403789939007890624200827398235619328, 43556142965880123323311949751266331066368⟩, ⟨524304, 43556142965880123323311949751266331066368, 87112285931760246646623899502532662132736⟩, ⟨1048576, 87112285931760246646623899502532662132800, 174224571863520493293247799005065324265472⟩, ⟨3145728, 261336857795280739939871698507597986398208, 348449143727040986586495598010130648530944⟩, ⟨1048576, 87112285931760246646623899502532662132992, 696898287454081973172991196020261297061888⟩, ⟨13631488, 784010573385842219819615095522793959194624, 1393796574908163946345982392040522594123776⟩, ⟨22020096, 1829358004566965179579101889553185904787456, 2787593149816327892691964784081045188247552⟩, ⟨34603008, 2874705435748088139338588683583577850380288, 5575186299632655785383929568162090376495104⟩, ⟨83886080, 5575186299632655785383929568162090376495104, 11150372599265311570767859136324180752990208⟩, ⟨134217728, 11150372599265311570767859136324180752990272, 22300745198530623141535718272648361505980416⟩, ⟨402653184, 33451117797795934712303577408972542258970624, 44601490397061246283071436545296723011960832⟩, ⟨134217728, 11150372599265311570767859136324180752990464, 89202980794122492566142873090593446023921664⟩, ⟨1744830464, 100353353393387804136910732226917626776911872, 178405961588244985132285746181186892047843328⟩, ⟨2818572288, 234157824584571542986125041862807795812794368, 356811923176489970264571492362373784095686656⟩, ⟨4429185024, 367962295775755281835339351498697964848676864, 713623846352979940529142984724747568191373312⟩, ⟨10737418240, 713623846352979940529142984724747568191373312, 1427247692705959881058285969449495136382746624⟩, ⟨17179869184, 1427247692705959881058285969449495136382746688, 2854495385411919762116571938898990272765493248⟩, ⟨51539607552, 4281743078117879643174857908348485409148239872, 5708990770823839524233143877797980545530986496⟩, ⟨85899345920, 7136238463529799405291429847247475681913733120, 11417981541647679048466287755595961091061972992⟩, ⟨17179869184, 1427247692705959881058285969449495136382746880, 22835963083295358096932575511191922182123945984⟩, ⟨292057776128, 24263210776001317977990861480641417318506692608, 45671926166590716193865151022383844364247891968⟩, ⟨566935683072, 47099173859296676074923436991833339500630638592, 91343852333181432387730302044767688728495783936⟩, ⟨1116691496960, 92771100025887392268788588014217183864878530560, 182687704666362864775460604089535377456991567872⟩, ⟨2216203124736, 184114952359068824656518890058984872593374314496, 365375409332725729550921208179070754913983135744⟩, ⟨4552665333760, 378220638567079368480445781904116211141427855360, 730750818665451459101842416358141509827966271488⟩, ⟨8813272891392, 732178066358157418982900702327591004964349018112, 1461501637330902918203684832716283019655932542976⟩, ⟨17729624997888, 1461501637330902918203684832716283019655932542976, 2923003274661805836407369665432566039311865085952⟩, ⟨35184372088832, 2923003274661805836407369665432566039311865086016, 5846006549323611672814739330865132078623730171904⟩, ⟨105553116266496, 8769009823985417509222108996297698117935595257856, 11692013098647223345629478661730264157247460343808⟩, ⟨175921860444160, 14615016373309029182036848327162830196559325429760, 23384026197294446691258957323460528314494920687616⟩, ⟨35184372088832, 2923003274661805836407369665432566039311865086208, 46768052394588893382517914646921056628989841375232⟩, ⟨598134325510144, 49691055669250699218925284312353622668301706461184, 93536104789177786765035829293842113257979682750464⟩, ⟨1161084278931456, 96459108063839592601443198959274679297291547836416, 187072209578355573530071658587684226515959365500928⟩, ⟨2286984185774080, 189995212853017379366479028253116792555271230586880, 374144419156711147060143317175368453031918731001856⟩, ⟨4538783999459328, 377067422431372952896550686840801019071230596087808, 748288838313422294120286634350736906063837462003712⟩, ⟨9323858603540480, 774595867785378546647952961339630000417644247777280, 1496577676626844588240573268701473812127674924007424⟩, ⟨18049582881570816, 1499500679901506394076980638366906378166986789093376, 2993155353253689176481146537402947624255349848014848⟩] [([0, 1, 2, 3, 4, 5, 6, 7, 8, 9, 10, 11, 12, 13, 14, 15, 16, 17, 18, 19, 20, 21, 22, 23, 24, 25, 26, 27, 28, 29, 30, 31, 32, 33, 34, 35, 36, 38, 39, 40, 41, 42], 37, [38, 39, 40, 41, 42]), ([43, 44, 45, 46, 47, 49, 50, 51, 52, 53], 48, [49, 50, 51, 52, 53])] [54, 55] (by kernel_rfl) (by kernel_rfl) ?_
          refine wpStages_step ?_
          simp only [pick, List.map_cons, List.map_nil, List.getD_cons_zero, List.getD_cons_succ]
          repeat (go_big_quiet_step (first
            | (go_at_call 18; exact Calls.quiet_of (relayBuffered _ _ (1 + c) B1 B2 x2 y2 (RQ _) _ HBU.out))
            | (go_at_call 19; exact quiet_eq (relayDrained _ _ (1 + c) B1 B2 x2 y2 (RQ _) _ _ (HDQ.out _)))
            | (go_at_call 20; exact quiet_eq (refRDrained _ _ (1 + c) x2 y2 (XQ _) _ _ (HDQ.out _)))
            | (go_at_call 8; exact quiet_eq (relayPipe _ _ (1 + c) B1 B2 x2 y2 (RQ _) true B2.p rfl))))
          refine wpQuiet_nil ?_
          intro n0
          simp only [pick, List.map_cons, List.map_nil, List.getD_cons_zero, List.getD_cons_succ]
          have RD := RQ n0
          go_wp2_with (go_at_call 21; (with_reducible refine (pBytes _ B2 (1 + c) y2 RD.up su HSU.out).mono ?_); rintro e w8 ⟨rfl, C8⟩)
          have C8' := ((Ch.refl [] wc).drewN n0).trans C8
          have R8 := R'.ch C8' (by simp)
          have X8 := X'.ch C8' (by simp)
          have y1 : w8.cell? ⟨Q, 1, none⟩ = some (.string su) := by rw [← HSU.out]; exact X8.blk.cell 1
          have y6 : w8.cell? ⟨Q, 6, none⟩ = some (.string sd) := by rw [← HSD.out]; exact X8.blk.cell 6
          refine stagePost_mk ?_ ?_
          · intro o ho
            simp only [pick, List.map_cons, List.map_nil, List.getD_cons_zero, List.getD_cons_succ, List.mem_cons, List.not_mem_nil, or_false] at ho
            rcases ho with rfl | rfl | rfl | rfl | rfl
            all_goals
              refine float_any ?_
              repeat (go_big_quiet_step (fail))
              refine wpQuiet_nil ?_
              rfl
          have RQ8 : ∀ n, relayAt (w8.drewN n) W.heap.size (1 + c) B1 B2 x2 y2 := fun n => R8.heap rfl
          refine wpStages_step ?_
          simp only [pick, List.map_cons, List.map_nil, List.getD_cons_zero, List.getD_cons_succ]
          repeat (go_big_quiet_step ((go_at_call 8; exact quiet_eq (relayPipe _ _ (1 + c) B1 B2 x2 y2 (RQ8 _) false B1.p rfl))))
          refine wpQuiet_nil ?_
          intro n1
          simp only [pick, List.map_cons, List.map_nil, List.getD_cons_zero, List.getD_cons_succ]
          have RE := RQ8 n1
          go_wp2_with (go_at_call 21; (with_reducible refine (pBytes _ B1 (1 + c) x2 RE.dn sd HSD.out).mono ?_); rintro e w9 ⟨rfl, C9⟩)
          have C9' := ((Ch.refl [] w8).drewN n1).trans C9
          have R9 := R8.ch C9' (by simp)
          have X9 := X8.ch C9' (by simp)
          have u1 : w9.cell? ⟨Q, 1, none⟩ = some (.string su) := by rw [← HSU.out]; exact X9.blk.cell 1
          have u6 : w9.cell? ⟨Q, 6, none⟩ = some (.string sd) := by rw [← HSD.out]; exact X9.blk.cell 6
          refine stagePost_mk ?_ ?_
          · intro o ho
            simp only [pick, List.map_cons, List.map_nil, List.getD_cons_zero, List.getD_cons_succ, List.mem_cons, List.not_mem_nil, or_false] at ho
            rcases ho with rfl | rfl | rfl | rfl | rfl
            all_goals
              refine float_any ?_
              repeat (go_big_quiet_step (fail))
              refine wpQuiet_nil ?_
              rfl
          refine wpStages_last ?_
          simp only [pick, List.map_cons, List.map_nil, List.getD_cons_zero, List.getD_cons_succ]
          repeat (go_big_quiet_step (fail))
          refine wpQuiet_nil ?_
          intro n2
          go_wp2_with fail
          have hz8 := C8'.size
          have BE := Below.drewN (Below.ch (Below.ch BN C8' (by simp) BN.size) C9' (by simp) (by have := BN.size; omega)) n2
          go_roundw
          case rel => exact ⟨k + 1, x2, y2, by omega, by go_num, R9.heap rfl, X9.heap rfl, BE⟩
          case measure => simp [intOf]; omega
    · by_cases hl1 : k < len
      · have hl2 : decide ((k : Int) < 80) = false := by simp; omega
        go_wp2_with (go_at_call 22; refine (relayAwake _).mono ?_; rintro e w' ⟨rfl, hc1⟩)
        go_ret
        exact ⟨rfl, Below.ch hb hc1 (by simp) hb.size⟩
      · go_wp2_with (go_at_call 22; refine (relayAwake _).mono ?_; rintro e w' ⟨rfl, hc1⟩)
        go_ret
        exact ⟨rfl, Below.ch hb hc1 (by simp) hb.size⟩
end Go.Proofs.Ytlgbijakljohlaa

