/- The walk of RelayDirectionsIndependent (printed by mk_lawrelay3.py). -/
import Derived.Test.YtlgbijakljohlaaLawRelay
import Derived.Test.YtlgbijakljohlaaRelay4
import Derived.Deep.RegionHeld3
import Derived.Deep.DeepCutAuto
namespace Go.Proofs.Ytlgbijakljohlaa
open Go.ChangeShapes Go.WideShapes Go.ChangeAt Go.RowKit

theorem relayS.of {w : World} {q c : Nat} {B1 B2 : PB} {x : PD} (h : relayAt w q c B1 B2 x x) (up : Bool) : ∃ Bz Bu : PB, relayS w q c Bz Bu up x x := by
  cases up
  · exact ⟨B1, B2, ⟨h⟩⟩
  · exact ⟨B2, B1, ⟨h⟩⟩

set_option maxRecDepth 100000 in
set_option maxHeartbeats 16000000 in
theorem relayDirectionsIndependent_came {H : Type} {enc : TypeId × Value → H} (W : World) (args : Array Value) (ds : List (DataW H)) (h : Came enc Try.prog Try.f4 W args ds) :
    Calls Try.prog 4 args W fun e W' => e = .returned (.bool true) ∧ Below W.heap.size W W' := by
  obtain ⟨v0, v1, v2, v3, d0, d1, d2, d3, rfl, a0, a1, a2, a3⟩ := h.args4 rfl
  obtain ⟨n, rfl, hn, hn'⟩ := a0.i64 Try.underlying3
  obtain ⟨A, len, cap, rfl, hlc, hcm, _, hel⟩ := a1.slice Try.underlying22 (by rw [relOp_four]; omega)
  obtain ⟨M, lem, cam, rfl, hlm, hcn, _, hem⟩ := a2.slice Try.underlying22 (by rw [relOp_four]; omega)
  obtain ⟨up, rfl⟩ := a3.bool Try.underlying4
  have HEL := hid hel
  have HEM := hid hem
  unfold maxLen at hcm hcn
  clear h a0 a1 a2 a3 hel hem
  obtain ⟨p0, p1⟩ := modI_rng n 40 (by omega)
  obtain ⟨c, hc⟩ := Int.eq_ofNat_of_zero_le (show 0 ≤ modI n 40 by omega)
  have HC := hid hc
  have hc0 : c < 40 := by omega
  clear p0 p1 hc
  go_enter Try.func4, Try.ntmps4
  go_wp2_with fail
  refine (genModAs _ _ c HC.out _ (by omega) (by omega)).mono ?_
  rintro e w' ⟨rfl, rfl⟩
  go_wp2_with fail
  refine (relayNew _ (1 + c) (by omega) _ (by omega) (by omega)).mono ?_
  rintro e w1 ⟨B1, B2, rfl, R1, C1⟩
  have hz1 := C1.size
  go_wp2_with fail
  refine (relayNew _ (1 + c) (by omega) _ (by omega) (by omega)).mono ?_
  rintro e w2 ⟨B3, B4, rfl, R2, C2⟩
  obtain ⟨Az, Au, SA⟩ := relayS.of R1 up
  obtain ⟨Dz, Du, SB⟩ := relayS.of R2 up
  have la := SA.q_lt
  have lz := SA.zAt.lt
  have lu := SA.uAt.lt
  have lb := SB.q_lt
  have hb2 := (C1.trans C2).nil_below
  have hA : relayS w2 W.heap.size (1 + c) Az Au up _ _ := SA.ch C2 (by intro k hk; simp at hk)
  clear R1 R2 SA C1 C2
  generalize hqb : w1.heap.size = qb at *
  clear hqb
  go_wp2_with (first
    | (go_at_call 8; (with_reducible refine (relayPipeZ _ W.heap.size (1 + c) Az Au up _ _ hA).mono ?_); rintro e w' ⟨rfl, rfl⟩)
    | (go_at_call 8; (with_reducible refine (relayPipeZ _ qb (1 + c) Dz Du up _ _ SB).mono ?_); rintro e w' ⟨rfl, rfl⟩)
    | (go_at_call 8; (with_reducible refine (relayPipeU _ qb (1 + c) Dz Du up _ _ SB (!up) rfl).mono ?_); rintro e w' ⟨rfl, rfl⟩))
  go_loopw [14, 15, 16] (fun one two i wr => ∃ (k : Nat) (z u v : PD) (T : ByteArray), k ≤ 60 ∧ i = .int .i64 k ∧ one = .string T ∧ two = .string T ∧ T.size ≤ 4097 * k ∧ relayS wr W.heap.size (1 + c) Az Au up z u ∧ relayS wr qb (1 + c) Dz Du up z v ∧ Below W.heap.size W wr) (fun _ _ i _ => 60 - (intOf i).toNat)
  case atStart => exact ⟨0, _, _, _, ⟨#[]⟩, by omega, rfl, rfl, rfl, by decide, hA, SB, hb2⟩
  case round =>
    clear hA SB hb2
    obtain ⟨k, z, u, v, T, hk, rfl, rfl, rfl, hT, RA, RB, hb⟩ := hrel
    by_cases hlt : k < len ∧ k < 60
    · obtain ⟨hlt1, hlt2⟩ := hlt
      obtain ⟨b, off, rfl, hbl, hcells⟩ := HEL.out (by omega)
      obtain ⟨cs, hcl, hcell, hcc⟩ := hcells k hlt1
      obtain ⟨kd, vp, s, nn, rfl, hs, hnn⟩ := relOp_cells hcc
      rw [relOp_four] at hcell
      have F2 : Hid (∀ wx, Below W.heap.size W wx → wx.cell? ⟨b, off + k * 4 + 2, none⟩ = some (.string s)) := fun wx hx => ((Below.cells hx).1 _ _ hbl).trans (hcell 2 (by omega))
      have F3 : Hid (∀ wx, Below W.heap.size W wx → wx.cell? ⟨b, off + k * 4 + 3, none⟩ = some (.int .u64 nn)) := fun wx hx => ((Below.cells hx).1 _ _ hbl).trans (hcell 3 (by omega))
      clear hcc hcells hcell hcl
      obtain ⟨MM, hM⟩ : ∃ M, (if z.cl then 0 else min s.size (1 + c - z.xs.length)) = M := ⟨_, rfl⟩
      have HM := hid hM
      have HS := hid hs
      clear hM hs
      have lw := hb.size
      have l1 := RA.zAt.lt
      have l2 := RA.uAt.lt
      have l3 := RB.zAt.lt
      have l4 := RB.uAt.lt
      have f2 := F2.out _ hb
      go_upto_region 10 with fail
      have QA : ∀ n, relayS (wr.drewN n) W.heap.size (1 + c) Az Au up z u := fun n => RA.heap rfl
      refine wp_region_stagesM [⟨0, 1024, 37778931862957161709568⟩, ⟨0, 8, 75557863725914323419136⟩, ⟨3, 113336795588871485128704, 151115727451828646838272⟩, ⟨0, 2, 302231454903657293676544⟩, ⟨0, 65536, 604462909807314587353088⟩, ⟨24, 906694364710971881029632, 1208925819614629174706176⟩, ⟨32, 1208925819614629174706176, 2417851639229258349412352⟩, ⟨64, 2417851639229258349412352, 4835703278458516698824704⟩, ⟨132, 4986819005910345345662976, 9671406556917033397649408⟩, ⟨0, 4096, 19342813113834066795298816⟩, ⟨0, 8, 38685626227668133590597632⟩, ⟨1792, 58028439341502200385896448, 77371252455336267181195264⟩, ⟨0, 2, 154742504910672534362390528⟩, ⟨0, 65536, 309485009821345068724781056⟩, ⟨12288, 464227514732017603087171584, 618970019642690137449562112⟩, ⟨16384, 618970019642690137449562112, 1237940039285380274899124224⟩, ⟨32768, 1237940039285380274899124224, 2475880078570760549798248448⟩, ⟨67584, 2553251331026096816979443712, 4951760157141521099596496896⟩, ⟨131583, 9671406556917033397649408, 131072⟩, ⟨524287, 4951760157141521099596496896, 262144⟩] [([0, 1, 2, 3, 4, 5, 6, 7, 9, 10, 12, 13, 14, 15, 16], 8, [9, 10, 12, 13, 14, 15, 16]), ([11], 17, [])] [18, 19] (by kernel_rfl) (by kernel_rfl) ?_
      refine wpStages_step ?_
      simp only [pick, List.map_cons, List.map_nil, List.getD_cons_zero, List.getD_cons_succ]
      repeat (go_big_quiet_step ((go_at_call 8; exact quiet_eq (relayPipeZ _ W.heap.size (1 + c) Az Au up z u (QA _)))))
      refine wpQuiet_nil ?_
      intro n0
      simp only [pick, List.map_cons, List.map_nil, List.getD_cons_zero, List.getD_cons_succ]
      have RD := QA n0
      go_wp2_with (go_at_call 9; (with_reducible refine (pWrite _ Az (1 + c) z RD.zAt s (by have := HS.out; unfold maxLen; omega) MM HM.out).mono ?_); rintro e w2 ⟨rfl, P2, C2⟩)
      have RA2 := RD.zCh C2 (by simp <;> omega) P2
      have C2' := ((Ch.refl [Az.g, Az.b] wr).drewN n0).trans C2
      have RB2 := RB.ch C2' (by intro k hk; simp at hk; omega)
      have K2 := C2'.size
      have b2 := Below.ch hb C2' (by simp <;> omega) (by omega)
      have f2 := F2.out _ b2
      refine stagePost_mk ?_ ?_
      · intro o ho
        simp only [pick, List.map_cons, List.map_nil, List.getD_cons_zero, List.getD_cons_succ, List.mem_cons, List.not_mem_nil, or_false] at ho
        rcases ho with rfl | rfl | rfl | rfl | rfl | rfl | rfl
        all_goals
          refine float_any ?_
          repeat (go_big_quiet_step (fail))
          refine wpQuiet_nil ?_
          rfl
      have QB : ∀ n, relayS (w2.drewN n) qb (1 + c) Dz Du up z v := fun n => RB2.heap rfl
      refine wpStages_step ?_
      simp only [pick, List.map_cons, List.map_nil, List.getD_cons_zero, List.getD_cons_succ]
      repeat (go_big_quiet_step ((go_at_call 8; exact quiet_eq (relayPipeZ _ qb (1 + c) Dz Du up z v (QB _)))))
      refine wpQuiet_nil ?_
      intro n1
      simp only [pick, List.map_cons, List.map_nil, List.getD_cons_zero, List.getD_cons_succ]
      have RE := QB n1
      go_wp2_with (go_at_call 9; (with_reducible refine (pWrite _ Dz (1 + c) z RE.zAt s (by have := HS.out; unfold maxLen; omega) MM HM.out).mono ?_); rintro e w3 ⟨rfl, P3, C3⟩)
      have RB3 := RE.zCh C3 (by simp <;> omega) P3
      have C3' := ((Ch.refl [Dz.g, Dz.b] w2).drewN n1).trans C3
      have RA3 := RA2.ch C3' (by intro k hk; simp at hk; omega)
      have K3 := C3'.size
      have b3 := Below.ch b2 C3' (by simp <;> omega) (by omega)
      refine stagePost_mk (by simp [pick]) ?_
      refine wpStages_last ?_
      simp only [pick, List.map_cons, List.map_nil, List.getD_cons_zero, List.getD_cons_succ]
      repeat (go_big_quiet_step (fail))
      refine wpQuiet_nil ?_
      intro n2
      obtain ⟨z2, RA4, RB4⟩ : ∃ z2 : PD, relayS (w3.drewN n2) W.heap.size (1 + c) Az Au up z2 u ∧ relayS (w3.drewN n2) qb (1 + c) Dz Du up z2 v := ⟨_, RA3.heap rfl, RB3.heap rfl⟩
      have b4 := Below.drewN b3 n2
      have K4 : (w3.drewN n2).heap.size = w3.heap.size := rfl
      generalize hw4 : w3.drewN n2 = w4 at RA4 RB4 b4 K4 ⊢
      clear hw4 RA RB RA2 RB2 RA3 RB3 RD RE P2 P3 C2 C3 C2' C3' QA QB hb b2 b3 f2 HM HS
      have m0 : 0 ≤ nn % 20 ∧ nn % 20 ≤ 18446744073709551615 := by omega
      have f3 := F3.out _ b4
      go_wp2_with fail
      refine wp_region_stagesM [⟨0, 1024, 9903520314283042199192993792⟩, ⟨0, 8, 19807040628566084398385987584⟩, ⟨3, 29710560942849126597578981376, 39614081257132168796771975168⟩, ⟨0, 2, 79228162514264337593543950336⟩, ⟨0, 65536, 158456325028528675187087900672⟩, ⟨24, 237684487542793012780631851008, 316912650057057350374175801344⟩, ⟨32, 316912650057057350374175801344, 633825300114114700748351602688⟩, ⟨64, 633825300114114700748351602688, 1267650600228229401496703205376⟩, ⟨128, 1267650600228229401496703205376, 2535301200456458802993406410752⟩, ⟨260, 2574915281713590971790178385920, 5070602400912917605986812821504⟩] [([0, 1, 2, 3, 4, 5, 6, 7, 8], 9, [])] [] (by kernel_rfl) (by kernel_rfl) ?_
      have QA : ∀ n, relayS (w4.drewN n) W.heap.size (1 + c) Az Au up z2 u := fun n => RA4.heap rfl
      refine wpStages_step ?_
      simp only [pick, List.map_cons, List.map_nil, List.getD_cons_zero, List.getD_cons_succ]
      repeat (go_big_quiet_step ((go_at_call 8; exact quiet_eq (relayPipeZ _ W.heap.size (1 + c) Az Au up z2 u (QA _)))))
      refine wpQuiet_nil ?_
      intro n0
      simp only [pick, List.map_cons, List.map_nil, List.getD_cons_zero, List.getD_cons_succ]
      have RD := QA n0
      go_wp2_with (go_at_call 11; (with_reducible refine (pAddCredit _ Az (1 + c) z2 RD.zAt (nn % 20) m0.1 m0.2).mono ?_); rintro e w5 ⟨rfl, P5, C5⟩)
      have RA5 := RD.zCh C5 (by simp <;> omega) P5
      have C5' := ((Ch.refl [Az.p] w4).drewN n0).trans C5
      have RB5 := RB4.ch C5' (by intro k hk; simp at hk; omega)
      have K5 := C5'.size
      have b5 := Below.ch b4 C5' (by simp <;> omega) (by omega)
      refine stagePost_mk (by simp [pick]) ?_
      refine wpStages_last ?_
      simp only [pick, List.map_nil]
      refine wpQuiet_nil ?_
      intro n1
      obtain ⟨z3, hz3⟩ : ∃ z3 : PD, (⟨z2.xs, addT z2.cr (nn % 20), z2.cl, z2.dr⟩ : PD) = z3 := ⟨_, rfl⟩
      rw [hz3] at RA5
      have RA6 : relayS (w5.drewN n1) W.heap.size (1 + c) Az Au up z3 u := RA5.heap rfl
      have RB6 : relayS (w5.drewN n1) qb (1 + c) Dz Du up z2 v := RB5.heap rfl
      have b6 := Below.drewN b5 n1
      have K6 : (w5.drewN n1).heap.size = w5.heap.size := rfl
      generalize hw6 : w5.drewN n1 = w6 at RA6 RB6 b6 K6 ⊢
      clear hw6 RA4 RB4 RA5 RB5 RD P5 C5 C5' QA b4 b5 f3
      have f3 := F3.out _ b6
      go_wp2_with fail
      refine wp_region_stagesM [⟨0, 4096, 10141204801825835211973625643008⟩, ⟨0, 8, 20282409603651670423947251286016⟩, ⟨3, 30423614405477505635920876929024, 40564819207303340847894502572032⟩, ⟨0, 2, 81129638414606681695789005144064⟩, ⟨0, 65536, 162259276829213363391578010288128⟩, ⟨24, 243388915243820045087367015432192, 324518553658426726783156020576256⟩, ⟨32, 324518553658426726783156020576256, 649037107316853453566312041152512⟩, ⟨64, 649037107316853453566312041152512, 1298074214633706907132624082305024⟩, ⟨128, 1298074214633706907132624082305024, 2596148429267413814265248164610048⟩, ⟨260, 2636713248474717155113142667182080, 5192296858534827628530496329220096⟩] [([0, 1, 2, 3, 4, 5, 6, 7, 8], 9, [])] [] (by kernel_rfl) (by kernel_rfl) ?_
      have QA : ∀ n, relayS (w6.drewN n) qb (1 + c) Dz Du up z2 v := fun n => RB6.heap rfl
      refine wpStages_step ?_
      simp only [pick, List.map_cons, List.map_nil, List.getD_cons_zero, List.getD_cons_succ]
      repeat (go_big_quiet_step ((go_at_call 8; exact quiet_eq (relayPipeZ _ qb (1 + c) Dz Du up z2 v (QA _)))))
      refine wpQuiet_nil ?_
      intro n0
      simp only [pick, List.map_cons, List.map_nil, List.getD_cons_zero, List.getD_cons_succ]
      have RD := QA n0
      go_wp2_with (go_at_call 11; (with_reducible refine (pAddCredit _ Dz (1 + c) z2 RD.zAt (nn % 20) m0.1 m0.2).mono ?_); rintro e w7 ⟨rfl, P7, C7⟩)
      have RB7 := RD.zCh C7 (by simp <;> omega) P7
      have C7' := ((Ch.refl [Dz.p] w6).drewN n0).trans C7
      have RA7 := RA6.ch C7' (by intro k hk; simp at hk; omega)
      have K7 := C7'.size
      have b7 := Below.ch b6 C7' (by simp <;> omega) (by omega)
      refine stagePost_mk (by simp [pick]) ?_
      refine wpStages_last ?_
      simp only [pick, List.map_nil]
      refine wpQuiet_nil ?_
      intro n1
      rw [hz3] at RB7
      have RA8 : relayS (w7.drewN n1) W.heap.size (1 + c) Az Au up z3 u := RA7.heap rfl
      have RB8 : relayS (w7.drewN n1) qb (1 + c) Dz Du up z3 v := RB7.heap rfl
      have b8 := Below.drewN b7 n1
      have K8 : (w7.drewN n1).heap.size = w7.heap.size := rfl
      generalize hw8 : w7.drewN n1 = w8 at RA8 RB8 b8 K8 ⊢
      clear hw8 RA6 RB6 RA7 RB7 RD P7 C7 C7' QA b6 b7 f3 hz3
      go_upto_if 116 with fail
      go_cut [] (fun wx => ∃ v1 : PD, relayS wx W.heap.size (1 + c) Az Au up z3 u ∧ relayS wx qb (1 + c) Dz Du up z3 v1 ∧ Below W.heap.size W wx)
      case first =>
        by_cases hm : k < lem
        · obtain ⟨bm, ofm, rfl, hbm, hcellm⟩ := HEM.out (by omega)
          obtain ⟨cs, hcl, hcell, hcc⟩ := hcellm k hm
          obtain ⟨kd2, vp2, sm, nm, rfl, hsm, hnm⟩ := relOp_cells hcc
          rw [relOp_four] at hcell
          have G2 : Hid (∀ wx, Below W.heap.size W wx → wx.cell? ⟨bm, ofm + k * 4 + 2, none⟩ = some (.string sm)) := fun wx hx => ((Below.cells hx).1 _ _ hbm).trans (hcell 2 (by omega))
          have G3 : Hid (∀ wx, Below W.heap.size W wx → wx.cell? ⟨bm, ofm + k * 4 + 3, none⟩ = some (.int .u64 nm)) := fun wx hx => ((Below.cells hx).1 _ _ hbm).trans (hcell 3 (by omega))
          clear hcc hcellm hcell hcl
          obtain ⟨MV, hMV⟩ : ∃ M, (if v.cl then 0 else min sm.size (1 + c - v.xs.length)) = M := ⟨_, rfl⟩
          have HMV := hid hMV
          have HSM := hid hsm
          clear hMV hsm
          have g2 := G2.out _ b8
          have m1 : 0 ≤ nm % 20 ∧ nm % 20 ≤ 18446744073709551615 := by omega
          go_wp2_with fail
          refine wp_region_stagesM [⟨0, 4096, 166153499473114484112975882535043072⟩, ⟨0, 8, 332306998946228968225951765070086144⟩, ⟨2, 332306998946228968225951765070086144, 664613997892457936451903530140172288⟩, ⟨5, 830767497365572420564879412675215360, 1329227995784915872903807060280344576⟩, ⟨0, 4, 2658455991569831745807614120560689152⟩, ⟨0, 65536, 5316911983139663491615228241121378304⟩, ⟨48, 7975367974709495237422842361682067456, 10633823966279326983230456482242756608⟩, ⟨64, 10633823966279326983230456482242756608, 21267647932558653966460912964485513216⟩, ⟨128, 21267647932558653966460912964485513216, 42535295865117307932921825928971026432⟩, ⟨264, 43864523860902223805825632989251371008, 85070591730234615865843651857942052864⟩] [([0, 1, 2, 3, 4, 5, 6, 7, 8], 9, [])] [] (by kernel_rfl) (by kernel_rfl) ?_
          have QB : ∀ n, relayS (w8.drewN n) qb (1 + c) Dz Du up z3 v := fun n => RB8.heap rfl
          refine wpStages_step ?_
          simp only [pick, List.map_cons, List.map_nil, List.getD_cons_zero, List.getD_cons_succ]
          repeat (go_big_quiet_step ((go_at_call 8; exact quiet_eq (relayPipeU _ qb (1 + c) Dz Du up z3 v (QB _) (!up) rfl))))
          refine wpQuiet_nil ?_
          intro n0
          simp only [pick, List.map_cons, List.map_nil, List.getD_cons_zero, List.getD_cons_succ]
          have RD := QB n0
          go_wp2_with (go_at_call 9; (with_reducible refine (pWrite _ Du (1 + c) v RD.uAt sm (by have := HSM.out; unfold maxLen; omega) MV HMV.out).mono ?_); rintro e w9 ⟨rfl, P9, C9⟩)
          have RB9 := RD.uCh C9 (by simp <;> omega) P9
          have C9' := ((Ch.refl [Du.g, Du.b] w8).drewN n0).trans C9
          have RA9 := RA8.ch C9' (by intro k hk; simp at hk; omega)
          have K9 := C9'.size
          have b9 := Below.ch b8 C9' (by simp <;> omega) (by omega)
          refine stagePost_mk (by simp [pick]) ?_
          refine wpStages_last ?_
          simp only [pick, List.map_nil]
          refine wpQuiet_nil ?_
          intro n1
          obtain ⟨v2, RB10, RA10⟩ : ∃ v2 : PD, relayS (w9.drewN n1) qb (1 + c) Dz Du up z3 v2 ∧ relayS (w9.drewN n1) W.heap.size (1 + c) Az Au up z3 u := ⟨_, RB9.heap rfl, RA9.heap rfl⟩
          have b10 := Below.drewN b9 n1
          have K10 : (w9.drewN n1).heap.size = w9.heap.size := rfl
          generalize hw10 : w9.drewN n1 = w10 at RA10 RB10 b10 K10 ⊢
          clear hw10 RA8 RB8 RA9 RB9 RD P9 C9 C9' QB b8 b9 g2 HMV HSM
          have g3 := G3.out _ b10
          go_wp2_with fail
          refine wp_region_stagesM [⟨0, 4096, 170141183460469231731687303715884105728⟩, ⟨0, 8, 340282366920938463463374607431768211456⟩, ⟨2, 340282366920938463463374607431768211456, 680564733841876926926749214863536422912⟩, ⟨5, 850705917302346158658436518579420528640, 1361129467683753853853498429727072845824⟩, ⟨0, 4, 2722258935367507707706996859454145691648⟩, ⟨0, 65536, 5444517870735015415413993718908291383296⟩, ⟨48, 8166776806102523123120990578362437074944, 10889035741470030830827987437816582766592⟩, ⟨64, 10889035741470030830827987437816582766592, 21778071482940061661655974875633165533184⟩, ⟨128, 21778071482940061661655974875633165533184, 43556142965880123323311949751266331066368⟩, ⟨256, 43556142965880123323311949751266331066368, 87112285931760246646623899502532662132736⟩, ⟨520, 88473415399444000500477397932259734978560, 174224571863520493293247799005065324265472⟩] [([0, 1, 2, 3, 4, 5, 6, 7, 8, 9], 10, [])] [] (by kernel_rfl) (by kernel_rfl) ?_
          have QC : ∀ n, relayS (w10.drewN n) qb (1 + c) Dz Du up z3 v2 := fun n => RB10.heap rfl
          refine wpStages_step ?_
          simp only [pick, List.map_cons, List.map_nil, List.getD_cons_zero, List.getD_cons_succ]
          repeat (go_big_quiet_step ((go_at_call 8; exact quiet_eq (relayPipeU _ qb (1 + c) Dz Du up z3 v2 (QC _) (!up) rfl))))
          refine wpQuiet_nil ?_
          intro n2
          simp only [pick, List.map_cons, List.map_nil, List.getD_cons_zero, List.getD_cons_succ]
          have RE := QC n2
          go_wp2_with (go_at_call 11; (with_reducible refine (pAddCredit _ Du (1 + c) v2 RE.uAt (nm % 20) m1.1 m1.2).mono ?_); rintro e w11 ⟨rfl, P11, C11⟩)
          have RB11 := RE.uCh C11 (by simp <;> omega) P11
          have C11' := ((Ch.refl [Du.p] w10).drewN n2).trans C11
          have RA11 := RA10.ch C11' (by intro k hk; simp at hk; omega)
          have K11 := C11'.size
          have b11 := Below.ch b10 C11' (by simp <;> omega) (by omega)
          refine stagePost_mk (by simp [pick]) ?_
          refine wpStages_last ?_
          simp only [pick, List.map_nil]
          refine wpQuiet_nil ?_
          intro n3
          obtain ⟨v3, RB12, RA12⟩ : ∃ v3 : PD, relayS (w11.drewN n3) qb (1 + c) Dz Du up z3 v3 ∧ relayS (w11.drewN n3) W.heap.size (1 + c) Az Au up z3 u := ⟨_, RB11.heap rfl, RA11.heap rfl⟩
          have b12 := Below.drewN b11 n3
          have K12 : (w11.drewN n3).heap.size = w11.heap.size := rfl
          generalize hw12 : w11.drewN n3 = w12 at RA12 RB12 b12 K12 ⊢
          clear hw12 RA10 RB10 RA11 RB11 RE P11 C11 C11' QC b10 b11 g3
          have g3 := G3.out _ b12
          by_cases k7 : nm % 7 = 0
          · have hd7 : (nm % 7 == 0) = true := by simp [k7]
            have HK7 := hid k7
            clear k7
            go_wp2_with (first
              | (go_at_call 8; go_must ((with_reducible refine (relayPipeU _ qb (1 + c) Dz Du up z3 v3 RB12 (!up) rfl).mono ?_); rintro e w' ⟨rfl, rfl⟩))
              | (go_at_call 13; go_must ((with_reducible refine (pCloseWrite _ Du (1 + c) v3 RB12.uAt).mono ?_); rintro e w13 ⟨rfl, P13, C13⟩)))
            go_meet
            exact ⟨_, RA12.ch C13 (by intro k hk; simp at hk; omega), RB12.uCh C13 (by simp <;> omega) P13, Below.ch b12 C13 (by simp <;> omega) (by omega)⟩
          · have hd7 : (nm % 7 == 0) = false := by simp [k7]
            go_wp2_with fail
            go_meet
            exact ⟨v3, RA12, RB12, b12⟩
        · go_wp2_with fail
          go_meet
          exact ⟨v, RA8, RB8, b8⟩
      case rest =>
        obtain ⟨v1, RA9, RB9, b9⟩ := hcut
        obtain ⟨z4, hz4⟩ : ∃ z4, z3.rd = z4 := ⟨_, rfl⟩
        obtain ⟨S, hS⟩ : ∃ S, wrL up (z3.trs up) ⟨#[]⟩ = S := ⟨_, rfl⟩
        have hSs : S.size ≤ 4097 := by rw [← hS]; exact wrL_size up z3 (by have := RA9.zAt.lt; omega)
        have HZ4 := hid hz4
        have HSW := hid hS
        obtain ⟨Y, hY⟩ : ∃ Y, strOfNums z4.xs = Y := ⟨_, rfl⟩
        have HY := hid hY
        have HZ4' := HZ4
        clear hz4 hS hY
        have K9 := b9.size
        have l1 := RA9.zAt.lt
        have l2 := RA9.uAt.lt
        have l3 := RB9.zAt.lt
        have l4 := RB9.uAt.lt
        clear RA8 RB8 b8 F2 F3
        go_wp2_with (first
          | (go_at_call 21; ((with_reducible refine (pBytes _ Dz (1 + c) z4 RB12.zAt Y HY.out).mono ?_); rintro e w13 ⟨rfl, C13⟩; have RA13 := RA12.ch C13 (by intro k hk; simp at hk); have RB13 := RB12.ch C13 (by intro k hk; simp at hk); have b13 := Below.ch b12 C13 (by simp) (by omega)))
          | (go_at_call 8; ((with_reducible refine (relayPipeZ _ qb (1 + c) Dz Du up z4 _ RB12).mono ?_); rintro e w' ⟨rfl, rfl⟩))
          | (go_at_call 21; ((with_reducible refine (pBytes _ Az (1 + c) z4 RA11.zAt Y HY.out).mono ?_); rintro e w12 ⟨rfl, C12⟩; have RA12 := RA11.ch C12 (by intro k hk; simp at hk); have RB12 := RB11.ch C12 (by intro k hk; simp at hk); have K12 := C12.size; have b12 := Below.ch b11 C12 (by simp) (by omega)))
          | (go_at_call 8; ((with_reducible refine (relayPipeZ _ W.heap.size (1 + c) Az Au up z4 _ RA11).mono ?_); rintro e w' ⟨rfl, rfl⟩))
          | (go_at_call 23; ((with_reducible refine (relWritten _ A3 k3 c3 _ ts3 r3 up S hw3 hsm3 hk3).mono ?_); rintro e w' ⟨rfl, rfl⟩))
          | (go_at_call 16; ((with_reducible refine (relayTransferS _ qb (1 + c) Dz Du up z3 v1 RB10 z4 HZ4.out S HSW.out).mono ?_); rintro e w11 ⟨A3, k3, c3, ts3, v2, rfl, r3, hw3, hsm3, hk3, RB11, C11⟩; have RA11 := RA10.ch C11 (by intro k hk; simp at hk; omega); have K11 := C11.size; have b11 := Below.ch b10 C11 (by simp <;> omega) (by omega)))
          | (go_at_call 23; ((with_reducible refine (relWritten _ A2 k2 c2 _ ts2 r2 up S hw2 hsm2 hk2).mono ?_); rintro e w' ⟨rfl, rfl⟩))
          | (go_at_call 16; ((with_reducible refine (relayTransferS _ W.heap.size (1 + c) Az Au up z3 u RA9 z4 HZ4.out S HSW.out).mono ?_); rintro e w10 ⟨A2, k2, c2, ts2, u2, rfl, r2, hw2, hsm2, hk2, RA10, C10⟩; have RB10 := RB9.ch C10 (by intro k hk; simp at hk; omega); have K10 := C10.size; have b10 := Below.ch b9 C10 (by simp <;> omega) (by omega))))
        go_roundw
        case rel => exact ⟨k + 1, z4, u2, v2, T ++ S, by omega, by go_num, rfl, rfl, by rw [ByteArray.size_append]; omega, RA13, RB13, b13⟩
        case measure => simp [intOf]; omega
    · by_cases hl1 : k < len
      · have hl2 : decide ((k : Int) < 60) = false := by simp; omega
        go_wp2_with (go_at_call 22; refine (relayAwake _).mono ?_; rintro e w' ⟨rfl, hc1⟩)
        go_ret
        exact ⟨rfl, Below.ch hb hc1 (by simp) hb.size⟩
      · go_wp2_with (go_at_call 22; refine (relayAwake _).mono ?_; rintro e w' ⟨rfl, hc1⟩)
        go_ret
        exact ⟨rfl, Below.ch hb hc1 (by simp) hb.size⟩
end Go.Proofs.Ytlgbijakljohlaa
