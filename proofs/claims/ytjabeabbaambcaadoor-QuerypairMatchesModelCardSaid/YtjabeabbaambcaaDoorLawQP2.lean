/- The walk of QuerypairMatchesModel (printed by mk_lawqp2.py). -/
import Derived.Test.YtjabeabbaambcaaDoorQM
import Derived.Test.YtjabeabbaambcaaDoorArgsA
import Derived.Test.YtjabeabbaambcaaDoorShellD
import Derived.Test.YtjabeabbaambcaaDoorStages3
import Derived.Test.YtjabeabbaambcaaDoorRows
import Derived.Deep.DeepCutAuto
import Derived.Deep.CutRange
namespace Go.Proofs.YtjabeabbaambcaaDoor
open Go.ChangeShapes Go.WideShapes Go.ChangeAt Go.RowKit

theorem genModAs (v n r : Int) (hr : modI v n = r) (w : World) (h0 : 0 < n) (h1 : n ≤ 9223372036854775807) :
    Calls Tryd.prog 14 #[.int .i64 v, .int .i64 n] w fun e w' => e = .returned (.int .i64 r) ∧ w = w' := by
  subst hr; exact genMod v n w h0 h1
/-- A slice of addresses, as an argument. -/
theorem Cl.addrs {H : Type} {enc : TypeId × Value → H} {W : World} {cs : List Value} (h : Cl enc Tryd.prog W 22 cs) :
    ∃ A len cap, ∃ l : AL, cs = [.slice A len cap] ∧ len ≤ cap ∧ cap ≤ 8289722895955 ∧ Rd W W.heap.size 17 A len (l.flatMap adrC) ∧ l.length = len ∧ ∀ x ∈ l, GoodA x.2 := by
  obtain ⟨A, len, cap, l, h1, h2, h3, h4, h5, h6, h7⟩ := h.rows (f := adrC) (G := fun x => GoodA x.2) (size := 17) Tryd.underlying22 (by kernel_rfl) (by omega) (fun c hc => by
    obtain ⟨six, bs, rfl, hg⟩ := hc.addr
    exact ⟨(six, bs), rfl, hg⟩) (fun x hx => adr_len hx.1)
  rw [show Tryd.prog.bytesOf 29 = 17 by kernel_rfl] at h4
  exact ⟨A, len, cap, l, h1, h2, by omega, h5, h6, h7⟩
theorem someL_good {l : AL} (h : ∀ x ∈ l, GoodA x.2) (k : Nat) : ∀ x ∈ someL (l.take k), GoodA x.2 := by
  intro x hx
  obtain ⟨y, hy, rfl⟩ := List.mem_map.1 hx
  exact someA_good (h y (List.mem_of_mem_take hy))
structure OpD where
  kd : Int
  now : Int
  v : Bool
  A : Option Addr
  n : Nat
  c : Nat
  l : AL
def opC (o : OpD) : List Value := [.int .i64 o.kd, .int .u64 o.now, .bool o.v, .slice o.A o.n o.c]
def opG (W : World) (o : OpD) : Prop := (0 ≤ o.now ∧ o.now ≤ 18446744073709551615) ∧ o.n ≤ 8289722895955 ∧ Rd W W.heap.size 17 o.A o.n (o.l.flatMap adrC) ∧ ∀ x ∈ o.l, GoodA x.2
theorem op_four : Tryd.prog.cellsOf 64 = 4 := by kernel_rfl
theorem op_cells {H : Type} {enc : TypeId × Value → H} {W : World} {c : List Value} (h : Cl enc Tryd.prog W 64 c) : ∃ o : OpD, c = opC o ∧ opG W o := by
  have hl := (h.struct Tryd.underlying64).1
  rw [op_four] at hl
  obtain ⟨kd, k0, _⟩ := (h.field Tryd.underlying64 0 3 0 1 rfl (by kernel_rfl)).i64 Tryd.underlying3
  obtain ⟨now, n0, n1⟩ := (h.field Tryd.underlying64 1 25 1 1 rfl (by kernel_rfl)).u64 Tryd.underlying25
  obtain ⟨v, v0⟩ := (h.field Tryd.underlying64 2 4 2 1 rfl (by kernel_rfl)).bool Tryd.underlying4
  obtain ⟨A, len, cap, l, s0, s1, s2, s3, _, s5⟩ := (h.field Tryd.underlying64 3 22 3 1 rfl (by kernel_rfl)).addrs
  refine ⟨⟨kd, now, v, A, len, cap, l⟩, ?_, n1, by simp only; omega, s3, s5⟩
  match c, hl with
  | [x, y, z, u], _ => simp at k0 n0 v0 s0; rw [k0, n0, v0, s0]; rfl
/-- The two pairs, both of one state. -/
structure Sim (W w : World) (p q : Nat) (x : QP) (F G : List Nat) : Prop where
  P : PF false w p x F
  X : PF true w q x G
  ap : ∀ g ∈ F, g ∉ G
  lF : ∀ g ∈ F, W.heap.size ≤ g
  lG : ∀ g ∈ G, W.heap.size ≤ g
  wf : x.wf
  ch : Ch [] W w
section
variable {W w w' : World} {p q : Nat} {x : QP} {F G : List Nat}
theorem Sim.nil (h : Sim W w p q x F G) (hc : Ch [] w w') : Sim W w' p q x F G := ⟨h.P.nil hc, h.X.nil hc, h.ap, h.lF, h.lG, h.wf, h.ch.trans hc⟩
theorem Sim.mid {S : List Nat} {w1 w2 : World} (h : Sim W w p q x F G) (hS : ∀ g ∈ S, g ∈ F) (c1 : Ch S w w1) (c2 : Ch [] w1 w2) : PF true w2 q x G :=
  (h.X.ch c1 fun g hg hs => h.ap g (hS g hs) hg).nil c2
theorem Sim.both {w1 w2 w3 : World} {x' : QP} {F' G' : List Nat} (S : Sim W w p q x F G) (c1 : Ch F w w1) (P1 : PF false w1 p x' F') (hF : ∀ g ∈ F', g ∈ F ∨ w.heap.size ≤ g) (c2 : Ch [] w1 w2) (c3 : Ch G w2 w3) (X3 : PF true w3 q x' G') (hG : ∀ g ∈ G', g ∈ G ∨ w2.heap.size ≤ g) (hw : x'.wf) : Sim W w3 p q x' F' G' := by
  have s0 := S.ch.size
  have s1 := c1.size
  have s2 := c2.size
  have hFG : ∀ g ∈ F', g ∉ G := fun g hg hg' => by
    rcases hF g hg with h | h
    · exact S.ap g h hg'
    · have := (S.X.lt g hg').2; omega
  refine ⟨(P1.nil c2).ch c3 hFG, X3, fun g hg hg' => ?_, fun g hg => ?_, fun g hg => ?_, hw, ((S.ch.step c1 (fun i hi => .inr (S.lF i hi))).trans c2).step c3 (fun i hi => .inr (S.lG i hi))⟩
  · rcases hG g hg' with h | h
    · exact hFG g hg h
    · have := (P1.lt g hg).2; omega
  · rcases hF g hg with h | h
    · exact S.lF g h
    · omega
  · rcases hG g hg with h | h
    · exact S.lG g h
    · omega
theorem qpCompleteE (P : PF false w p x F) {b : Bool} (hb : (x.an0 && x.an1) = b) : Calls Tryd.prog 41 #[.pointer (some ⟨p, 0, none⟩)] w fun e w' => e = .returned (.bool b) ∧ w = w' := by
  obtain ⟨A0, c0, A1, c1, hP, rfl⟩ := P
  subst hb
  obtain ⟨d, can, an0, an1, at0, at1, l0, l1⟩ := x
  have e2 : w.cell? ⟨p, 2, none⟩ = some (.bool an0) := hP.blk.cell 2
  have e5 : w.cell? ⟨p, 5, none⟩ = some (.bool an1) := hP.blk.cell 5
  clear hP
  cases an0
  all_goals
    go_enter Tryd.func41, Tryd.ntmps41
    go_wp2_with fail
    go_ret
    exact ⟨rfl, rfl⟩
theorem rpCompleteE (P : PF true w p x F) {b : Bool} (hb : (x.an0 && x.an1) = b) : Calls Tryd.prog 42 #[.pointer (some ⟨p, 0, none⟩)] w fun e w' => e = .returned (.bool b) ∧ w = w' := by
  obtain ⟨A0, c0, A1, c1, hP, rfl⟩ := P
  subst hb
  obtain ⟨d, can, an0, an1, at0, at1, l0, l1⟩ := x
  have e2 : w.cell? ⟨p, 2, none⟩ = some (.bool an0) := hP.blk.cell 2
  have e5 : w.cell? ⟨p, 3, none⟩ = some (.bool an1) := hP.blk.cell 3
  clear hP
  cases an0
  all_goals
    go_enter Tryd.func42, Tryd.ntmps42
    go_wp2_with fail
    go_ret
    exact ⟨rfl, rfl⟩
theorem PF.refCells (h : PF true w q x G) : ∃ B0 e0 B1 e1, ∀ w', Ch [] w w' → w'.cell? ⟨q, 6, none⟩ = some (.slice B0 (x.lst false).length e0) ∧ w'.cell? ⟨q, 7, none⟩ = some (.slice B1 (x.lst true).length e1) ∧ Rd w' w'.heap.size 17 B0 (x.lst false).length ((x.lst false).flatMap adrC) ∧ Rd w' w'.heap.size 17 B1 (x.lst true).length ((x.lst true).flatMap adrC) := by
  obtain ⟨B0, e0, B1, e1, hX, rfl⟩ := h
  exact ⟨B0, e0, B1, e1, fun w' c => by
    have h := hX.ch c (by simp) (by simp) (by simp)
    exact ⟨h.blk.cell 6, h.blk.cell 7, h.own0.rd, h.own1.rd⟩⟩
theorem QP.wf.len (h : x.wf) (v : Bool) : (x.lst v).length ≤ 16 ∧ ∀ a ∈ x.lst v, a.2.length = 16 := by
  cases v
  · exact ⟨h.n0, fun a ha => (h.g0 a ha).1⟩
  · exact ⟨h.n1, fun a ha => (h.g1 a ha).1⟩
theorem Sim.drewN (h : Sim W w p q x F G) (n : Nat) : Sim W (w.drewN n) p q x F G := h.nil ((Ch.refl [] w).drewN n)
end

set_option maxRecDepth 100000 in
set_option maxHeartbeats 16000000 in
theorem querypairMatchesModel_came {H : Type} {enc : TypeId × Value → H} (W : World) (args : Array Value) (ds : List (DataW H)) (_ : laidMetH Tryd.prog Rows.querypairMatchesModelRow.laid W) (h : Came enc Tryd.prog Tryd.f7 W args ds) :
    Calls Tryd.prog 7 args W fun e W' => e = .returned (.bool true) ∧ Below W.heap.size W W' := by
  obtain ⟨v0, v1, v2, d0, d1, d2, rfl, a0, a1, a2⟩ := h.args3 rfl
  obtain ⟨d, rfl, hd⟩ := a0.u64 Tryd.underlying25
  obtain ⟨A, n, cap, L, rfl, hn1, hn2, _, hrl, hnl, hgl⟩ := a1.rows (f := opC) (G := opG W) (size := 4) Tryd.underlying61 op_four (by omega) (fun c hc => op_cells hc) (fun x _ => rfl)
  obtain ⟨B, m, cap', zs, rfl, hm1, hm2, _, hrm⟩ := a2.ints Tryd.underlying62 Tryd.underlying25 (by kernel_rfl)
  clear h a0 a1 a2
  obtain ⟨_, hL⟩ := hrl.rangeE (f := opC) (size := 4) (fun x _ => rfl) (by omega)
  have HL := hid hL
  have HNL := hid hnl
  have HGL := hid hgl
  have HZ := hid hrm.1
  unfold maxLen at hn2 hm2
  clear hrl hnl hgl hrm hL
  go_enter Tryd.func7, Tryd.ntmps7
  go_upto_if 22 with fail
  go_cut [0] (fun v wx => ∃ d' : Int, v = .int .u64 d' ∧ (0 ≤ d' ∧ d' ≤ 18446744073709551615) ∧ wx = W)
  case first =>
    go_wp2_with fail
    all_goals go_meet
    all_goals exact ⟨_, rfl, ⟨by omega, by omega⟩, rfl⟩
  case rest =>
    obtain ⟨d2, rfl, hd2, hw⟩ := hcut
    have hw := hw.symm
    subst hw
    clear hd
    go_wp2_with (go_at_call 13; (with_reducible refine (qpNewF _ _).mono ?_); rintro e w1 ⟨rfl, P1, C1⟩)
    have S0 : Sim W (w1.alloc (.cells #[.int .u64 d2, .bool false, .bool false, .bool false, .int .u64 0, .int .u64 0, .slice none 0 0, .slice none 0 0] 39)) W.heap.size w1.heap.size ⟨d2, false, false, false, 0, 0, [], []⟩ [W.heap.size] [w1.heap.size] :=
      ⟨P1.nil ((Ch.refl [] w1).alloc _), rpNewF d2 w1, fun g hg hg' => by have := (P1.lt g hg).2; simp only [List.mem_singleton] at hg hg'; omega, fun g hg => by simp only [List.mem_singleton] at hg; omega, fun g hg => by have := C1.size; simp only [List.mem_singleton] at hg; omega, QP.wf_new hd2, C1.alloc _⟩
    generalize w1.heap.size = q at S0 ⊢
    generalize hp : W.heap.size = p at S0 ⊢
    have HP := hid hp
    clear hp
    go_loopw [9] (fun i wr => ∃ (k : Nat) (x : QP) (F G : List Nat), i = .int .i64 k ∧ k ≤ n ∧ k ≤ 12 ∧ Sim W wr p q x F G) (fun i _ => 12 - (intOf i).toNat)
    case atStart => exact ⟨0, _, _, _, rfl, by omega, by omega, S0⟩
    case round =>
      clear S0 P1 C1
      obtain ⟨k, x, F, G, rfl, hk, hk12, S⟩ := hrel
      by_cases hlt : k < n
      · by_cases hlm : k < 12
        · skip
          obtain ⟨b, off, rfl, hb, hr⟩ := HL.out (by omega)
          obtain ⟨o, ho⟩ : ∃ o, L[k]? = some o := ⟨_, List.getElem?_eq_getElem (by rw [HNL.out]; exact hlt)⟩
          have hog := HGL.out o (List.mem_of_getElem? ho)
          have hro := range_ch (hr k o ho) S.ch (by omega) (by simp)
          obtain ⟨kd, now, v, Al, nl, cl, l⟩ := o
          obtain ⟨hnow, hnl2, hrd, hgd⟩ := hog
          simp only at hnow hnl2 hrd hgd
          have f0 : wr.cell? ⟨b, off + k * 4, none⟩ = some (.int .i64 kd) := hro 0 _ rfl
          have f1 : wr.cell? ⟨b, off + k * 4 + 1, none⟩ = some (.int .u64 now) := hro 1 _ rfl
          have f2 : wr.cell? ⟨b, off + k * 4 + 2, none⟩ = some (.bool v) := hro 2 _ rfl
          have f3 : wr.cell? ⟨b, off + k * 4 + 3, none⟩ = some (.slice Al nl cl) := hro 3 _ rfl
          have HSA : Hid (∀ w', Ch [] W w' → Calls Tryd.prog 38 #[.slice Al nl cl, .int .i64 20] w' fun e w'' => ∃ A' c', e = .returned (.slice A' (min nl 20) c') ∧ Own w'' w'.heap.size 29 17 A' (min nl 20) c' ((someL (l.take (min nl 20))).flatMap adrC) ∧ Ch [] w' w'') := fun w' c => genSomes w' Al nl cl W.heap.size 20 l (hrd.ch c (Nat.le_refl _) (by simp)) c.size (by omega) (by omega) hgd
          have HG2 := hid (someL_good hgd (min nl 20))
          have HN2 : Hid (min nl 20 ≤ 1000000000000) := by show _ ≤ _; omega
          generalize someL (l.take (min nl 20)) = L2 at HSA HG2
          generalize min nl 20 = n2 at HSA HN2
          obtain ⟨dd, hdd⟩ : ∃ dd, modI kd 15 = dd := ⟨_, rfl⟩
          have HDD := hid hdd
          obtain ⟨mm, hmm⟩ : ∃ mm, x.answerN v L2 = mm := ⟨_, rfl⟩
          have HMM := hid hmm
          obtain ⟨er, her⟩ : ∃ er, x.answerE v = er := ⟨_, rfl⟩
          have HER := hid her
          have HWF := hid (S.wf.answer hnow v HG2.out)
          have hb0 : (mm != mm) = false := by simp
          have hb1 : (er != er) = false := by simp
          have hi0 : (0 : Int) ≤ k := by omega
          have hi1 : (k : Int) < n := by omega
          have hi2 : (k : Int) < 12 := by omega
          clear ho hr hro hgd hrd hdd hmm her hb
          have So := S.nil ((Ch.refl [] wr).alloc (.cells #[.int .i64 kd, .int .u64 now, .bool v, .slice Al nl cl] 64))
          have Bo : Blk (wr.alloc (.cells #[.int .i64 kd, .int .u64 now, .bool v, .slice Al nl cl] 64)) wr.heap.size 64 [.int .i64 kd, .int .u64 now, .bool v, .slice Al nl cl] := Blk.new _ _ _
          have gF : wr.heap.size ∉ F := fun h => by have := (S.P.lt _ h).2; omega
          have gG : wr.heap.size ∉ G := fun h => by have := (S.X.lt _ h).2; omega
          have gl : wr.heap.size < (wr.alloc (.cells #[.int .i64 kd, .int .u64 now, .bool v, .slice Al nl cl] 64)).heap.size := by simp
          go_upto_region 11 with fail
          generalize wr.alloc (.cells #[.int .i64 kd, .int .u64 now, .bool v, .slice Al nl cl] 64) = wo at So Bo gl ⊢
          generalize wr.heap.size = gx at Bo gF gG gl ⊢
          clear f0 f1 f2 f3 S
          have i0 : wo.cell? ⟨gx, 0, none⟩ = some (.int .i64 kd) := Bo.cell 0
          have i1 : wo.cell? ⟨gx, 1, none⟩ = some (.int .u64 now) := Bo.cell 1
          have i2 : wo.cell? ⟨gx, 2, none⟩ = some (.bool v) := Bo.cell 2
          have i3 : wo.cell? ⟨gx, 3, none⟩ = some (.slice Al nl cl) := Bo.cell 3
          go_upto_if 49 with (go_at_call 14; with_reducible refine (genModAs _ _ dd HDD.out _ ?_ ?_).mono ?_; omega; omega; rintro e w' ⟨rfl, rfl⟩)
          go_cut [11, 12, 13, 14] from 32 to 178 (fun _ _ _ _ wx => ∃ (x : QP) (F G : List Nat), Sim W wx p q x F G ∧ gx ∉ F ∧ gx ∉ G ∧ Blk wx gx 64 [.int .i64 kd, .int .u64 now, .bool v, .slice Al nl cl])
          case first =>
            by_cases h4 : dd = 4
            · subst h4
              go_wp2_with (first
                | (go_at_call 36; (with_reducible refine (qpCancelF So.P).mono ?_); rintro e w1 ⟨rfl, P1, C1⟩; have X1 := So.mid (fun g hg => hg) C1 (Ch.refl [] w1))
                | (go_at_call 37; (with_reducible refine (rpCancelF X1).mono ?_); rintro e w2 ⟨rfl, X2, C2⟩))
              go_meet
              exact ⟨x.cancel, F, G, So.both C1 P1 (fun g hg => .inl hg) (Ch.refl _ _) C2 X2 (fun g hg => .inl hg) So.wf.cancel, gF, gG, (Bo.ch C1 gF).ch C2 gG⟩
            · have h4b : (dd == 4) = false := by simpa using h4
              go_upto_region 14 with fail
              refine wp_region_stagesM [⟨0, 128, 36028797018963968⟩, ⟨0, 1024, 72057594037927936⟩, ⟨2, 72057594037927936, 144115188075855872⟩, ⟨0, 1024, 288230376151711744⟩, ⟨8, 288230376151711744, 576460752303423488⟩, ⟨0, 1024, 1152921504606846976⟩, ⟨32, 1152921504606846976, 2305843009213693952⟩, ⟨64, 2305843009213693952, 4611686018427387904⟩, ⟨149, 5368290755825631232, 9223372036854775808⟩, ⟨256, 9223372036854775808, 18014398509481984⟩, ⟨512, 18014398509481984, 18446744073709551616⟩, ⟨512, 18014398509481984, 36893488147419103232⟩, ⟨2047, 18446744073709551616, 2048⟩, ⟨8191, 36893488147419103232, 4096⟩] [([0, 1, 2, 3, 4, 5, 6], 7, [0, 1, 2, 3, 4]), ([], 8, [])] [9, 10, 11, 12, 13] (by kernel_rfl) (by kernel_rfl) ?_
              refine wpStages_step ?_
              try simp only [pick, List.map_cons, List.map_nil, List.getD_cons_zero, List.getD_cons_succ]
              repeat (go_big_quiet_step (fail))
              refine wpQuiet_nil ?_
              intro n0
              try simp only [pick, List.map_cons, List.map_nil, List.getD_cons_zero, List.getD_cons_succ]
              go_wp2_with (go_at_call 38; (with_reducible refine (HSA.out _ (So.drewN n0).ch).mono ?_); rintro e w1 ⟨A1, c1, rfl, own1, C1⟩)
              have S1 := (So.drewN n0).nil C1
              have J1 := (Bo.drewN n0).ch C1 (by simp)
              have sz1 := C1.size
              clear i0 i1 i2 i3
              have i1 : w1.cell? ⟨gx, 1, none⟩ = some (.int .u64 now) := (J1).cell 1
              have i2 : w1.cell? ⟨gx, 2, none⟩ = some (.bool v) := (J1).cell 2
              have i3 : w1.cell? ⟨gx, 3, none⟩ = some (.slice Al nl cl) := (J1).cell 3
              refine stagePost_mk ?_ ?_
              · intro o ho
                simp only [pick, List.map_cons, List.map_nil, List.getD_cons_zero, List.getD_cons_succ, List.mem_cons, List.not_mem_nil, or_false] at ho
                rcases ho with rfl | rfl | rfl | rfl | rfl
                all_goals
                  refine float_any ?_
                  repeat (go_big_quiet_step (fail))
                  refine wpQuiet_nil ?_
                  rfl
              have nF : ∀ g ∈ blkOf A1, g ∉ F := fun g hg hf => absurd (So.P.lt g hf).2 (Nat.not_lt.2 (own1.blks g hg).1)
              clear i1 i2 i3
              refine wpStages_step ?_
              try simp only [pick, List.map_nil]
              repeat (go_big_quiet_step (fail))
              refine wpQuiet_nil ?_
              intro n1
              try simp only [pick, List.map_cons, List.map_nil, List.getD_cons_zero, List.getD_cons_succ]
              have Sa := S1.drewN n1
              have Ja := J1.drewN n1
              have owna := own1.drewN n1
              have gla : gx < (w1.drewN n1).heap.size := Nat.lt_of_lt_of_le gl sz1
              generalize w1.drewN n1 = wa at Sa Ja owna gla ⊢
              go_wp2_with (go_at_call 16; (with_reducible refine (qpAnswerF Sa.P Sa.wf now v owna.rd (Nat.le_refl _) nF HN2.out HG2.out HMM.out HER.out).mono ?_); rintro e w2 ⟨rfl, F', P2, C2, hF'⟩)
              have gF' : gx ∉ F' := fun h => (hF' gx h).elim gF (fun h => by omega)
              have J2 := Ja.ch C2 gF
              refine stagePost_mk (by simp [pick]) ?_
              refine wpStages_last ?_
              try simp only [pick, List.map_cons, List.map_nil, List.getD_cons_zero, List.getD_cons_succ]
              repeat (go_big_quiet_step (fail))
              refine wpQuiet_nil ?_
              intro n2
              have Jb := J2.drewN n2
              have Xb := Sa.mid (fun g hg => hg) C2 ((Ch.refl [] w2).drewN n2)
              have CB : Ch [] w2 (w2.drewN n2) := (Ch.refl [] w2).drewN n2
              have CW := (Sa.ch.step C2 (fun i hi => .inr (Sa.lF i hi))).trans CB
              have szb : wa.heap.size ≤ (w2.drewN n2).heap.size := C2.size
              generalize w2.drewN n2 = wb at Jb Xb CB CW szb ⊢
              have i1 : wb.cell? ⟨gx, 1, none⟩ = some (.int .u64 now) := (Jb).cell 1
              have i2 : wb.cell? ⟨gx, 2, none⟩ = some (.bool v) := (Jb).cell 2
              have i3 : wb.cell? ⟨gx, 3, none⟩ = some (.slice Al nl cl) := (Jb).cell 3
              go_upto_region 15 with fail
              refine wp_region_stagesM [⟨0, 256, 147573952589676412928⟩, ⟨0, 1024, 295147905179352825856⟩, ⟨2, 295147905179352825856, 590295810358705651712⟩, ⟨0, 1024, 1180591620717411303424⟩, ⟨8, 1180591620717411303424, 2361183241434822606848⟩, ⟨0, 1024, 4722366482869645213696⟩, ⟨32, 4722366482869645213696, 9444732965739290427392⟩, ⟨64, 9444732965739290427392, 18889465931478580854784⟩, ⟨149, 21988518935861785526272, 37778931862957161709568⟩, ⟨256, 37778931862957161709568, 73786976294838206464⟩, ⟨512, 73786976294838206464, 75557863725914323419136⟩, ⟨512, 73786976294838206464, 151115727451828646838272⟩, ⟨2047, 75557863725914323419136, 8192⟩, ⟨8191, 151115727451828646838272, 16384⟩] [([0, 1, 2, 3, 4, 5, 6], 7, [0, 1, 2, 3, 4]), ([], 8, [])] [9, 10, 11, 12, 13] (by kernel_rfl) (by kernel_rfl) ?_
              refine wpStages_step ?_
              try simp only [pick, List.map_cons, List.map_nil, List.getD_cons_zero, List.getD_cons_succ]
              repeat (go_big_quiet_step (fail))
              refine wpQuiet_nil ?_
              intro n3
              try simp only [pick, List.map_cons, List.map_nil, List.getD_cons_zero, List.getD_cons_succ]
              go_wp2_with (go_at_call 38; (with_reducible refine (HSA.out _ (CW.drewN n3)).mono ?_); rintro e w3 ⟨A3, c3, rfl, own3, C3⟩)
              have C3' := ((Ch.refl [] wb).drewN n3).trans C3
              have X3 := Xb.nil C3'
              have J3 := Jb.ch C3' (by simp)
              clear i1 i2 i3
              have i1 : w3.cell? ⟨gx, 1, none⟩ = some (.int .u64 now) := (J3).cell 1
              have i2 : w3.cell? ⟨gx, 2, none⟩ = some (.bool v) := (J3).cell 2
              have i3 : w3.cell? ⟨gx, 3, none⟩ = some (.slice Al nl cl) := (J3).cell 3
              refine stagePost_mk ?_ ?_
              · intro o ho
                simp only [pick, List.map_cons, List.map_nil, List.getD_cons_zero, List.getD_cons_succ, List.mem_cons, List.not_mem_nil, or_false] at ho
                rcases ho with rfl | rfl | rfl | rfl | rfl
                all_goals
                  refine float_any ?_
                  repeat (go_big_quiet_step (fail))
                  refine wpQuiet_nil ?_
                  rfl
              have nG : ∀ g ∈ blkOf A3, g ∉ G := fun g hg hf => absurd (Xb.lt g hf).2 (Nat.not_lt.2 (own3.blks g hg).1)
              clear i1 i2 i3
              refine wpStages_step ?_
              try simp only [pick, List.map_nil]
              repeat (go_big_quiet_step (fail))
              refine wpQuiet_nil ?_
              intro n4
              try simp only [pick, List.map_cons, List.map_nil, List.getD_cons_zero, List.getD_cons_succ]
              have Xc := X3.nil ((Ch.refl [] w3).drewN n4)
              have Jc := J3.drewN n4
              have ownc := own3.drewN n4
              have CC := CB.trans (C3'.trans ((Ch.refl [] w3).drewN n4))
              have szc : gx < (w3.drewN n4).heap.size := Nat.lt_of_lt_of_le gla (Nat.le_trans szb C3'.size)
              generalize w3.drewN n4 = wc' at Xc Jc ownc CC szc ⊢
              go_wp2_with (go_at_call 17; (with_reducible refine (rpAnswerF Xc Sa.wf now v ownc.rd (Nat.le_refl _) nG HN2.out HG2.out HMM.out HER.out).mono ?_); rintro e w4 ⟨rfl, G', X4, C4, hG'⟩)
              have gG' : gx ∉ G' := fun h => (hG' gx h).elim gG (fun h => by omega)
              have J4 := Jc.ch C4 gG
              have S4 := Sa.both C2 P2 hF' CC C4 X4 hG' HWF.out
              refine stagePost_mk (by simp [pick]) ?_
              refine wpStages_last ?_
              try simp only [pick, List.map_cons, List.map_nil, List.getD_cons_zero, List.getD_cons_succ]
              repeat (go_big_quiet_step (fail))
              refine wpQuiet_nil ?_
              intro n5
              go_wp2_with fail
              go_meet
              exact ⟨_, F', G', S4.drewN n5, gF', gG', J4.drewN n5⟩

          case rest =>
            obtain ⟨x2, F2, G2, S2, gF2, gG2, J2⟩ := hcut
            obtain ⟨dl, hdl⟩ : ∃ z, x2.dl = z := ⟨_, rfl⟩
            obtain ⟨dk, hdk⟩ : ∃ z, x2.dlOk = z := ⟨_, rfl⟩
            obtain ⟨cm, hcm⟩ : ∃ z, (x2.an0 && x2.an1) = z := ⟨_, rfl⟩
            obtain ⟨l0, hl0⟩ : ∃ z, x2.lst false = z := ⟨_, rfl⟩
            obtain ⟨l1, hl1⟩ : ∃ z, x2.lst true = z := ⟨_, rfl⟩
            have HDL := hid hdl
            have HDK := hid hdk
            have HCM := hid hcm
            have HL0 := hid hl0
            have HL1 := hid hl1
            have hb2 : (dl != dl) = false := by simp
            have hb3 : (dk != dk) = false := by simp
            have hb4 : (cm != cm) = false := by simp
            have HE0 : Hid (l0.length ≤ 16 ∧ ∀ a ∈ l0, a.2.length = 16) := by rw [← hl0]; exact S2.wf.len false
            have HE1 : Hid (l1.length ≤ 16 ∧ ∀ a ∈ l1, a.2.length = 16) := by rw [← hl1]; exact S2.wf.len true
            clear hdl hdk hcm
            go_upto_region 20 with (first
              | (go_at_call 39; (with_reducible refine (qpDelayF S2.P S2.wf HDL.out HDK.out).mono ?_); rintro e w3 ⟨rfl, C3⟩; have S3 := S2.nil C3; have J3 := J2.ch C3 (by simp))
              | (go_at_call 40; (with_reducible refine (rpDelayF S3.X S3.wf HDL.out HDK.out).mono ?_); rintro e w4 ⟨rfl, C4⟩; have S4 := S3.nil C4; have J4 := J3.ch C4 (by simp)))
            obtain ⟨B0, e0, B1, e1, hX⟩ := S4.X.refCells
            rw [hl0, hl1] at hX
            have HXC := hid hX
            clear hX hl0 hl1
            try simp only [List.append]
            refine wp_region_stagesM [⟨0, 32768, 79228162514264337593543950336⟩, ⟨0, 131072, 158456325028528675187087900672⟩, ⟨3, 237684487542793012780631851008, 316912650057057350374175801344⟩, ⟨4, 316912650057057350374175801344, 633825300114114700748351602688⟩, ⟨8, 633825300114114700748351668224, 1267650600228229401496703205376⟩, ⟨8, 633825300114114700748351864832, 2535301200456458802993406410752⟩, ⟨56, 4436777100798802905238461218816, 5070602400912917605986812821504⟩, ⟨72, 5704427701027032306735164424192, 10141204801825835211973625643008⟩, ⟨136, 10141204801825835211973625643008, 20282409603651670423947251286016⟩, ⟨256, 20282409603651670423947251286144, 40564819207303340847894502572032⟩, ⟨768, 60847228810955011271841753858048, 81129638414606681695789005144064⟩, ⟨256, 20282409603651670423947251286272, 162259276829213363391578010288128⟩, ⟨3328, 182541686432865033815525261574144, 324518553658426726783156020576256⟩, ⟨5376, 425930601676685078902892277006336, 649037107316853453566312041152512⟩, ⟨8448, 669319516920505123990259292438528, 1298074214633706907132624082305024⟩, ⟨20480, 1298074214633706907132624082305024, 2596148429267413814265248164610048⟩, ⟨32768, 2596148429267413814265248164610176, 5192296858534827628530496329220096⟩, ⟨98304, 7788445287802241442795744493830144, 10384593717069655257060992658440192⟩, ⟨32768, 2596148429267413814265248164610304, 20769187434139310514121985316880384⟩, ⟨294912, 23365335863406724328387233481490432, 41538374868278621028243970633760768⟩, ⟨557056, 44134523297546034842509218798370816, 83076749736557242056487941267521536⟩, ⟨1081344, 85672898165824655870753189432131584, 166153499473114484112975882535043072⟩, ⟨2129920, 168749647902381897927241130699653120, 332306998946228968225951765070086144⟩, ⟨4358144, 345287741092566037297278005893136384, 664613997892457936451903530140172288⟩, ⟨8421376, 667210146321725350266168778304782336, 1329227995784915872903807060280344576⟩, ⟨16809984, 1331824144214183286718072308444954624, 2658455991569831745807614120560689152⟩, ⟨41943040, 2658455991569831745807614120560689152, 5316911983139663491615228241121378304⟩, ⟨67108864, 5316911983139663491615228241121378432, 10633823966279326983230456482242756608⟩, ⟨201326592, 15950735949418990474845684723364134912, 21267647932558653966460912964485513216⟩, ⟨67108864, 5316911983139663491615228241121378560, 42535295865117307932921825928971026432⟩, ⟨603979776, 47852207848256971424537054170092404736, 85070591730234615865843651857942052864⟩, ⟨1140850688, 90387503713374279357458880099063431168, 170141183460469231731687303715884105728⟩, ⟨2214592512, 175458095443608895223302531957005484032, 340282366920938463463374607431768211456⟩, ⟨4362076160, 345599278904078126954989835672889589760, 680564733841876926926749214863536422912⟩, ⟨8925478912, 707149293757575244384825356069143314432, 1361129467683753853853498429727072845824⟩, ⟨17246978048, 1366446379666893517345113657968194224128, 2722258935367507707706996859454145691648⟩, ⟨34426847232, 2727575847350647371198612087695267069952, 5444517870735015415413993718908291383296⟩] [([0, 1, 2, 3, 4, 5, 6, 7, 8, 9, 10, 11, 12, 13, 14, 15, 16, 18, 19, 20, 21, 22], 17, [18, 19, 20, 21, 22]), ([], 23, []), ([24, 25, 26, 27, 29, 30, 31, 32, 33], 28, [29, 30, 31, 32, 33]), ([], 34, [])] [35, 36] (by kernel_rfl) (by kernel_rfl) ?_
            have hq7 : w4.cell? ⟨q, 7, none⟩ = some (.slice B1 l1.length e1) := (HXC.out _ (Ch.refl _ _)).2.1
            refine wpStages_step ?_
            try simp only [pick, List.map_cons, List.map_nil, List.getD_cons_zero, List.getD_cons_succ]
            repeat (go_big_quiet_step (first | (go_at_call 41; exact quiet_eq (qpCompleteE (S4.drewN _).P HCM.out)) | (go_at_call 42; exact quiet_eq (rpCompleteE (S4.drewN _).X HCM.out))))
            refine wpQuiet_nil ?_
            intro n0
            try simp only [pick, List.map_cons, List.map_nil, List.getD_cons_zero, List.getD_cons_succ]
            go_wp2_with (go_at_call 20; (with_reducible refine (qpAddrsF (S4.drewN n0).P S4.wf true HL1.out).mono ?_); rintro e w5 ⟨A5, c5, rfl, own5, C5⟩)
            have C5' := ((Ch.refl [] w4).drewN n0).trans C5
            clear hq7
            have hq7 : w5.cell? ⟨q, 7, none⟩ = some (.slice B1 l1.length e1) := (HXC.out _ C5').2.1
            refine stagePost_mk ?_ ?_
            · intro o ho
              simp only [pick, List.map_cons, List.map_nil, List.getD_cons_zero, List.getD_cons_succ, List.mem_cons, List.not_mem_nil, or_false] at ho
              rcases ho with rfl | rfl | rfl | rfl | rfl
              all_goals
                refine float_any ?_
                repeat (go_big_quiet_step (fail))
                refine wpQuiet_nil ?_
                rfl
            refine wpStages_step ?_
            try simp only [pick, List.map_nil]
            repeat (go_big_quiet_step (fail))
            refine wpQuiet_nil ?_
            intro n1
            try simp only [pick, List.map_cons, List.map_nil, List.getD_cons_zero, List.getD_cons_succ]
            go_wp2_with (go_at_call 22; (with_reducible refine (eqEqA _ _ _ _ _ _ _ _ l1 (own5.drewN n1).rd (HXC.out _ (C5'.drewN n1)).2.2.2 (Nat.le_refl _) (Nat.le_refl _) (Nat.le_trans HE1.out.1 (by omega)) HE1.out.2).mono ?_); rintro e w6 ⟨rfl, C6⟩)
            have C6' := (C5'.drewN n1).trans C6
            clear hq7
            have hq6 : w6.cell? ⟨q, 6, none⟩ = some (.slice B0 l0.length e0) := (HXC.out _ C6').1
            refine stagePost_mk (by simp [pick]) ?_
            refine wpStages_step ?_
            try simp only [pick, List.map_cons, List.map_nil, List.getD_cons_zero, List.getD_cons_succ]
            repeat (go_big_quiet_step (fail))
            refine wpQuiet_nil ?_
            intro n2
            try simp only [pick, List.map_cons, List.map_nil, List.getD_cons_zero, List.getD_cons_succ]
            go_wp2_with (go_at_call 20; (with_reducible refine (qpAddrsF (S4.P.nil (C6'.drewN n2)) S4.wf false HL0.out).mono ?_); rintro e w7 ⟨A7, c7, rfl, own7, C7⟩)
            have C7' := (C6'.drewN n2).trans C7
            clear hq6
            have hq6 : w7.cell? ⟨q, 6, none⟩ = some (.slice B0 l0.length e0) := (HXC.out _ C7').1
            refine stagePost_mk ?_ ?_
            · intro o ho
              simp only [pick, List.map_cons, List.map_nil, List.getD_cons_zero, List.getD_cons_succ, List.mem_cons, List.not_mem_nil, or_false] at ho
              rcases ho with rfl | rfl | rfl | rfl | rfl
              all_goals
                refine float_any ?_
                repeat (go_big_quiet_step (fail))
                refine wpQuiet_nil ?_
                rfl
            refine wpStages_step ?_
            try simp only [pick, List.map_nil]
            repeat (go_big_quiet_step (fail))
            refine wpQuiet_nil ?_
            intro n3
            try simp only [pick, List.map_cons, List.map_nil, List.getD_cons_zero, List.getD_cons_succ]
            go_wp2_with (go_at_call 22; (with_reducible refine (eqEqA _ _ _ _ _ _ _ _ l0 (own7.drewN n3).rd (HXC.out _ (C7'.drewN n3)).2.2.1 (Nat.le_refl _) (Nat.le_refl _) (Nat.le_trans HE0.out.1 (by omega)) HE0.out.2).mono ?_); rintro e w8 ⟨rfl, C8⟩)
            have C8' := (C7'.drewN n3).trans C8
            refine stagePost_mk (by simp [pick]) ?_
            refine wpStages_last ?_
            try simp only [pick, List.map_cons, List.map_nil, List.getD_cons_zero, List.getD_cons_succ]
            repeat (go_big_quiet_step (fail))
            refine wpQuiet_nil ?_
            intro n4
            have S8 := S4.nil (C8'.drewN n4)
            have J8 := J4.ch (C8'.drewN n4) (by simp)
            generalize w8.drewN n4 = w9 at S8 J8 ⊢
            clear hq6 So Bo
            go_wp2_with fail
            go_loopw [19] (fun i wr => ∃ j : Nat, i = .int .i64 j ∧ j ≤ m ∧ j ≤ 6 ∧ Sim W wr p q x2 F2 G2 ∧ Blk wr gx 64 [.int .i64 kd, .int .u64 now, .bool v, .slice Al nl cl]) (fun i _ => 6 - (intOf i).toNat)
            case atStart => exact ⟨0, rfl, by omega, by omega, S8, J8⟩
            case round =>
              clear S8 J8
              obtain ⟨j, rfl, hjm, hj6, S9, J9⟩ := hrel
              by_cases hlj : j < m
              · by_cases hl6 : j < 6
                · obtain ⟨bz, oz, rfl, hbz, hz⟩ := HZ.out.at_ hlj
                  obtain ⟨z, hzz⟩ : ∃ z, at_ zs j = z := ⟨_, rfl⟩
                  rw [hzz] at hz
                  have kz : ∀ y : After wr, y.w.cell? ⟨bz, oz + j, none⟩ = some (.int .u64 z) := fun y => ((S9.ch.trans y.ch).cell hbz (by simp)).trans hz
                  have kn : ∀ y : After wr, y.w.cell? ⟨gx, 1, none⟩ = some (.int .u64 now) := fun y => (J9.ch y.ch (by simp)).cell 1
                  obtain ⟨fr, hfr⟩ : ∃ f : Int → Bool, ∀ t, x2.ready t = f t := ⟨_, fun _ => rfl⟩
                  have HRA : Hid (∀ (y : After wr) (t : Int), Calls Tryd.prog 43 #[.pointer (some ⟨p, 0, none⟩), .int .u64 t] y.w fun e w' => e = .returned (.bool (fr t)) ∧ Ch [] y.w w') := fun y t => qpReadyF (S9.P.nil y.ch) S9.wf t (hfr t)
                  have HRB : Hid (∀ (y : After wr) (t : Int), Calls Tryd.prog 44 #[.pointer (some ⟨q, 0, none⟩), .int .u64 t] y.w fun e w' => e = .returned (.bool (fr t)) ∧ Ch [] y.w w') := fun y t => rpReadyF (S9.X.nil y.ch) S9.wf t (hfr t)
                  have hbb : ∀ t, (fr t != fr t) = false := by simp
                  have hj0 : (0 : Int) ≤ j := by omega
                  have hj1 : (j : Int) < m := by omega
                  have hj2 : (j : Int) < 6 := by omega
                  clear hfr hz hzz
                  go_upto_region 25 with fail
                  refine wp_region_quietA (wr) (by kernel_rfl) (by kernel_rfl) (Ch.refl _ _) ?_
                  repeat (first
                    | go_big_quiet_step (first
                      | (go_at_call 43; with_reducible exact after_of (HRA.out _ _))
                      | (go_at_call 44; with_reducible exact after_of (HRB.out _ _))))
                  refine wpQuiet_nil ?_
                  intro wq hwq
                  go_wp2_with fail
                  go_roundw
                  case rel => exact ⟨j + 1, by go_num, by omega, by omega, S9.nil hwq, J9.ch hwq (by simp)⟩
                  case measure => simp [intOf]; omega
                · obtain rfl : j = 6 := by omega
                  have hj1 : ((6 : Nat) : Int) < m := by omega
                  go_wp2_with fail
                  go_roundw
                  case rel => exact ⟨k + 1, x2, F2, G2, by go_num, by omega, by omega, S9⟩
                  case measure => simp [intOf]; omega
              · obtain rfl : j = m := by omega
                go_wp2_with fail
                go_roundw
                case rel => exact ⟨k + 1, x2, F2, G2, by go_num, by omega, by omega, S9⟩
                case measure => simp [intOf]; omega

        · obtain rfl : k = 12 := by omega
          have hi1 : ((12 : Nat) : Int) < n := by omega
          go_wp2_with (go_at_call 21; (with_reducible refine (awake27 _).mono ?_); rintro e wn ⟨rfl, Cn⟩)
          go_ret
          exact ⟨rfl, (S.ch.trans Cn).nil_below⟩
      · obtain rfl : k = n := by omega
        go_wp2_with (go_at_call 21; (with_reducible refine (awake27 _).mono ?_); rintro e wn ⟨rfl, Cn⟩)
        go_ret
        exact ⟨rfl, (S.ch.trans Cn).nil_below⟩
end Go.Proofs.YtjabeabbaambcaaDoor
