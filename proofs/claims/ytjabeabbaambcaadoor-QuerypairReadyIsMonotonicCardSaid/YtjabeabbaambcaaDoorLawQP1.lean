/- The walk of QuerypairReadyIsMonotonic (printed by mk_lawqp1.py). -/
import Derived.Test.YtjabeabbaambcaaDoorQM
import Derived.Test.YtjabeabbaambcaaDoorArgsA
import Derived.Test.YtjabeabbaambcaaDoorShellD
import Derived.Test.YtjabeabbaambcaaDoorMinMax
import Derived.Test.YtjabeabbaambcaaDoorRows
namespace Go.Proofs.YtjabeabbaambcaaDoor
open Go.ChangeShapes Go.WideShapes Go.ChangeAt Go.RowKit

theorem arr7 {a : Array Value} {v0 v1 v2 v3 v4 v5 v6 : Value} (h : a.size = 7) (h0 : a[0]? = some v0) (h1 : a[1]? = some v1) (h2 : a[2]? = some v2) (h3 : a[3]? = some v3) (h4 : a[4]? = some v4) (h5 : a[5]? = some v5) (h6 : a[6]? = some v6) : a = #[v0, v1, v2, v3, v4, v5, v6] := by
  apply Array.ext'; rcases a with ⟨_ | ⟨x, _ | ⟨y, _ | ⟨z, _ | ⟨u, _ | ⟨q, _ | ⟨r, _ | ⟨t, _ | ⟨s, l⟩⟩⟩⟩⟩⟩⟩⟩⟩ <;> simp_all
theorem Came.args7 {H : Type} {enc : TypeId × Value → H} {P : Program} {fn : Func} {W : World} {args : Array Value} {ds : List (DataW H)} {t0 t1 t2 t3 t4 t5 t6 : TypeId} (hp : fn.params = #[t0, t1, t2, t3, t4, t5, t6]) (h : Came enc P fn W args ds) :
    ∃ v0 v1 v2 v3 v4 v5 v6 d0 d1 d2 d3 d4 d5 d6, args = #[v0, v1, v2, v3, v4, v5, v6] ∧ Arg enc P W t0 v0 d0 ∧ Arg enc P W t1 v1 d1 ∧ Arg enc P W t2 v2 d2 ∧ Arg enc P W t3 v3 d3 ∧ Arg enc P W t4 v4 d4 ∧ Arg enc P W t5 v5 d5 ∧ Arg enc P W t6 v6 d6 := by
  obtain ⟨l1, l2, l3⟩ := h.args
  rw [hp] at l1 l3
  obtain ⟨v0, d0, h0, _, a0⟩ := l3 0 t0 rfl
  obtain ⟨v1, d1, h1, _, a1⟩ := l3 1 t1 rfl
  obtain ⟨v2, d2, h2, _, a2⟩ := l3 2 t2 rfl
  obtain ⟨v3, d3, h3, _, a3⟩ := l3 3 t3 rfl
  obtain ⟨v4, d4, h4, _, a4⟩ := l3 4 t4 rfl
  obtain ⟨v5, d5, h5, _, a5⟩ := l3 5 t5 rfl
  obtain ⟨v6, d6, h6, _, a6⟩ := l3 6 t6 rfl
  exact ⟨v0, v1, v2, v3, v4, v5, v6, d0, d1, d2, d3, d4, d5, d6, arr7 l1 h0 h1 h2 h3 h4 h5 h6, a0, a1, a2, a3, a4, a5, a6⟩
theorem wpList_max_want {P : Program} {w : World} {ops : Array Oper} {rest : List Oper} {o : Oper} {a : Act} {Q : Exit → Act → World → Prop} (hw : Region.wanted o (yielded ops a.tmps) = true) (x y : Operand) (ts : Array TypeId) (ho : o.op = .call { callee := .builtin .max, args := #[x, y], argTypes := ts })
    (k k' : IntKind) (p q r : Int) (hx : a.eval x = .int k p) (hy : a.eval y = .int k' q) (hr : max p q = r) (h : wpList P ops Q rest (a.put o.dst (.int k r)) w) : wpList P ops Q (o :: rest) a w := by
  unfold wpList
  rw [if_pos hw]
  refine .inl ?_
  have e : (if q > p then q else p) = r := by rw [← hr]; by_cases h1 : q > p <;> simp [h1, Int.max_def] <;> omega
  unfold Oper.wp execOp
  simp only [ho, resolve, invoke, builtin, Sem.run_bind, Sem.run_pure, Result.andThen_ok, List.map_toArray, List.map_cons, List.map_nil, hx, hy, run_max_int2, e]
  exact h
/-- A slice of addresses, as an argument. -/
theorem Arg.addrs {H : Type} {enc : TypeId × Value → H} {W : World} {v : Value} {d : DataW H} (h : Arg enc Tryd.prog W 22 v d) :
    ∃ A len cap, ∃ l : AL, v = .slice A len cap ∧ len ≤ cap ∧ cap ≤ 8289722895955 ∧ Rd W W.heap.size 17 A len (l.flatMap adrC) ∧ l.length = len ∧ ∀ x ∈ l, GoodA x.2 := by
  obtain ⟨A, len, cap, l, h1, h2, h3, h4, h5, h6, h7⟩ := h.rows (f := adrC) (G := fun x => GoodA x.2) (size := 17) Tryd.underlying22 (by kernel_rfl) (by omega) (fun c hc => by
    obtain ⟨six, bs, rfl, hg⟩ := hc.addr
    exact ⟨(six, bs), rfl, hg⟩) (fun x hx => adr_len hx.1)
  rw [show Tryd.prog.bytesOf 29 = 17 by kernel_rfl] at h4
  exact ⟨A, len, cap, l, h1, h2, by omega, h5, h6, h7⟩
theorem someL_good {l : AL} (h : ∀ x ∈ l, GoodA x.2) (k : Nat) : ∀ x ∈ someL (l.take k), GoodA x.2 := by
  intro x hx
  obtain ⟨y, hy, rfl⟩ := List.mem_map.1 hx
  exact someA_good (h y (List.mem_of_mem_take hy))
theorem ready_mono {x : QP} {a b : Int} (h : x.ready a = true) (hab : a ≤ b) : x.ready b = true := by
  unfold QP.ready at h ⊢
  simp only [Bool.or_eq_true, Bool.and_eq_true, decide_eq_true_eq] at h ⊢
  rcases h with (h | h) | h
  · exact .inl (.inl h)
  · exact .inl (.inr h)
  · exact .inr ⟨h.1, by omega⟩
theorem ready_full {x : QP} (h : (x.an0 && x.an1) = true) (a : Int) : x.ready a = true := by
  unfold QP.ready; rw [h]; rfl
theorem full_cancel (x : QP) : (x.cancel.an0 && x.cancel.an1) = true := rfl
theorem full_two (d at_ : Int) (v : Bool) (l m : AL) : ((((QP.mk d false false false 0 0 [] []).answer at_ v l).answer at_ (!v) m).an0 && (((QP.mk d false false false 0 0 [] []).answer at_ v l).answer at_ (!v) m).an1) = true := by cases v <;> rfl
theorem err_two (d at_ : Int) (v : Bool) (l : AL) : (QP.mk d false false false 0 0 [] []).answerE v = 0 ∧ ((QP.mk d false false false 0 0 [] []).answer at_ v l).answerE (!v) = 0 := by cases v <;> exact ⟨rfl, rfl⟩

set_option maxRecDepth 20000 in
set_option maxHeartbeats 8000000 in
theorem querypairReadyIsMonotonic_came {H : Type} {enc : TypeId × Value → H} (W : World) (args : Array Value) (ds : List (DataW H)) (_ : laidMetH Tryd.prog Rows.querypairReadyIsMonotonicRow.laid W) (h : Came enc Tryd.prog Tryd.f8 W args ds) :
    Calls Tryd.prog 8 args W fun e W' => e = .returned (.bool true) ∧ Below W.heap.size W W' := by
  obtain ⟨v0, v1, v2, v3, v4, v5, v6, d0, d1, d2, d3, d4, d5, d6, rfl, a0, a1, a2, a3, a4, a5, a6⟩ := h.args7 rfl
  obtain ⟨d, rfl, hd⟩ := a0.u64 Tryd.underlying25
  obtain ⟨at_, rfl, ha⟩ := a1.u64 Tryd.underlying25
  obtain ⟨more, rfl, hm⟩ := a2.u64 Tryd.underlying25
  obtain ⟨A, n, cap, l, rfl, hn1, hn2, hrl, hnl, hgl⟩ := a3.addrs
  obtain ⟨B, m, cap', k, rfl, hm1, hm2, hrm, hnm, hgm⟩ := a4.addrs
  obtain ⟨v6, rfl⟩ := a5.bool Tryd.underlying4
  obtain ⟨stop, rfl⟩ := a6.bool Tryd.underlying4
  clear h a0 a1 a2 a3 a4 a5 a6
  have HSL : Hid (∀ w', Ch [] W w' → Calls Tryd.prog 38 #[.slice A n cap, .int .i64 9] w' fun e w'' => ∃ A' c', e = .returned (.slice A' (min n 9) c') ∧ Own w'' w'.heap.size 29 17 A' (min n 9) c' ((someL (l.take (min n 9))).flatMap adrC) ∧ Ch [] w' w'') := fun w' c => genSomes w' A n cap W.heap.size 9 l (hrl.ch c (Nat.le_refl _) (by simp)) c.size (by omega) (by omega) hgl
  have HSM : Hid (∀ w', Ch [] W w' → Calls Tryd.prog 38 #[.slice B m cap', .int .i64 9] w' fun e w'' => ∃ A' c', e = .returned (.slice A' (min m 9) c') ∧ Own w'' w'.heap.size 29 17 A' (min m 9) c' ((someL (k.take (min m 9))).flatMap adrC) ∧ Ch [] w' w'') := fun w' c => genSomes w' B m cap' W.heap.size 9 k (hrm.ch c (Nat.le_refl _) (by simp)) c.size (by omega) (by omega) hgm
  have HGL := hid (someL_good hgl (min n 9))
  have HGM := hid (someL_good hgm (min m 9))
  have HNL : Hid (min n 9 ≤ 1000000000000) := by show _ ≤ _; omega
  have HNM : Hid (min m 9 ≤ 1000000000000) := by show _ ≤ _; omega
  have e1 := hid (err_two d at_ v6 (someL (l.take (min n 9)))).1
  have e2 := hid (err_two d at_ v6 (someL (l.take (min n 9)))).2
  have kf := hid (full_two d at_ v6 (someL (l.take (min n 9))) (someL (k.take (min m 9))))
  have W0 : Hid (QP.mk d false false false 0 0 [] []).wf := QP.wf_new hd
  generalize someL (l.take (min n 9)) = L1 at *
  generalize someL (k.take (min m 9)) = L2 at *
  have W1 : Hid ((QP.mk d false false false 0 0 [] []).answer at_ v6 L1).wf := W0.out.answer ha v6 HGL.out
  obtain ⟨m1, hm1'⟩ : ∃ m1, (QP.mk d false false false 0 0 [] []).answerN v6 L1 = m1 := ⟨_, rfl⟩
  have n1 := hid hm1'
  obtain ⟨x1, hx1⟩ : ∃ x1, (QP.mk d false false false 0 0 [] []).answer at_ v6 L1 = x1 := ⟨_, rfl⟩
  rw [hx1] at e2 kf W1
  have X1 := hid hx1
  clear hrl hrm hgl hgm hm1' hx1 hnl hnm
  have CC := Ch.refl [] W
  generalize hnv : (!v6) = nv at e2 kf
  cases stop
  · have W2 : Hid (x1.answer at_ nv L2).wf := W1.out.answer ha nv HGM.out
    obtain ⟨m2, hm2'⟩ : ∃ m2, x1.answerN nv L2 = m2 := ⟨_, rfl⟩
    have n2 := hid hm2'
    obtain ⟨x2, hx2⟩ : ∃ x2, x1.answer at_ nv L2 = x2 := ⟨_, rfl⟩
    rw [hx2] at W2 kf
    have X2 := hid hx2
    have k2 : Hid ((x2.an0 && x2.an1) = true) := kf
    have r2 : Hid (∀ a, x2.ready a = true) := fun a => ready_full k2.out a
    clear hm2' hx2 kf
    cases hu : x1.ready more with
    | true =>
      have r1 := hid hu
      have r1m : Hid (x1.ready (max more at_) = true) := ready_mono hu (by omega)
      clear hu
      go_enter Tryd.func8, Tryd.ntmps8
      go_wp2_with (first
          | (go_at_call 13; (with_reducible refine (qpNewF _ _).mono ?_); rintro e w1 ⟨rfl, P0, C1⟩; replace CC := CC.trans C1; have FF : ∀ q ∈ [W.heap.size], W.heap.size ≤ q := fun q hq => by (rw [List.mem_singleton.1 hq]; exact Nat.le_refl _))
          | (go_at_call 21; (with_reducible refine (awake27 _).mono ?_); rintro e wn ⟨rfl, Cn⟩; replace P2 := P2.nil Cn; replace CC := CC.trans Cn)
          | (go_at_call 41; (with_reducible refine (qpCompleteF P2 k2.out).mono ?_); rintro e wr ⟨rfl, Cr⟩; replace P2 := P2.nil Cr; replace CC := CC.trans Cr)
          | (go_at_call 43; (with_reducible refine (qpReadyF P2 W2.out _ (r2.out _)).mono ?_); rintro e wr ⟨rfl, Cr⟩; replace P2 := P2.nil Cr; replace CC := CC.trans Cr)
          | (go_at_call 38; (with_reducible refine (HSM.out _ CC).mono ?_); rintro e w3 ⟨Am, cm, rfl, ownm, C3⟩; have sz1 := CC.size; have lt1 := P1.lt; replace P1 := P1.nil C3; have nF : ∀ g ∈ blkOf Am, g ∉ F1 := fun g hg hf => absurd (lt1 g hf).2 (Nat.not_lt.2 (ownm.blks g hg).1); replace CC := CC.trans C3)
          | (go_at_call 16; (with_reducible refine (qpAnswerF P1 W1.out at_ _ ownm.rd (Nat.le_refl _) nF HNM.out HGM.out n2.out e2.out).mono ?_); rintro e w4 ⟨rfl, F2, P2, C4, hf2⟩; rw [X2.out] at P2; replace CC := CC.step C4 (fun i hi => .inr (FF1 i hi)))
          | (go_at_call 43; (with_reducible refine (qpReadyF P1 W1.out _ r1.out).mono ?_); rintro e wr ⟨rfl, Cr⟩; replace P1 := P1.nil Cr; replace CC := CC.trans Cr)
          | (go_at_call 43; (with_reducible refine (qpReadyF P1 W1.out _ r1m.out).mono ?_); rintro e wr ⟨rfl, Cr⟩; replace P1 := P1.nil Cr; replace CC := CC.trans Cr)
          | (refine wpList_max_want rfl _ _ _ rfl .u64 .u64 _ _ _ rfl rfl rfl ?_)
          | (go_at_call 38; (with_reducible refine (HSL.out _ CC).mono ?_); rintro e w2 ⟨Al, cl, rfl, ownl, C2⟩; have sz0 := CC.size; have lt0 := P0.lt; replace P0 := P0.nil C2; have nF0 : ∀ g ∈ blkOf Al, g ∉ [W.heap.size] := fun g hg hf => absurd (lt0 g hf).2 (Nat.not_lt.2 (ownl.blks g hg).1); replace CC := CC.trans C2)
          | (go_at_call 16; (with_reducible refine (qpAnswerF P0 W0.out at_ _ ownl.rd (Nat.le_refl _) nF0 HNL.out HGL.out n1.out e1.out).mono ?_); rintro e wx ⟨rfl, F1, P1, C3, hf1⟩; rw [X1.out] at P1; have szx := CC.size; have FF1 : ∀ q ∈ F1, W.heap.size ≤ q := fun q hq => (hf1 q hq).elim (FF q) (fun h => by omega); replace CC := CC.step C3 (fun i hi => .inr (FF i hi))))
      go_ret
      exact ⟨rfl, CC.nil_below⟩
    | false =>
      have r1 := hid hu
      clear hu
      go_enter Tryd.func8, Tryd.ntmps8
      go_wp2_with (first
          | (go_at_call 13; (with_reducible refine (qpNewF _ _).mono ?_); rintro e w1 ⟨rfl, P0, C1⟩; replace CC := CC.trans C1; have FF : ∀ q ∈ [W.heap.size], W.heap.size ≤ q := fun q hq => by (rw [List.mem_singleton.1 hq]; exact Nat.le_refl _))
          | (go_at_call 21; (with_reducible refine (awake27 _).mono ?_); rintro e wn ⟨rfl, Cn⟩; replace P2 := P2.nil Cn; replace CC := CC.trans Cn)
          | (go_at_call 41; (with_reducible refine (qpCompleteF P2 k2.out).mono ?_); rintro e wr ⟨rfl, Cr⟩; replace P2 := P2.nil Cr; replace CC := CC.trans Cr)
          | (go_at_call 43; (with_reducible refine (qpReadyF P2 W2.out _ (r2.out _)).mono ?_); rintro e wr ⟨rfl, Cr⟩; replace P2 := P2.nil Cr; replace CC := CC.trans Cr)
          | (go_at_call 38; (with_reducible refine (HSM.out _ CC).mono ?_); rintro e w3 ⟨Am, cm, rfl, ownm, C3⟩; have sz1 := CC.size; have lt1 := P1.lt; replace P1 := P1.nil C3; have nF : ∀ g ∈ blkOf Am, g ∉ F1 := fun g hg hf => absurd (lt1 g hf).2 (Nat.not_lt.2 (ownm.blks g hg).1); replace CC := CC.trans C3)
          | (go_at_call 16; (with_reducible refine (qpAnswerF P1 W1.out at_ _ ownm.rd (Nat.le_refl _) nF HNM.out HGM.out n2.out e2.out).mono ?_); rintro e w4 ⟨rfl, F2, P2, C4, hf2⟩; rw [X2.out] at P2; replace CC := CC.step C4 (fun i hi => .inr (FF1 i hi)))
          | (go_at_call 43; (with_reducible refine (qpReadyF P1 W1.out _ r1.out).mono ?_); rintro e wr ⟨rfl, Cr⟩; replace P1 := P1.nil Cr; replace CC := CC.trans Cr)
          | (go_at_call 38; (with_reducible refine (HSL.out _ CC).mono ?_); rintro e w2 ⟨Al, cl, rfl, ownl, C2⟩; have sz0 := CC.size; have lt0 := P0.lt; replace P0 := P0.nil C2; have nF0 : ∀ g ∈ blkOf Al, g ∉ [W.heap.size] := fun g hg hf => absurd (lt0 g hf).2 (Nat.not_lt.2 (ownl.blks g hg).1); replace CC := CC.trans C2)
          | (go_at_call 16; (with_reducible refine (qpAnswerF P0 W0.out at_ _ ownl.rd (Nat.le_refl _) nF0 HNL.out HGL.out n1.out e1.out).mono ?_); rintro e wx ⟨rfl, F1, P1, C3, hf1⟩; rw [X1.out] at P1; have szx := CC.size; have FF1 : ∀ q ∈ F1, W.heap.size ≤ q := fun q hq => (hf1 q hq).elim (FF q) (fun h => by omega); replace CC := CC.step C3 (fun i hi => .inr (FF i hi))))
      go_ret
      exact ⟨rfl, CC.nil_below⟩
  · have W2 : Hid x1.cancel.wf := W1.out.cancel
    have kc := full_cancel x1
    obtain ⟨x2, hx2⟩ : ∃ x2, x1.cancel = x2 := ⟨_, rfl⟩
    rw [hx2] at W2 kc
    have X2 := hid hx2
    have k2 : Hid ((x2.an0 && x2.an1) = true) := kc
    have r2 : Hid (∀ a, x2.ready a = true) := fun a => ready_full k2.out a
    clear hx2 kf kc
    cases hu : x1.ready more with
    | true =>
      have r1 := hid hu
      have r1m : Hid (x1.ready (max more at_) = true) := ready_mono hu (by omega)
      clear hu
      go_enter Tryd.func8, Tryd.ntmps8
      go_wp2_with (first
          | (go_at_call 13; (with_reducible refine (qpNewF _ _).mono ?_); rintro e w1 ⟨rfl, P0, C1⟩; replace CC := CC.trans C1; have FF : ∀ q ∈ [W.heap.size], W.heap.size ≤ q := fun q hq => by (rw [List.mem_singleton.1 hq]; exact Nat.le_refl _))
          | (go_at_call 21; (with_reducible refine (awake27 _).mono ?_); rintro e wn ⟨rfl, Cn⟩; replace P2 := P2.nil Cn; replace CC := CC.trans Cn)
          | (go_at_call 41; (with_reducible refine (qpCompleteF P2 k2.out).mono ?_); rintro e wr ⟨rfl, Cr⟩; replace P2 := P2.nil Cr; replace CC := CC.trans Cr)
          | (go_at_call 43; (with_reducible refine (qpReadyF P2 W2.out _ (r2.out _)).mono ?_); rintro e wr ⟨rfl, Cr⟩; replace P2 := P2.nil Cr; replace CC := CC.trans Cr)
          | (go_at_call 36; (with_reducible refine (qpCancelF P1).mono ?_); rintro e w4 ⟨rfl, P2, C4⟩; rw [X2.out] at P2; replace CC := CC.step C4 (fun i hi => .inr (FF1 i hi)))
          | (go_at_call 43; (with_reducible refine (qpReadyF P1 W1.out _ r1.out).mono ?_); rintro e wr ⟨rfl, Cr⟩; replace P1 := P1.nil Cr; replace CC := CC.trans Cr)
          | (go_at_call 43; (with_reducible refine (qpReadyF P1 W1.out _ r1m.out).mono ?_); rintro e wr ⟨rfl, Cr⟩; replace P1 := P1.nil Cr; replace CC := CC.trans Cr)
          | (refine wpList_max_want rfl _ _ _ rfl .u64 .u64 _ _ _ rfl rfl rfl ?_)
          | (go_at_call 38; (with_reducible refine (HSL.out _ CC).mono ?_); rintro e w2 ⟨Al, cl, rfl, ownl, C2⟩; have sz0 := CC.size; have lt0 := P0.lt; replace P0 := P0.nil C2; have nF0 : ∀ g ∈ blkOf Al, g ∉ [W.heap.size] := fun g hg hf => absurd (lt0 g hf).2 (Nat.not_lt.2 (ownl.blks g hg).1); replace CC := CC.trans C2)
          | (go_at_call 16; (with_reducible refine (qpAnswerF P0 W0.out at_ _ ownl.rd (Nat.le_refl _) nF0 HNL.out HGL.out n1.out e1.out).mono ?_); rintro e wx ⟨rfl, F1, P1, C3, hf1⟩; rw [X1.out] at P1; have szx := CC.size; have FF1 : ∀ q ∈ F1, W.heap.size ≤ q := fun q hq => (hf1 q hq).elim (FF q) (fun h => by omega); replace CC := CC.step C3 (fun i hi => .inr (FF i hi))))
      go_ret
      exact ⟨rfl, CC.nil_below⟩
    | false =>
      have r1 := hid hu
      clear hu
      go_enter Tryd.func8, Tryd.ntmps8
      go_wp2_with (first
          | (go_at_call 13; (with_reducible refine (qpNewF _ _).mono ?_); rintro e w1 ⟨rfl, P0, C1⟩; replace CC := CC.trans C1; have FF : ∀ q ∈ [W.heap.size], W.heap.size ≤ q := fun q hq => by (rw [List.mem_singleton.1 hq]; exact Nat.le_refl _))
          | (go_at_call 21; (with_reducible refine (awake27 _).mono ?_); rintro e wn ⟨rfl, Cn⟩; replace P2 := P2.nil Cn; replace CC := CC.trans Cn)
          | (go_at_call 41; (with_reducible refine (qpCompleteF P2 k2.out).mono ?_); rintro e wr ⟨rfl, Cr⟩; replace P2 := P2.nil Cr; replace CC := CC.trans Cr)
          | (go_at_call 43; (with_reducible refine (qpReadyF P2 W2.out _ (r2.out _)).mono ?_); rintro e wr ⟨rfl, Cr⟩; replace P2 := P2.nil Cr; replace CC := CC.trans Cr)
          | (go_at_call 36; (with_reducible refine (qpCancelF P1).mono ?_); rintro e w4 ⟨rfl, P2, C4⟩; rw [X2.out] at P2; replace CC := CC.step C4 (fun i hi => .inr (FF1 i hi)))
          | (go_at_call 43; (with_reducible refine (qpReadyF P1 W1.out _ r1.out).mono ?_); rintro e wr ⟨rfl, Cr⟩; replace P1 := P1.nil Cr; replace CC := CC.trans Cr)
          | (go_at_call 38; (with_reducible refine (HSL.out _ CC).mono ?_); rintro e w2 ⟨Al, cl, rfl, ownl, C2⟩; have sz0 := CC.size; have lt0 := P0.lt; replace P0 := P0.nil C2; have nF0 : ∀ g ∈ blkOf Al, g ∉ [W.heap.size] := fun g hg hf => absurd (lt0 g hf).2 (Nat.not_lt.2 (ownl.blks g hg).1); replace CC := CC.trans C2)
          | (go_at_call 16; (with_reducible refine (qpAnswerF P0 W0.out at_ _ ownl.rd (Nat.le_refl _) nF0 HNL.out HGL.out n1.out e1.out).mono ?_); rintro e wx ⟨rfl, F1, P1, C3, hf1⟩; rw [X1.out] at P1; have szx := CC.size; have FF1 : ∀ q ∈ F1, W.heap.size ≤ q := fun q hq => (hf1 q hq).elim (FF q) (fun h => by omega); replace CC := CC.step C3 (fun i hi => .inr (FF i hi))))
      go_ret
      exact ⟨rfl, CC.nil_below⟩
end Go.Proofs.YtjabeabbaambcaaDoor
