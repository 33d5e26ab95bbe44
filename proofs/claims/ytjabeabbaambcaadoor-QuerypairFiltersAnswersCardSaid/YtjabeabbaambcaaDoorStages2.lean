/- A region that draws its order, by stages, once more: an operation that floats over an effect may be overwritten by one that waits for the effect. -/
import Derived.Test.YtjabeabbaambcaaDoorStages
import Derived.Test.YtjabeabbaambcaaDoorFloat
namespace Go.Proofs.YtjabeabbaambcaaDoor
open Go.RowKit

section
variable {P : Program} {ops : Array Oper}

def flOkE (ops : Array Oper) (j r : Nat) : Bool :=
  match ops[r]? with
  | none => false
  | some o => (match o.dst with | some d => !(o.looksAt ops).contains d | none => true) &&
    (List.range ops.size).all fun x => x == r || (o.after.any fun e => Region.binds .any e && e.on == x) ||
      match ops[x]? with
      | some ox => (ox.after.any fun e => Region.binds .any e && e.on == j) || (match ox.dst with | some d => !(o.looksAt ops).contains d && o.dst != some d | none => true)
      | none => true

theorem flOkE_spec {j r : Nat} {o : Oper} (ho : ops[r]? = some o) (h : flOkE ops j r = true) :
    (∀ d, o.dst = some d → d ∉ o.looksAt ops) ∧
    ∀ x ox, ops[x]? = some ox → x ≠ r → (∀ e ∈ o.after, Region.binds .any e = true → e.on ≠ x) → (∀ e ∈ ox.after, Region.binds .any e = true → e.on ≠ j) → (∀ d, ox.dst = some d → d ∉ o.looksAt ops) ∧ (∀ d, ox.dst = some d → o.dst ≠ some d) := by
  unfold flOkE at h
  rw [ho] at h
  simp only [Bool.and_eq_true] at h
  obtain ⟨h1, h2⟩ := h
  refine ⟨fun d hd => ?_, fun x ox hx hne hno hnj => ?_⟩
  · rw [hd] at h1; simpa using h1
  · have := List.all_eq_true.1 h2 x (List.mem_range.2 (Array.getElem?_eq_some_iff.1 hx).1)
    simp only [Bool.or_eq_true, beq_iff_eq, hne, false_or] at this
    rcases this with h3 | h3
    · obtain ⟨e, he, hb⟩ := Array.any_eq_true'.1 h3
      simp only [Bool.and_eq_true, beq_iff_eq] at hb
      exact absurd hb.2 (hno e he hb.1)
    · rw [hx] at h3
      dsimp only at h3
      rw [Bool.or_eq_true] at h3
      rcases h3 with h3 | h3
      · obtain ⟨e, he, hb⟩ := Array.any_eq_true'.1 h3
        simp only [Bool.and_eq_true, beq_iff_eq] at hb
        exact absurd hb.2 (hnj e he hb.1)
      · refine ⟨fun d hd => ?_, fun d hd => ?_⟩ <;> rw [hd] at h3 <;> simp at h3
        · exact h3.1
        · exact h3.2

theorem M_firstE {eff : List (Nat × List Nat)} {Q : Exit → Act → World → Prop} {i : Nat} {oi : Oper} (hi : ops[i]? = some oi) (hne : eff.lookup i = none)
    (hsel : ∀ (j : Nat) (o : Oper) cs b, ops[j]? = some o → o.op ≠ .select cs b) (hfl : ∀ j fl, (j, fl) ∈ eff → ∀ r ∈ fl, flOkE ops j r = true)
    (D : Nat → Bool) (hD1 : D i = false) (hD2 : ∀ j oj, ops[j]? = some oj → D j = false → j ≠ i → ∃ e ∈ oj.after, Region.binds .any e = true ∧ D e.on = false) :
    ∀ (fuel : Nat) (listed : Array Bool) (a : Act) (w : World) (v : Value),
      (∀ j oj, ops[j]? = some oj → j ≠ i → listed.getD j true = false → (∀ e ∈ oj.after, Region.binds .any e = true → e.on ≠ i) → oi.apart ops oj = true) →
      (∀ j fl, (j, fl) ∈ eff → D j = true → listed.getD j true = false → i ∈ fl) → (∀ j, listed.getD j false = true → D j = true) → Down ops listed →
      i ∈ Region.ready .any ops listed → YieldsIn P ops (fun w' => ∃ n, w' = w.drewN n) oi v a →
      wpAnyM P ops eff Q fuel (listed.setIfInBounds i true) (a.put oi.dst v) w → wpAnyM P ops eff Q (fuel + 1) listed a w := by
  have self : ∀ (fuel : Nat) (listed : Array Bool) (a : Act) (w : World) (v : Value), YieldsIn P ops (fun w' => ∃ n, w' = w.drewN n) oi v a →
      wpAnyM P ops eff Q fuel (listed.setIfInBounds i true) (a.put oi.dst v) w →
      (match eff.lookup i with
      | some fl => ∀ n, wpOp P ops NoExit i (fun a' w' => FLoat P ops fl listed a' w' ∧ wpAnyM P ops eff Q fuel (listed.setIfInBounds i true) a' w') a (w.drewN n)
      | none => qOp P ops (fun w' => ∃ n, w' = w.drewN n) i (fun a' => wpAnyM P ops eff Q fuel (listed.setIfInBounds i true) a' w) a) := by
    intro fuel listed a w v hy H
    rw [hne]
    exact hy.qOp hi H
  intro fuel
  induction fuel with
  | zero =>
    intro listed a w v _ _ _ _ hr hy H
    refine ⟨fun h => (by rw [h] at hr; cases hr), fun j hj => ?_⟩
    by_cases hji : j = i
    · subst hji; exact self 0 listed a w v hy H
    · have := ready_mono hj hji
      rw [H.1] at this
      cases this
  | succ fuel ih =>
    intro listed a w v hfree hD3 hLD hdown hr hy H
    refine ⟨fun h => (by rw [h] at hr; cases hr), fun j hj => ?_⟩
    by_cases hji : j = i
    · subst hji; exact self (fuel + 1) listed a w v hy H
    · have h1 := H.2 j (ready_mono hj hji)
      obtain ⟨hjun, oj, hoj, hall⟩ := mem_ready.1 hj
      have hiu := (mem_ready.1 hr).1
      have hisz : i < listed.size := by
        rcases Nat.lt_or_ge i listed.size with h' | h'
        · exact h'
        · simp [Array.getElem?_eq_none h'] at hiu
      have hif : listed.getD i false = false := by
        simp [hisz] at hiu ⊢; exact hiu
      have hnot : ∀ e ∈ oj.after, Region.binds .any e = true → e.on ≠ i := fun e he hb heq => by
        have h1 := hall e he hb
        rw [heq, hif] at h1
        cases h1
      have hDj : D j = true := by
        cases hd : D j with
        | true => rfl
        | false =>
          obtain ⟨e, he, hb, hde⟩ := hD2 j oj hoj hd hji
          rw [hLD _ (hall e he hb)] at hde
          cases hde
      have hap := hfree j oj hoj hji hjun hnot
      have hfree' : ∀ k ok, ops[k]? = some ok → k ≠ i → (listed.setIfInBounds j true).getD k true = false →
          (∀ e ∈ ok.after, Region.binds .any e = true → e.on ≠ i) → oi.apart ops ok = true := fun k ok hk hki hun hno => by
        refine hfree k ok hk hki ?_ hno
        by_cases hjk : j = k
        · subst hjk; exact hjun
        · rw [getD_set_ne true hjk] at hun; exact hun
      have hD3' : ∀ k fl, (k, fl) ∈ eff → D k = true → (listed.setIfInBounds j true).getD k true = false → i ∈ fl := fun k fl hk hd hun => by
        refine hD3 k fl hk hd ?_
        by_cases hjk : j = k
        · subst hjk; exact hjun
        · rw [getD_set_ne true hjk] at hun; exact hun
      have hLD' : ∀ k, (listed.setIfInBounds j true).getD k false = true → D k = true := fun k hk => by
        by_cases hjk : j = k
        · subst hjk; exact hDj
        · rw [getD_set_ne false hjk] at hk; exact hLD k hk
      have hdown' : Down ops (listed.setIfInBounds j true) := fun r o ho hl e he hb => by
        by_cases hjr : j = r
        · subst hjr
          have : o = oj := Option.some.inj (ho.symm.trans hoj)
          subst this
          exact getD_set_true (hall e he hb)
        · rw [getD_set_ne false hjr] at hl
          exact getD_set_true (hdown r o ho hl e he hb)
      have hr' := ready_mono hr (Ne.symm hji)
      cases he : eff.lookup j with
      | none =>
        rw [he] at h1
        have h2 := qOp_put hoj hap (fun cs b => hsel i oi cs b hi) (fun cs b => hsel j oj cs b hoj) hy h1
        refine qOp_mono (fun a' h3 => ih (listed.setIfInBounds j true) a' w v hfree' hD3' hLD' hdown' hr' h3.1 ?_) h2
        rw [Array.setIfInBounds_comm _ _ hji]
        exact h3.2
      | some fl =>
        rw [he] at h1
        intro n
        have hmem := lookup_mem he
        have hin := hD3 j fl hmem hDj hjun
        have h2 := wpOp_swap hoj hap (fun cs b => hsel j oj cs b hoj) (h1 n)
        refine wpOp_mono (fun a' w' hh => ?_) h2
        obtain ⟨hF, hM⟩ := hh
        have hself := (flOkE_spec hi (hfl j fl hmem i hin)).1
        have hiw : ∀ e ∈ oi.after, Region.binds .any e = true → e.on ≠ j := fun e he' hb heq => by
          obtain ⟨_, oi', hoi', hall'⟩ := mem_ready.1 hr
          have : oi' = oi := Option.some.inj (hoi'.symm.trans hi)
          subst this
          have h9 := hall' e he' hb
          rw [heq] at h9
          have hjsz : j < listed.size := by
            rcases Nat.lt_or_ge j listed.size with h' | h'
            · exact h'
            · rw [Array.getD_eq_getD_getElem?, Array.getElem?_eq_none h'] at h9; cases h9
          simp [hjsz] at hjun h9
          rw [hjun] at h9; cases h9
        refine ⟨fun r hrm hrl o ho => ?_, ?_⟩
        · have hri : r ≠ i := by rintro rfl; rw [hif] at hrl; cases hrl
          obtain ⟨u, hyu, hhu⟩ := hF r hrm (getD_set_true hrl) o ho
          have hoth' := (flOkE_spec ho (hfl j fl hmem r hrm)).2
          have hno : ∀ e ∈ o.after, Region.binds .any e = true → e.on ≠ i := fun e he' hb heq => by
            have := hdown r o ho hrl e he' hb
            rw [heq, hif] at this
            cases this
          obtain ⟨q1, q2⟩ := hoth' i oi hi (Ne.symm hri) hno hiw
          exact ⟨u, YieldsIn.unput (fun cs b => hsel r o cs b ho) q1 hyu, Holds.of_put q2 hhu⟩
        · obtain ⟨v1, hy1, hh1⟩ := hF i hin (by simp [hisz]) oi hi
          have hya : YieldsIn P ops (fun w'' => ∃ n, w'' = w'.drewN n) oi v1 a' := YieldsIn.unput (fun cs b => hsel i oi cs b hi) hself hy1
          refine ih (listed.setIfInBounds j true) a' w' v1 hfree' hD3' hLD' hdown' hr' hya ?_
          have e1 : a'.put oi.dst v1 = a'.put oi.dst v := by
            have := hh1.put_self
            rw [put_put] at this
            exact this
          rw [e1, Array.setIfInBounds_comm _ _ hji]
          exact hM

theorem M_of_lexE {eff : List (Nat × List Nat)} {Q : Exit → Act → World → Prop} (hs : Region.noSelect ops = true) (hfl : ∀ j fl, (j, fl) ∈ eff → ∀ r ∈ fl, flOkE ops j r = true) :
    ∀ (l : List Nat) (listed : Array Bool) (a : Act) (w : World), orderOk ops eff l listed = true → Down ops listed → wpLex P ops eff Q l w a → wpAnyM P ops eff Q l.length listed a w
  | [], listed, a, w, hB, _, h => ⟨by simpa [orderOk] using hB, h⟩
  | i :: rest, listed, a, w, hB, hdown, h => by
    simp only [orderOk, Bool.and_eq_true] at hB
    obtain ⟨hB, hR⟩ := hB
    unfold wpLex at h
    have down (hr : i ∈ Region.ready .any ops listed) : Down ops (listed.setIfInBounds i true) := by
      obtain ⟨_, oi, hoi, hall⟩ := mem_ready.1 hr
      intro r o ho hl e he hb
      by_cases hir : i = r
      · subst hir
        have : o = oi := Option.some.inj (ho.symm.trans hoi)
        subst this
        exact getD_set_true (hall e he hb)
      · rw [getD_set_ne false hir] at hl
        exact getD_set_true (hdown r o ho hl e he hb)
    cases he : eff.lookup i with
    | some fl =>
      rw [he] at hB h
      have hB' : Region.ready .any ops listed = [i] := by simpa using hB
      refine ⟨fun h0 => (by rw [hB'] at h0; cases h0), fun j hj => ?_⟩
      rw [hB', List.mem_singleton] at hj
      subst hj
      rw [he]
      intro n
      exact wpOp_mono (fun a' w' hh => ⟨fun r hr _ o ho => hh.1 r hr o ho, M_of_lexE hs hfl rest _ a' w' hR (down (by rw [hB']; simp)) hh.2⟩) (h n)
    | none =>
      rw [he] at hB h
      simp only [Bool.and_eq_true] at hB
      obtain ⟨⟨hr, hf⟩, hN⟩ := hB
      have hr' : i ∈ Region.ready .any ops listed := by simpa using hr
      obtain ⟨_, oi, hoi, _⟩ := mem_ready.1 hr'
      obtain ⟨v, hy, hK⟩ := yieldsIn_of_qOp hoi h
      unfold notBehindOk at hN
      simp only [Bool.and_eq_true] at hN
      obtain ⟨⟨⟨n1, n2⟩, n3⟩, n4⟩ := hN
      refine M_firstE hoi he (Region.noSelect_spec hs) hfl (fun j => (behind ops i).getD j false) (by simpa using n1) ?_ rest.length listed a w v (Region.free_spec hoi hf) ?_ ?_ hdown hr' hy
        (M_of_lexE hs hfl rest _ _ w hR (down hr') hK)
      · intro j oj hj hd hji
        have := List.all_eq_true.1 n2 j (List.mem_range.2 (Array.getElem?_eq_some_iff.1 hj).1)
        have hd' : (behind ops i).getD j false = false := hd
        rw [hd', hj] at this
        simp only [Bool.false_or, Bool.or_eq_true, beq_iff_eq, hji, false_or] at this
        obtain ⟨e, he', hb⟩ := Array.any_eq_true'.1 this
        simp only [Bool.and_eq_true, Bool.not_eq_true'] at hb
        exact ⟨e, he', hb.1, hb.2⟩
      · intro j fl hj hd hun
        have := List.all_eq_true.1 n3 (j, fl) hj
        have hd' : (behind ops i).getD j false = true := hd
        simp only [hd', hun, Bool.not_true, Bool.false_or] at this
        simpa using this
      · intro j hj
        have hlt : j < listed.size := by
          rcases Nat.lt_or_ge j listed.size with h' | h'
          · exact h'
          · simp [Array.getElem?_eq_none h'] at hj
        have := List.all_eq_true.1 n4 j (List.mem_range.2 hlt)
        rw [hj] at this
        simpa using this

def stagesOkE (ops : Array Oper) (st : List (List Nat × Nat × List Nat)) (last : List Nat) : Bool :=
  Region.noSelect ops && ((effOf st).all fun x => x.2.all (flOkE ops x.1)) && (st.all fun x => decide (x.2.1 < ops.size) && x.1.all fun i => decide (i < ops.size) && ((effOf st).lookup i).isNone) &&
  (last.all fun i => decide (i < ops.size) && ((effOf st).lookup i).isNone) && (st.all fun x => (effOf st).lookup x.2.1 == some x.2.2) && ((orderOf st last).length == ops.size) && orderOk ops (effOf st) (orderOf st last) (Array.replicate ops.size false)

/-- **A region that draws its order, by stages** (what floats may be written by what stands behind the effect).  -/
theorem wp_region_stagesE {id : Nat} {Q : Exit → Act → World → Prop} {a : Act} {w : World} {l : List Oper} (st : List (List Nat × Nat × List Nat)) (last : List Nat) (hm : P.follows .mixedOrders = true) (hB : stagesOkE l.toArray st last = true)
    (h : wpStages P l Q last st w a) : (Code.region id l.toArray true).wp P Q a w := by
  unfold stagesOkE at hB
  simp only [Bool.and_eq_true, List.all_eq_true, decide_eq_true_eq, beq_iff_eq, Option.isNone_iff_eq_none] at hB
  obtain ⟨⟨⟨⟨⟨⟨b1, b2⟩, b3⟩, b4⟩, b5⟩, b6⟩, b7⟩ := hB
  have hlex := lex_of_stages (P := P) (Q := Q) (eff := effOf st) b4 st w a (fun x hx => ⟨(b3 x hx).2, (b3 x hx).1, b5 x hx⟩) h
  have hM := M_of_lexE (P := P) (Q := Q) b1 (fun j fl hj r hr => b2 (j, fl) hj r hr) (orderOf st last) (Array.replicate l.toArray.size false) a w b7
    (fun r o _ hl => by
      exfalso
      simp [Array.getElem?_replicate] at hl
      split at hl <;> simp at hl) hlex
  rw [b6] at hM
  exact wp_region_any hm (wpAny_of_M _ _ a w hM 1)
end
end Go.Proofs.YtjabeabbaambcaaDoor
