/- A region that draws its order and holds operations that turn the world ('effects': each waits for the one ahead of it, and all that stands behind it in the chosen order waits for it):
   one walk, in a chosen order, serves every order. Between two effects the operations are quiet. An operation that does not wait for an effect and that the effect does not wait for ('floats over it') is asked once more behind it: it yields what it yielded. -/
import Derived.Test.YtjabeabbaambcaaDoorBase
import Derived.Deep.QuietTactic
import Derived.BigQuiet
import Derived.Orders
import Derived.Still
namespace Go.Proofs.YtjabeabbaambcaaDoor
open Go.RowKit

/-- No exit is let: an effect that panics is not served. -/
def NoExit : Exit → Act → World → Prop := fun _ _ _ => False
theorem not_letsOut : ¬ LetsOut NoExit := fun ⟨_, _, h⟩ => h

section
variable {P : Program} {ops : Array Oper}

def Holds (a : Act) (dst : Option Tmp) (v : Value) : Prop := ∀ d, dst = some d → a.tmps[d]? = none ∨ a.tmps[d]? = some v
theorem Holds.put_self {a : Act} {dst : Option Tmp} {v : Value} (h : Holds a dst v) : a.put dst v = a := by
  cases dst with
  | none => rfl
  | some d =>
    unfold Act.put
    have : a.tmps.setIfInBounds d v = a.tmps := by
      apply Array.ext_getElem?
      intro i
      by_cases hi : d = i
      · subst hi
        rcases h d rfl with h1 | h1
        · rw [Array.getElem?_setIfInBounds_self, h1]
          simp only [Array.getElem?_eq_none_iff] at h1
          rw [if_neg (by omega)]
        · have hlt : d < a.tmps.size := (Array.getElem?_eq_some_iff.1 h1).1
          rw [Array.getElem?_setIfInBounds_self, if_pos hlt, h1]
      · rw [Array.getElem?_setIfInBounds_ne hi]
    cases a
    simp only at this ⊢
    rw [this]
theorem Holds.of_put {a : Act} {x dst : Option Tmp} {u v : Value} (hne : ∀ d, x = some d → dst ≠ some d) (h : Holds (a.put x u) dst v) : Holds a dst v := by
  intro d hd
  have := h d hd
  cases x with
  | none => exact this
  | some e =>
    have hed : e ≠ d := fun he => hne e rfl (he ▸ hd)
    simpa [Act.put, Array.getElem?_setIfInBounds_ne hed] using this
theorem put_put (a : Act) (x : Option Tmp) (u v : Value) : (a.put x u).put x v = a.put x v := by
  cases x with
  | none => rfl
  | some d => simp [Act.put]

/-- Behind an effect: each of the operations 'fl' that has come up yields once more what its temporary holds. -/
def FLoat (P : Program) (ops : Array Oper) (fl : List Nat) (listed : Array Bool) (a : Act) (w : World) : Prop :=
  ∀ r ∈ fl, listed.getD r false = true → ∀ o, ops[r]? = some o → ∃ v, YieldsIn P ops (fun w' => ∃ n, w' = w.drewN n) o v a ∧ Holds a o.dst v

/-- Whatever order: quiet operations and effects. -/
def wpAnyM (P : Program) (ops : Array Oper) (eff : List (Nat × List Nat)) (Q : Exit → Act → World → Prop) : Nat → Array Bool → Act → World → Prop
  | 0, listed, a, w => Region.ready .any ops listed = [] ∧ ∀ n, Q .normal a (w.drewN n)
  | fuel + 1, listed, a, w => (Region.ready .any ops listed = [] → ∀ n, Q .normal a (w.drewN n)) ∧ ∀ i ∈ Region.ready .any ops listed,
      match eff.lookup i with
      | some fl => ∀ n, wpOp P ops NoExit i (fun a' w' => FLoat P ops fl listed a' w' ∧ wpAnyM P ops eff Q fuel (listed.setIfInBounds i true) a' w') a (w.drewN n)
      | none => qOp P ops (fun w' => ∃ n, w' = w.drewN n) i (fun a' => wpAnyM P ops eff Q fuel (listed.setIfInBounds i true) a' w) a

theorem Oper.wp_noExit {o : Oper} {a : Act} {w : World} {K : Act → World → Prop} {Q : Exit → Act → World → Prop} (h : o.wp P a w K NoExit) : o.wp P a w K Q := by
  unfold Oper.wp at *
  generalize (execOp a.eval o).run P w = r at *
  cases r with
  | ok n w' =>
    cases n <;> simp only [Oper.upon] at h ⊢ <;> first | exact h | skip
    case enter f args =>
      refine Calls.mono h fun e w'' he => ?_
      cases e with
      | returned u => exact he
      | panicked c => exact he.elim
      | outgrown => exact (not_letsOut he).elim
  | halt x w' =>
    cases x <;> simp only [Oper.upon] at h ⊢
    case panic u => exact h.elim

theorem wpOp_noExit {i : Nat} {a : Act} {w : World} {K : Act → World → Prop} {Q : Exit → Act → World → Prop} (h : wpOp P ops NoExit i K a w) : wpOp P ops Q i K a w := by
  unfold wpOp at *
  split
  · rename_i ho; simp only [ho] at h; exact h
  · rename_i o ho
    simp only [ho] at h
    split
    · rename_i hw
      simp only [hw, if_true] at h
      rcases h with h | ⟨_, h⟩
      · exact .inl (Oper.wp_noExit h)
      · exact (not_letsOut h).elim
    · rename_i hw; simp only [hw] at h; exact h

theorem wpAny_of_M {eff : List (Nat × List Nat)} {Q : Exit → Act → World → Prop} : ∀ (fuel : Nat) (listed : Array Bool) (a : Act) (w : World), wpAnyM P ops eff Q fuel listed a w → ∀ n, wpAny P .any ops Q fuel listed a (w.drewN n)
  | 0, _, _, _, h, n => ⟨h.1, h.2 n⟩
  | fuel + 1, listed, a, w, h, n => ⟨fun h0 => h.1 h0 n, fun i hi => by
      have hi' := h.2 i hi
      cases he : eff.lookup i with
      | some fl =>
        rw [he] at hi'
        exact wpOp_mono (fun a' w' hh => wpAny_of_M fuel _ a' w' hh.2 0) (wpOp_noExit (hi' n))
      | none =>
        rw [he] at hi'
        refine wpOp_of_qOp (C := fun w' => ∃ n, w' = w.drewN n) ⟨n, rfl⟩ (fun a' w' ⟨m, hm⟩ hh => ?_) hi'
        subst hm
        exact wpAny_of_M fuel _ a' w hh m⟩

/-- An effect, apart from 'oi': whether oi's value is already in its temporary makes no difference to it. -/
theorem wpOp_swap {j : Nat} {oi oj : Oper} {v : Value} (hj : ops[j]? = some oj) (hap : oi.apart ops oj = true) (hsj : ∀ cs b, oj.op ≠ .select cs b) {K : Act → World → Prop} {a : Act} {w : World}
    (h : wpOp P ops NoExit j K (a.put oi.dst v) w) : wpOp P ops NoExit j (fun a' w' => K (a'.put oi.dst v) w') a w := by
  obtain ⟨h1, h2, _⟩ := Oper.apart_spec hap
  unfold wpOp at *
  simp only [hj] at *
  rw [wanted_put oj a oi.dst v h1] at h
  split
  · rename_i hw
    simp only [hw, if_true] at h
    rcases h with h | ⟨_, hlets⟩
    case inr => exact (not_letsOut hlets).elim
    refine .inl ?_
    unfold Oper.wp at *
    rw [execOp_put oj hsj a oi.dst v h1] at h
    generalize (execOp a.eval oj).run P w = r at *
    cases r with
    | ok n w' =>
      cases n <;> simp only [Oper.upon] at h ⊢
      case value u => rw [← Act.put_comm a v u h2]; exact h
      case skip => rw [← Act.put_comm a v undef h2]; exact h
      case defer d => rw [← Act.put_comm _ v undef h2, ← Act.put_defers]; exact h
      case enter f args =>
        refine Calls.mono h fun e w'' he => ?_
        cases e with
        | returned u => simp only at he ⊢; rw [← Act.put_comm a v u h2]; exact he
        | panicked c => exact he
        | outgrown => exact he
      case row row args => exact Rows.mono h fun u w'' he => by rw [← Act.put_comm a v u h2]; exact he
    | halt x w' => cases x <;> simp only [Oper.upon] at h ⊢; exact h
  · rename_i hw
    simp only [hw] at h
    rw [← Act.put_comm a v undef h2]; exact h

theorem lookup_mem {eff : List (Nat × List Nat)} {j : Nat} {fl : List Nat} (h : eff.lookup j = some fl) : (j, fl) ∈ eff := by
  induction eff with
  | nil => simp at h
  | cons x xs ih =>
    obtain ⟨k, l⟩ := x
    simp only [List.lookup_cons] at h
    split at h
    · rename_i hk
      simp only [beq_iff_eq] at hk
      simp only [Option.some.injEq] at h
      subst hk; subst h
      exact List.mem_cons_self ..
    · exact List.mem_cons_of_mem _ (ih h)

/-- Static: what floats is looked at anew as it was: no other operation writes what it reads, but those that it waits for; none writes its own temporary. -/
def flOk (ops : Array Oper) (r : Nat) : Bool :=
  match ops[r]? with
  | none => false
  | some o => (match o.dst with | some d => !(o.looksAt ops).contains d | none => true) &&
    (List.range ops.size).all fun x => x == r || (o.after.any fun e => Region.binds .any e && e.on == x) ||
      match ops[x]? with
      | some ox => (match ox.dst with | some d => !(o.looksAt ops).contains d && o.dst != some d | none => true)
      | none => true

theorem flOk_spec {r : Nat} {o : Oper} (ho : ops[r]? = some o) (h : flOk ops r = true) :
    (∀ d, o.dst = some d → d ∉ o.looksAt ops) ∧
    ∀ x ox, ops[x]? = some ox → x ≠ r → (∀ e ∈ o.after, Region.binds .any e = true → e.on ≠ x) → (∀ d, ox.dst = some d → d ∉ o.looksAt ops) ∧ (∀ d, ox.dst = some d → o.dst ≠ some d) := by
  unfold flOk at h
  rw [ho] at h
  simp only [Bool.and_eq_true] at h
  obtain ⟨h1, h2⟩ := h
  refine ⟨fun d hd => ?_, fun x ox hx hne hno => ?_⟩
  · rw [hd] at h1; simpa using h1
  · have := List.all_eq_true.1 h2 x (List.mem_range.2 (Array.getElem?_eq_some_iff.1 hx).1)
    simp only [Bool.or_eq_true, beq_iff_eq, hne, false_or] at this
    rcases this with h3 | h3
    · obtain ⟨e, he, hb⟩ := Array.any_eq_true'.1 h3
      simp only [Bool.and_eq_true, beq_iff_eq] at hb
      exact absurd hb.2 (hno e he hb.1)
    · rw [hx] at h3
      dsimp only at h3
      refine ⟨fun d hd => ?_, fun d hd => ?_⟩ <;> rw [hd] at h3 <;> simp at h3
      · exact h3.1
      · exact h3.2

def Down (ops : Array Oper) (listed : Array Bool) : Prop := ∀ r o, ops[r]? = some o → listed.getD r false = true → ∀ e ∈ o.after, Region.binds .any e = true → listed.getD e.on false = true

theorem YieldsIn.unput {C : World → Prop} {o : Oper} {v : Value} {a : Act} {x : Option Tmp} {u : Value} (hs : ∀ cs b, o.op ≠ .select cs b) (hx : ∀ d, x = some d → d ∉ o.looksAt ops) (h : YieldsIn P ops C o v (a.put x u)) : YieldsIn P ops C o v a :=
  h.of_same (execOp_put o hs a x u hx).symm (wanted_put o a x u hx).symm

theorem M_first {eff : List (Nat × List Nat)} {Q : Exit → Act → World → Prop} {i : Nat} {oi : Oper} (hi : ops[i]? = some oi) (hne : eff.lookup i = none)
    (hsel : ∀ (j : Nat) (o : Oper) cs b, ops[j]? = some o → o.op ≠ .select cs b) (hfl : ∀ j fl, (j, fl) ∈ eff → ∀ r ∈ fl, flOk ops r = true)
    (D : Nat → Bool) (hD1 : D i = false) (hD2 : ∀ j oj, ops[j]? = some oj → D j = false → j ≠ i → ∃ e ∈ oj.after, Region.binds .any e = true ∧ D e.on = false) :
    ∀ (fuel : Nat) (listed : Array Bool) (a : Act) (w : World) (v : Value),
      (∀ j oj, ops[j]? = some oj → j ≠ i → listed.getD j true = false → (∀ e ∈ oj.after, Region.binds .any e = true → e.on ≠ i) → oi.apart ops oj = true) →
      (∀ j fl, (j, fl) ∈ eff → D j = true → listed.getD j true = false → i ∈ fl) → (∀ j, listed.getD j false = true → D j = true) → Down ops listed →
      i ∈ Region.ready .any ops listed → YieldsIn P ops (fun w' => ∃ n, w' = w.drewN n) oi v a →
      wpAnyM P ops eff Q fuel (listed.setIfInBounds i true) (a.put oi.dst v) w → wpAnyM P ops eff Q (fuel + 1) listed a w := by
  have self : ∀ (fuel : Nat) (listed : Array Bool) (a : Act) (w : World) (v : Value), YieldsIn P ops (fun w' => ∃ n, w' = w.drewN n) oi v a →
      wpAnyM P ops eff Q fuel (listed.setIfInBounds i true) (a.put oi.dst v) w →
      (match eff.lookup i with
      | some fl => ∀ n, wpOp P ops NoExit i (fun a' w' => FLoat P ops fl listed a' w' ∧ wpAnyM P ops eff Q fuel (listed.setIfInBounds i true) a' w') a (w.drewN n)
      | none => qOp P ops (fun w' => ∃ n, w' = w.drewN n) i (fun a' => wpAnyM P ops eff Q fuel (listed.setIfInBounds i true) a' w) a) := by
    intro fuel listed a w v hy H
    rw [hne]
    exact hy.qOp hi H
  intro fuel
  induction fuel with
  | zero =>
    intro listed a w v _ _ _ _ hr hy H
    refine ⟨fun h => (by rw [h] at hr; cases hr), fun j hj => ?_⟩
    by_cases hji : j = i
    · subst hji; exact self 0 listed a w v hy H
    · have := ready_mono hj hji
      rw [H.1] at this
      cases this
  | succ fuel ih =>
    intro listed a w v hfree hD3 hLD hdown hr hy H
    refine ⟨fun h => (by rw [h] at hr; cases hr), fun j hj => ?_⟩
    by_cases hji : j = i
    · subst hji; exact self (fuel + 1) listed a w v hy H
    · have h1 := H.2 j (ready_mono hj hji)
      obtain ⟨hjun, oj, hoj, hall⟩ := mem_ready.1 hj
      have hiu := (mem_ready.1 hr).1
      have hisz : i < listed.size := by
        rcases Nat.lt_or_ge i listed.size with h' | h'
        · exact h'
        · simp [Array.getElem?_eq_none h'] at hiu
      have hif : listed.getD i false = false := by
        simp [hisz] at hiu ⊢; exact hiu
      have hnot : ∀ e ∈ oj.after, Region.binds .any e = true → e.on ≠ i := fun e he hb heq => by
        have h1 := hall e he hb
        rw [heq, hif] at h1
        cases h1
      have hDj : D j = true := by
        cases hd : D j with
        | true => rfl
        | false =>
          obtain ⟨e, he, hb, hde⟩ := hD2 j oj hoj hd hji
          rw [hLD _ (hall e he hb)] at hde
          cases hde
      have hap := hfree j oj hoj hji hjun hnot
      have hfree' : ∀ k ok, ops[k]? = some ok → k ≠ i → (listed.setIfInBounds j true).getD k true = false →
          (∀ e ∈ ok.after, Region.binds .any e = true → e.on ≠ i) → oi.apart ops ok = true := fun k ok hk hki hun hno => by
        refine hfree k ok hk hki ?_ hno
        by_cases hjk : j = k
        · subst hjk; exact hjun
        · rw [getD_set_ne true hjk] at hun; exact hun
      have hD3' : ∀ k fl, (k, fl) ∈ eff → D k = true → (listed.setIfInBounds j true).getD k true = false → i ∈ fl := fun k fl hk hd hun => by
        refine hD3 k fl hk hd ?_
        by_cases hjk : j = k
        · subst hjk; exact hjun
        · rw [getD_set_ne true hjk] at hun; exact hun
      have hLD' : ∀ k, (listed.setIfInBounds j true).getD k false = true → D k = true := fun k hk => by
        by_cases hjk : j = k
        · subst hjk; exact hDj
        · rw [getD_set_ne false hjk] at hk; exact hLD k hk
      have hdown' : Down ops (listed.setIfInBounds j true) := fun r o ho hl e he hb => by
        by_cases hjr : j = r
        · subst hjr
          have : o = oj := Option.some.inj (ho.symm.trans hoj)
          subst this
          exact getD_set_true (hall e he hb)
        · rw [getD_set_ne false hjr] at hl
          exact getD_set_true (hdown r o ho hl e he hb)
      have hr' := ready_mono hr (Ne.symm hji)
      cases he : eff.lookup j with
      | none =>
        rw [he] at h1
        have h2 := qOp_put hoj hap (fun cs b => hsel i oi cs b hi) (fun cs b => hsel j oj cs b hoj) hy h1
        refine qOp_mono (fun a' h3 => ih (listed.setIfInBounds j true) a' w v hfree' hD3' hLD' hdown' hr' h3.1 ?_) h2
        rw [Array.setIfInBounds_comm _ _ hji]
        exact h3.2
      | some fl =>
        rw [he] at h1
        intro n
        have hmem := lookup_mem he
        have hin := hD3 j fl hmem hDj hjun
        have h2 := wpOp_swap hoj hap (fun cs b => hsel j oj cs b hoj) (h1 n)
        refine wpOp_mono (fun a' w' hh => ?_) h2
        obtain ⟨hF, hM⟩ := hh
        obtain ⟨hself, hoth⟩ := flOk_spec hi (hfl j fl hmem i hin)
        refine ⟨fun r hrm hrl o ho => ?_, ?_⟩
        · have hri : r ≠ i := by rintro rfl; rw [hif] at hrl; cases hrl
          obtain ⟨u, hyu, hhu⟩ := hF r hrm (getD_set_true hrl) o ho
          obtain ⟨_, hoth'⟩ := flOk_spec ho (hfl j fl hmem r hrm)
          have hno : ∀ e ∈ o.after, Region.binds .any e = true → e.on ≠ i := fun e he' hb heq => by
            have := hdown r o ho hrl e he' hb
            rw [heq, hif] at this
            cases this
          obtain ⟨q1, q2⟩ := hoth' i oi hi (Ne.symm hri) hno
          exact ⟨u, YieldsIn.unput (fun cs b => hsel r o cs b ho) q1 hyu, Holds.of_put q2 hhu⟩
        · obtain ⟨v1, hy1, hh1⟩ := hF i hin (by simp [hisz]) oi hi
          have hya : YieldsIn P ops (fun w'' => ∃ n, w'' = w'.drewN n) oi v1 a' := YieldsIn.unput (fun cs b => hsel i oi cs b hi) hself hy1
          refine ih (listed.setIfInBounds j true) a' w' v1 hfree' hD3' hLD' hdown' hr' hya ?_
          have e1 : a'.put oi.dst v1 = a'.put oi.dst v := by
            have := hh1.put_self
            rw [put_put] at this
            exact this
          rw [e1, Array.setIfInBounds_comm _ _ hji]
          exact hM

/-! ### The chosen order -/

/-- What does not stand behind i: each operation's mark is laid once all that it waits for has its own. -/
def behind (ops : Array Oper) (i : Nat) : Array Bool :=
  (List.range ops.size).foldl (fun D j => if j == i then D else match ops[j]? with
    | some o => D.setIfInBounds j (o.after.all fun e => !Region.binds .any e || D.getD e.on false)
    | none => D) (Array.replicate ops.size false)

def notBehindOk (ops : Array Oper) (eff : List (Nat × List Nat)) (listed : Array Bool) (i : Nat) (D : Array Bool) : Bool :=
  !D.getD i false &&
  ((List.range ops.size).all fun j => D.getD j false || j == i || match ops[j]? with | some o => o.after.any fun e => Region.binds .any e && !D.getD e.on false | none => true) &&
  (eff.all fun x => !D.getD x.1 false || listed.getD x.1 true || x.2.contains i) &&
  ((List.range listed.size).all fun j => !listed.getD j false || D.getD j false)

def orderOk (ops : Array Oper) (eff : List (Nat × List Nat)) : List Nat → Array Bool → Bool
  | [], listed => (Region.ready .any ops listed).isEmpty
  | i :: rest, listed =>
    (match eff.lookup i with
      | some _ => Region.ready .any ops listed == [i]
      | none => (Region.ready .any ops listed).contains i && Region.free .any ops listed i && notBehindOk ops eff listed i (behind ops i)) && orderOk ops eff rest (listed.setIfInBounds i true)

def wpLex (P : Program) (ops : Array Oper) (eff : List (Nat × List Nat)) (Q : Exit → Act → World → Prop) : List Nat → World → Act → Prop
  | [], w, a => ∀ n, Q .normal a (w.drewN n)
  | i :: rest, w, a => match eff.lookup i with
    | some fl => ∀ n, wpOp P ops NoExit i (fun a' w' => (∀ r ∈ fl, ∀ o, ops[r]? = some o → ∃ v, YieldsIn P ops (fun w'' => ∃ n, w'' = w'.drewN n) o v a' ∧ Holds a' o.dst v) ∧ wpLex P ops eff Q rest w' a') a (w.drewN n)
    | none => qOp P ops (fun w' => ∃ n, w' = w.drewN n) i (fun a' => wpLex P ops eff Q rest w a') a

theorem M_of_lex {eff : List (Nat × List Nat)} {Q : Exit → Act → World → Prop} (hs : Region.noSelect ops = true) (hfl : ∀ j fl, (j, fl) ∈ eff → ∀ r ∈ fl, flOk ops r = true) :
    ∀ (l : List Nat) (listed : Array Bool) (a : Act) (w : World), orderOk ops eff l listed = true → Down ops listed → wpLex P ops eff Q l w a → wpAnyM P ops eff Q l.length listed a w
  | [], listed, a, w, hB, _, h => ⟨by simpa [orderOk] using hB, h⟩
  | i :: rest, listed, a, w, hB, hdown, h => by
    simp only [orderOk, Bool.and_eq_true] at hB
    obtain ⟨hB, hR⟩ := hB
    unfold wpLex at h
    have down (hr : i ∈ Region.ready .any ops listed) : Down ops (listed.setIfInBounds i true) := by
      obtain ⟨_, oi, hoi, hall⟩ := mem_ready.1 hr
      intro r o ho hl e he hb
      by_cases hir : i = r
      · subst hir
        have : o = oi := Option.some.inj (ho.symm.trans hoi)
        subst this
        exact getD_set_true (hall e he hb)
      · rw [getD_set_ne false hir] at hl
        exact getD_set_true (hdown r o ho hl e he hb)
    cases he : eff.lookup i with
    | some fl =>
      rw [he] at hB h
      have hB' : Region.ready .any ops listed = [i] := by simpa using hB
      refine ⟨fun h0 => (by rw [hB'] at h0; cases h0), fun j hj => ?_⟩
      rw [hB', List.mem_singleton] at hj
      subst hj
      rw [he]
      intro n
      exact wpOp_mono (fun a' w' hh => ⟨fun r hr _ o ho => hh.1 r hr o ho, M_of_lex hs hfl rest _ a' w' hR (down (by rw [hB']; simp)) hh.2⟩) (h n)
    | none =>
      rw [he] at hB h
      simp only [Bool.and_eq_true] at hB
      obtain ⟨⟨hr, hf⟩, hN⟩ := hB
      have hr' : i ∈ Region.ready .any ops listed := by simpa using hr
      obtain ⟨_, oi, hoi, _⟩ := mem_ready.1 hr'
      obtain ⟨v, hy, hK⟩ := yieldsIn_of_qOp hoi h
      unfold notBehindOk at hN
      simp only [Bool.and_eq_true] at hN
      obtain ⟨⟨⟨n1, n2⟩, n3⟩, n4⟩ := hN
      refine M_first hoi he (Region.noSelect_spec hs) hfl (fun j => (behind ops i).getD j false) (by simpa using n1) ?_ rest.length listed a w v (Region.free_spec hoi hf) ?_ ?_ hdown hr' hy
        (M_of_lex hs hfl rest _ _ w hR (down hr') hK)
      · intro j oj hj hd hji
        have := List.all_eq_true.1 n2 j (List.mem_range.2 (Array.getElem?_eq_some_iff.1 hj).1)
        have hd' : (behind ops i).getD j false = false := hd
        rw [hd', hj] at this
        simp only [Bool.false_or, Bool.or_eq_true, beq_iff_eq, hji, false_or] at this
        obtain ⟨e, he', hb⟩ := Array.any_eq_true'.1 this
        simp only [Bool.and_eq_true, Bool.not_eq_true'] at hb
        exact ⟨e, he', hb.1, hb.2⟩
      · intro j fl hj hd hun
        have := List.all_eq_true.1 n3 (j, fl) hj
        have hd' : (behind ops i).getD j false = true := hd
        simp only [hd', hun, Bool.not_true, Bool.false_or] at this
        simpa using this
      · intro j hj
        have hlt : j < listed.size := by
          rcases Nat.lt_or_ge j listed.size with h' | h'
          · exact h'
          · simp [Array.getElem?_eq_none h'] at hj
        have := List.all_eq_true.1 n4 j (List.mem_range.2 hlt)
        rw [hj] at this
        simpa using this

/-! ### The walk: quiet stretches, and an effect behind each -/

def pick (l : List Oper) (is : List Nat) : List Oper := is.map fun i => l.getD i default

/-- What is asked behind an effect: it has come back by no exit; what floats over it yields what it yielded; the rest. -/
def stagePost (P : Program) (l : List Oper) (fl : List Nat) (K : Act → World → Prop) : Exit → Act → World → Prop
  | .normal, a, w => (∀ o ∈ pick l fl, ∃ v, YieldsIn P l.toArray (fun w' => ∃ n, w' = w.drewN n) o v a ∧ Holds a o.dst v) ∧ K a w
  | _, _, _ => False

/-- A stretch of quiet operations, the effect behind it, what floats over that. -/
def wpStages (P : Program) (l : List Oper) (Q : Exit → Act → World → Prop) (last : List Nat) : List (List Nat × Nat × List Nat) → World → Act → Prop
  | [], w, a => wpQuiet P l.toArray (fun w' => ∃ n, w' = w.drewN n) (fun a' => ∀ w', (∃ n, w' = w.drewN n) → Q .normal a' w') (pick l last) a
  | (seg, e, fl) :: rest, w, a =>
    wpQuiet P l.toArray (fun w' => ∃ n, w' = w.drewN n) (fun a' => ∀ w', (∃ n, w' = w.drewN n) → wpList P l.toArray (stagePost P l fl (fun a'' w'' => wpStages P l Q last rest w'' a'')) (pick l [e]) a' w') (pick l seg) a

def effOf (st : List (List Nat × Nat × List Nat)) : List (Nat × List Nat) := st.map fun x => (x.2.1, x.2.2)
def orderOf (st : List (List Nat × Nat × List Nat)) (last : List Nat) : List Nat := st.flatMap (fun x => x.1 ++ [x.2.1]) ++ last

def stagesOk (ops : Array Oper) (st : List (List Nat × Nat × List Nat)) (last : List Nat) : Bool :=
  Region.noSelect ops && ((effOf st).all fun x => x.2.all (flOk ops)) && (st.all fun x => decide (x.2.1 < ops.size) && x.1.all fun i => decide (i < ops.size) && ((effOf st).lookup i).isNone) &&
  (last.all fun i => decide (i < ops.size) && ((effOf st).lookup i).isNone) && (st.all fun x => (effOf st).lookup x.2.1 == some x.2.2) && ((orderOf st last).length == ops.size) && orderOk ops (effOf st) (orderOf st last) (Array.replicate ops.size false)

theorem lex_quiet {l : List Oper} {eff : List (Nat × List Nat)} {Q : Exit → Act → World → Prop} {rest : List Nat} {w : World} : ∀ (seg : List Nat) (a : Act), (∀ i ∈ seg, i < l.toArray.size ∧ eff.lookup i = none) →
    wpQuiet P l.toArray (fun w' => ∃ n, w' = w.drewN n) (fun a' => wpLex P l.toArray eff Q rest w a') (pick l seg) a → wpLex P l.toArray eff Q (seg ++ rest) w a
  | [], a, _, h => h
  | i :: seg, a, hi, h => by
    obtain ⟨hlt, hn⟩ := hi i (List.mem_cons_self ..)
    have hlt' : i < l.length := by simpa using hlt
    have ho : l.toArray[i]? = some l[i] := by simp [hlt']
    have hp : pick l (i :: seg) = l[i] :: pick l seg := by simp [pick, hlt', List.getD]
    rw [hp] at h
    show wpLex P l.toArray eff Q (i :: (seg ++ rest)) w a
    unfold wpLex
    rw [hn]
    have hq : qOp P l.toArray (fun w' => ∃ n, w' = w.drewN n) i (wpQuiet P l.toArray (fun w' => ∃ n, w' = w.drewN n) (fun a' => wpLex P l.toArray eff Q rest w a') (pick l seg)) a := by
      unfold qOp
      rw [ho]
      exact h
    exact qOp_mono (fun a' hh => lex_quiet seg a' (fun j hj => hi j (List.mem_cons_of_mem _ hj)) hh) hq

theorem wpQuiet_mono {C : World → Prop} {Q Q' : Act → Prop} (hq : ∀ a, Q a → Q' a) : ∀ (l : List Oper) (a : Act), wpQuiet P ops C Q l a → wpQuiet P ops C Q' l a
  | [], a, h => hq a h
  | o :: l, a, h => by
    unfold wpQuiet at h ⊢
    split
    · rename_i hw; rw [if_pos hw] at h; exact Oper.quiet_mono (fun a' hh => wpQuiet_mono hq l a' hh) h
    · rename_i hw; rw [if_neg hw] at h; exact wpQuiet_mono hq l _ h

theorem lex_of_stages {l : List Oper} {eff : List (Nat × List Nat)} {Q : Exit → Act → World → Prop} {last : List Nat} (hlast : ∀ i ∈ last, i < l.toArray.size ∧ eff.lookup i = none) :
    ∀ (st : List (List Nat × Nat × List Nat)) (w : World) (a : Act), (∀ x ∈ st, (∀ i ∈ x.1, i < l.toArray.size ∧ eff.lookup i = none) ∧ x.2.1 < l.toArray.size ∧ eff.lookup x.2.1 = some x.2.2) →
    wpStages P l Q last st w a → wpLex P l.toArray eff Q (orderOf st last) w a
  | [], w, a, _, h => by
    have : orderOf ([] : List (List Nat × Nat × List Nat)) last = last ++ [] := by simp [orderOf]
    rw [this]
    refine lex_quiet last a hlast (wpQuiet_mono (fun a' hh => ?_) _ _ h)
    intro n
    exact hh _ ⟨n, rfl⟩
  | (seg, e, fl) :: rest, w, a, hx, h => by
    obtain ⟨h1, h2, h3⟩ := hx _ (List.mem_cons_self ..)
    simp only at h1 h2 h3
    have h2' : e < l.length := by simpa using h2
    have : orderOf ((seg, e, fl) :: rest) last = seg ++ (e :: orderOf rest last) := by simp [orderOf]
    rw [this]
    refine lex_quiet seg a h1 (wpQuiet_mono (fun a' hh => ?_) _ _ h)
    unfold wpLex
    rw [h3]
    intro n
    have hh' := hh _ ⟨n, rfl⟩
    have ho : l.toArray[e]? = some l[e] := by simp [h2']
    have hp : pick l [e] = [l[e]] := by simp [pick, h2', List.getD]
    rw [hp] at hh'
    have key : ∀ (a' : Act) (w' : World), wpList P l.toArray (stagePost P l fl (fun a'' w'' => wpStages P l Q last rest w'' a'')) [] a' w' →
        (∀ r ∈ fl, ∀ o, l.toArray[r]? = some o → ∃ v, YieldsIn P l.toArray (fun w'' => ∃ n, w'' = w'.drewN n) o v a' ∧ Holds a' o.dst v) ∧ wpLex P l.toArray eff Q (orderOf rest last) w' a' := by
      intro a' w' hk
      obtain ⟨k1, k2⟩ : (∀ o ∈ pick l fl, ∃ v, YieldsIn P l.toArray (fun w'' => ∃ n, w'' = w'.drewN n) o v a' ∧ Holds a' o.dst v) ∧ wpStages P l Q last rest w' a' := hk
      exact ⟨fun r hr o ho => k1 o (List.mem_map.2 ⟨r, hr, by simp only [List.getElem?_toArray] at ho; simp [List.getD, ho]⟩), lex_of_stages hlast rest w' a' (fun x hxx => hx x (List.mem_cons_of_mem _ hxx)) k2⟩
    unfold wpOp
    rw [ho]
    simp only
    unfold wpList at hh'
    split
    · rename_i hw
      rw [if_pos hw] at hh'
      rcases hh' with hh' | ⟨_, x, y, hz⟩
      · refine .inl (Oper.wp_mono key ?_)
        revert hh'
        unfold Oper.wp
        generalize (execOp a'.eval l[e]).run P (w.drewN n) = r
        intro hh'
        cases r with
        | ok k w' =>
          cases k <;> simp only [Oper.upon] at hh' ⊢ <;> exact hh'
        | halt x w' =>
          cases x <;> simp only [Oper.upon] at hh' ⊢
          case panic u => exact hh'.elim
      · exact hz.elim
    · rename_i hw
      rw [if_neg hw] at hh'
      exact key _ _ hh'

/-- **A region that draws its order, by stages.** -/
theorem wp_region_stages {id : Nat} {Q : Exit → Act → World → Prop} {a : Act} {w : World} {l : List Oper} (st : List (List Nat × Nat × List Nat)) (last : List Nat) (hm : P.follows .mixedOrders = true) (hB : stagesOk l.toArray st last = true)
    (h : wpStages P l Q last st w a) : (Code.region id l.toArray true).wp P Q a w := by
  unfold stagesOk at hB
  simp only [Bool.and_eq_true, List.all_eq_true, decide_eq_true_eq, beq_iff_eq, Option.isNone_iff_eq_none] at hB
  obtain ⟨⟨⟨⟨⟨⟨b1, b2⟩, b3⟩, b4⟩, b5⟩, b6⟩, b7⟩ := hB
  have hlex := lex_of_stages (P := P) (Q := Q) (eff := effOf st) b4 st w a (fun x hx => ⟨(b3 x hx).2, (b3 x hx).1, b5 x hx⟩) h
  have hM := M_of_lex (P := P) (Q := Q) b1 (fun j fl hj r hr => b2 (j, fl) hj r hr) (orderOf st last) (Array.replicate l.toArray.size false) a w b7
    (fun r o _ hl => by
      exfalso
      simp [Array.getElem?_replicate] at hl
      split at hl <;> simp at hl) hlex
  rw [b6] at hM
  exact wp_region_any hm (wpAny_of_M _ _ a w hM 1)
/-- The effect at the end of a stretch, and what stands behind it. -/
def EffThen (P : Program) (l : List Oper) (Q : Exit → Act → World → Prop) (last : List Nat) (e : Nat) (fl : List Nat) (rest : List (List Nat × Nat × List Nat)) (w : World) (a : Act) : Prop :=
  ∀ n, wpList P l.toArray (stagePost P l fl (fun a'' w'' => wpStages P l Q last rest w'' a'')) (pick l [e]) a (w.drewN n)
def LastThen (Q : Exit → Act → World → Prop) (w : World) (a : Act) : Prop := ∀ n, Q .normal a (w.drewN n)
theorem wpStages_step {Q : Exit → Act → World → Prop} {a : Act} {w : World} {l : List Oper} {last seg fl : List Nat} {e : Nat} {rest : List (List Nat × Nat × List Nat)} (h : wpQuiet P l.toArray (fun w' => ∃ n, w' = w.drewN n) (EffThen P l Q last e fl rest w) (pick l seg) a) :
    wpStages P l Q last ((seg, e, fl) :: rest) w a := wpQuiet_mono (fun a' hh w' ⟨n, hn⟩ => by subst hn; exact hh n) _ _ h
theorem wpStages_last {Q : Exit → Act → World → Prop} {a : Act} {w : World} {l : List Oper} {last : List Nat} (h : wpQuiet P l.toArray (fun w' => ∃ n, w' = w.drewN n) (LastThen Q w) (pick l last) a) :
    wpStages P l Q last [] w a := wpQuiet_mono (fun a' hh w' ⟨n, hn⟩ => by subst hn; exact hh n) _ _ h
theorem stagePost_mk {a : Act} {w : World} {l : List Oper} {fl : List Nat} {K : Act → World → Prop} (h : ∀ o ∈ pick l fl, ∃ v, YieldsIn P l.toArray (fun w' => ∃ n, w' = w.drewN n) o v a ∧ Holds a o.dst v) (hk : K a w) : stagePost P l fl K .normal a w := ⟨h, hk⟩

/-- A callee that leaves the world as it is, called in a quiet stretch. -/
theorem quiet_eq {f : FuncId} {args : Array Value} {w : World} {n : Nat} {v : Value} (h : Calls P f args (w.drewN n) fun e w' => e = .returned v ∧ w.drewN n = w') : Calls P f args (w.drewN n) fun e w'' => e = .returned v ∧ ∃ m, w'' = w.drewN m :=
  h.mono fun _ _ ⟨he, hm⟩ => ⟨he, n, hm.symm⟩

/-! ### What floats: moves -/
theorem float_move {C : World → Prop} {o : Oper} {a : Act} (x : Operand) (h : o.op = .move x) (hw : Region.wanted o (yielded ops a.tmps) = true) (hh : Holds a o.dst (a.eval x)) :
    ∃ v, YieldsIn P ops C o v a ∧ Holds a o.dst v :=
  ⟨_, .inl ⟨hw, fun w _ => by unfold Oper.quietAt; rw [BigFrame.run_move x h]; exact ⟨rfl, rfl⟩⟩, hh⟩
theorem float_skip {C : World → Prop} {o : Oper} {a : Act} (hw : Region.wanted o (yielded ops a.tmps) = false) (hh : Holds a o.dst undef) :
    ∃ v, YieldsIn P ops C o v a ∧ Holds a o.dst v := ⟨_, .inr ⟨hw, rfl⟩, hh⟩
theorem holds_of {a : Act} {d : Tmp} {v : Value} (h : a.tmps[d]? = some v) : Holds a (some d) v := fun d' hd => by cases hd; exact .inr h
end
end Go.Proofs.YtjabeabbaambcaaDoor
