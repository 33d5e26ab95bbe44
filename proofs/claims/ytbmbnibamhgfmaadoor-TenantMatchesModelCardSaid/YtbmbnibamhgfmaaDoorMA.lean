/- Several texts in one: Base, Stages, Float, Stages2, Stages3, Stages4, Mem, Str, Trim, Shell, Args. -/
import Derived.Test.YtbmbnibamhgfmaaDoorProg
import Derived.WalkKit
import Derived.ProofKit
import Derived.Handy
import Derived.Below
import Derived.WalkLawsBesides
import Derived.Deep.DeepMust
import Derived.Deep.QuietTactic
import Derived.BigQuiet
import Derived.Orders
import Derived.Still
import Derived.Maps.AppendAt
import Derived.Deep.AppendLies
import Derived.RegionTactic
import Derived.Laws.BytesArg
import Derived.Laws.IdiomStrings
import Derived.ChangeOld
import Derived.SizedLaws
import Derived.OpenShut
import Derived.ShutString
import Derived.JoinedOf
import Derived.Deep.Slices
/- Words and small lemmas on memory and numbers, over no program: what a slice of integers reads as, blocks that are known whole, worlds that differ in new blocks alone. -/
namespace Go.Proofs.YtbmbnibamhgfmaaDoor
open Go.RowKit

theorem hid {p : Prop} (h : p) : Hid p := h

/-- The i-th number of a list, 0 behind its end. -/
def at_ (zs : List Int) (i : Nat) : Int := zs.getD i 0

theorem at_take_succ (zs : List Int) (k : Nat) (h : k < zs.length) : zs.take (k + 1) = zs.take k ++ [at_ zs k] := by
  rw [List.take_succ_eq_append_getElem h]; simp [at_, List.getD, h]
theorem at_mem (zs : List Int) (k : Nat) (h : k < zs.length) : at_ zs k ∈ zs := by
  simp [at_, List.getD, h]

/-- A slice of integers that lies below block B: its elements. -/
def RdI (k : IntKind) (w : World) (B : Nat) (A : Option Addr) (len : Nat) (zs : List Int) : Prop :=
  zs.length = len ∧ (0 < len → ∃ b off, A = some ⟨b, off, none⟩ ∧ b < B ∧ ∀ i, i < len → w.cell? ⟨b, off + i, none⟩ = some (.int k (at_ zs i)))

theorem RdI.nil (k : IntKind) (w : World) (B : Nat) (A : Option Addr) : RdI k w B A 0 [] := ⟨rfl, fun h => absurd h (by omega)⟩
theorem RdI.below {k : IntKind} {w w' : World} {B len : Nat} {A : Option Addr} {zs : List Int} (h : RdI k w B A len zs) (hb : Below B w w') : RdI k w' B A len zs :=
  ⟨h.1, fun hp => by
    obtain ⟨b, off, e, hB, hc⟩ := h.2 hp
    exact ⟨b, off, e, hB, fun i hi => (hb.cell hB).trans (hc i hi)⟩⟩
theorem RdI.more {k : IntKind} {w : World} {B B' len : Nat} {A : Option Addr} {zs : List Int} (h : RdI k w B A len zs) (hb : B ≤ B') : RdI k w B' A len zs :=
  ⟨h.1, fun hp => by
    obtain ⟨b, off, e, hB, hc⟩ := h.2 hp
    exact ⟨b, off, e, by omega, hc⟩⟩
/-- A block just made reads as what it was made of. -/
theorem RdI.new (k : IntKind) (w : World) (zs : List Int) (n : Nat) (hn : zs.length = n) (t : TypeId) :
    RdI k (w.alloc (.cells (zs.map (Value.int k)).toArray t)) (w.heap.size + 1) (some ⟨w.heap.size, 0, none⟩) n zs :=
  ⟨hn, fun _ => ⟨_, _, rfl, by omega, fun i hi => by
    rw [Nat.zero_add, World.cell?_alloc_new]
    simp [at_, List.getD, hn ▸ hi]⟩⟩

theorem Below.cells {B : Nat} {w w' : World} (h : Below B w w') : (∀ b o, b < B → w'.cell? ⟨b, o, none⟩ = w.cell? ⟨b, o, none⟩) ∧ (∀ b o, b < B → w'.frozen? ⟨b, o, none⟩ = w.frozen? ⟨b, o, none⟩) :=
  ⟨fun b o hb => h.cell (p := ⟨b, o, none⟩) hb, fun b o hb => h.frozen (p := ⟨b, o, none⟩) hb⟩

theorem ret_int {k : IntKind} {a b : Int} (h : a = b) : Ending.returned (.int k a) = .returned (.int k b) := by rw [h]
theorem ret_bool {a b : Bool} (h : a = b) : Ending.returned (.bool a) = .returned (.bool b) := by rw [h]
end Go.Proofs.YtbmbnibamhgfmaaDoor

/- A region that draws its order and holds operations that turn the world ('effects': each waits for the one ahead of it, and all that stands behind it in the chosen order waits for it):
   one walk, in a chosen order, serves every order. Between two effects the operations are quiet. An operation that does not wait for an effect and that the effect does not wait for ('floats over it') is asked once more behind it: it yields what it yielded. -/
namespace Go.Proofs.YtbmbnibamhgfmaaDoor
open Go.RowKit

/-- No exit is let: an effect that panics is not served. -/
def NoExit : Exit → Act → World → Prop := fun _ _ _ => False
theorem not_letsOut : ¬ LetsOut NoExit := fun ⟨_, _, h⟩ => h

section
variable {P : Program} {ops : Array Oper}

def Holds (a : Act) (dst : Option Tmp) (v : Value) : Prop := ∀ d, dst = some d → a.tmps[d]? = none ∨ a.tmps[d]? = some v
theorem Holds.put_self {a : Act} {dst : Option Tmp} {v : Value} (h : Holds a dst v) : a.put dst v = a := by
  cases dst with
  | none => rfl
  | some d =>
    unfold Act.put
    have : a.tmps.setIfInBounds d v = a.tmps := by
      apply Array.ext_getElem?
      intro i
      by_cases hi : d = i
      · subst hi
        rcases h d rfl with h1 | h1
        · rw [Array.getElem?_setIfInBounds_self, h1]
          simp only [Array.getElem?_eq_none_iff] at h1
          rw [if_neg (by omega)]
        · have hlt : d < a.tmps.size := (Array.getElem?_eq_some_iff.1 h1).1
          rw [Array.getElem?_setIfInBounds_self, if_pos hlt, h1]
      · rw [Array.getElem?_setIfInBounds_ne hi]
    cases a
    simp only at this ⊢
    rw [this]
theorem Holds.of_put {a : Act} {x dst : Option Tmp} {u v : Value} (hne : ∀ d, x = some d → dst ≠ some d) (h : Holds (a.put x u) dst v) : Holds a dst v := by
  intro d hd
  have := h d hd
  cases x with
  | none => exact this
  | some e =>
    have hed : e ≠ d := fun he => hne e rfl (he ▸ hd)
    simpa [Act.put, Array.getElem?_setIfInBounds_ne hed] using this
theorem put_put (a : Act) (x : Option Tmp) (u v : Value) : (a.put x u).put x v = a.put x v := by
  cases x with
  | none => rfl
  | some d => simp [Act.put]

/-- Behind an effect: each of the operations 'fl' that has come up yields once more what its temporary holds. -/
def FLoat (P : Program) (ops : Array Oper) (fl : List Nat) (listed : Array Bool) (a : Act) (w : World) : Prop :=
  ∀ r ∈ fl, listed.getD r false = true → ∀ o, ops[r]? = some o → ∃ v, YieldsIn P ops (fun w' => ∃ n, w' = w.drewN n) o v a ∧ Holds a o.dst v

/-- Whatever order: quiet operations and effects. -/
def wpAnyM (P : Program) (ops : Array Oper) (eff : List (Nat × List Nat)) (Q : Exit → Act → World → Prop) : Nat → Array Bool → Act → World → Prop
  | 0, listed, a, w => Region.ready .any ops listed = [] ∧ ∀ n, Q .normal a (w.drewN n)
  | fuel + 1, listed, a, w => (Region.ready .any ops listed = [] → ∀ n, Q .normal a (w.drewN n)) ∧ ∀ i ∈ Region.ready .any ops listed,
      match eff.lookup i with
      | some fl => ∀ n, wpOp P ops NoExit i (fun a' w' => FLoat P ops fl listed a' w' ∧ wpAnyM P ops eff Q fuel (listed.setIfInBounds i true) a' w') a (w.drewN n)
      | none => qOp P ops (fun w' => ∃ n, w' = w.drewN n) i (fun a' => wpAnyM P ops eff Q fuel (listed.setIfInBounds i true) a' w) a

theorem Oper.wp_noExit {o : Oper} {a : Act} {w : World} {K : Act → World → Prop} {Q : Exit → Act → World → Prop} (h : o.wp P a w K NoExit) : o.wp P a w K Q := by
  unfold Oper.wp at *
  generalize (execOp a.eval o).run P w = r at *
  cases r with
  | ok n w' =>
    cases n <;> simp only [Oper.upon] at h ⊢ <;> first | exact h | skip
    case enter f args =>
      refine Calls.mono h fun e w'' he => ?_
      cases e with
      | returned u => exact he
      | panicked c => exact he.elim
      | outgrown => exact (not_letsOut he).elim
  | halt x w' =>
    cases x <;> simp only [Oper.upon] at h ⊢
    case panic u => exact h.elim

theorem wpOp_noExit {i : Nat} {a : Act} {w : World} {K : Act → World → Prop} {Q : Exit → Act → World → Prop} (h : wpOp P ops NoExit i K a w) : wpOp P ops Q i K a w := by
  unfold wpOp at *
  split
  · rename_i ho; simp only [ho] at h; exact h
  · rename_i o ho
    simp only [ho] at h
    split
    · rename_i hw
      simp only [hw, if_true] at h
      rcases h with h | ⟨_, h⟩
      · exact .inl (Oper.wp_noExit h)
      · exact (not_letsOut h).elim
    · rename_i hw; simp only [hw] at h; exact h

theorem wpAny_of_M {eff : List (Nat × List Nat)} {Q : Exit → Act → World → Prop} : ∀ (fuel : Nat) (listed : Array Bool) (a : Act) (w : World), wpAnyM P ops eff Q fuel listed a w → ∀ n, wpAny P .any ops Q fuel listed a (w.drewN n)
  | 0, _, _, _, h, n => ⟨h.1, h.2 n⟩
  | fuel + 1, listed, a, w, h, n => ⟨fun h0 => h.1 h0 n, fun i hi => by
      have hi' := h.2 i hi
      cases he : eff.lookup i with
      | some fl =>
        rw [he] at hi'
        exact wpOp_mono (fun a' w' hh => wpAny_of_M fuel _ a' w' hh.2 0) (wpOp_noExit (hi' n))
      | none =>
        rw [he] at hi'
        refine wpOp_of_qOp (C := fun w' => ∃ n, w' = w.drewN n) ⟨n, rfl⟩ (fun a' w' ⟨m, hm⟩ hh => ?_) hi'
        subst hm
        exact wpAny_of_M fuel _ a' w hh m⟩

/-- An effect, apart from 'oi': whether oi's value is already in its temporary makes no difference to it. -/
theorem wpOp_swap {j : Nat} {oi oj : Oper} {v : Value} (hj : ops[j]? = some oj) (hap : oi.apart ops oj = true) (hsj : ∀ cs b, oj.op ≠ .select cs b) {K : Act → World → Prop} {a : Act} {w : World}
    (h : wpOp P ops NoExit j K (a.put oi.dst v) w) : wpOp P ops NoExit j (fun a' w' => K (a'.put oi.dst v) w') a w := by
  obtain ⟨h1, h2, _⟩ := Oper.apart_spec hap
  unfold wpOp at *
  simp only [hj] at *
  rw [wanted_put oj a oi.dst v h1] at h
  split
  · rename_i hw
    simp only [hw, if_true] at h
    rcases h with h | ⟨_, hlets⟩
    case inr => exact (not_letsOut hlets).elim
    refine .inl ?_
    unfold Oper.wp at *
    rw [execOp_put oj hsj a oi.dst v h1] at h
    generalize (execOp a.eval oj).run P w = r at *
    cases r with
    | ok n w' =>
      cases n <;> simp only [Oper.upon] at h ⊢
      case value u => rw [← Act.put_comm a v u h2]; exact h
      case skip => rw [← Act.put_comm a v undef h2]; exact h
      case defer d => rw [← Act.put_comm _ v undef h2, ← Act.put_defers]; exact h
      case enter f args =>
        refine Calls.mono h fun e w'' he => ?_
        cases e with
        | returned u => simp only at he ⊢; rw [← Act.put_comm a v u h2]; exact he
        | panicked c => exact he
        | outgrown => exact he
      case row row args => exact Rows.mono h fun u w'' he => by rw [← Act.put_comm a v u h2]; exact he
    | halt x w' => cases x <;> simp only [Oper.upon] at h ⊢; exact h
  · rename_i hw
    simp only [hw] at h
    rw [← Act.put_comm a v undef h2]; exact h

theorem lookup_mem {eff : List (Nat × List Nat)} {j : Nat} {fl : List Nat} (h : eff.lookup j = some fl) : (j, fl) ∈ eff := by
  induction eff with
  | nil => simp at h
  | cons x xs ih =>
    obtain ⟨k, l⟩ := x
    simp only [List.lookup_cons] at h
    split at h
    · rename_i hk
      simp only [beq_iff_eq] at hk
      simp only [Option.some.injEq] at h
      subst hk; subst h
      exact List.mem_cons_self ..
    · exact List.mem_cons_of_mem _ (ih h)

/-- Static: what floats is looked at anew as it was: no other operation writes what it reads, but those that it waits for; none writes its own temporary. -/
def flOk (ops : Array Oper) (r : Nat) : Bool :=
  match ops[r]? with
  | none => false
  | some o => (match o.dst with | some d => !(o.looksAt ops).contains d | none => true) &&
    (List.range ops.size).all fun x => x == r || (o.after.any fun e => Region.binds .any e && e.on == x) ||
      match ops[x]? with
      | some ox => (match ox.dst with | some d => !(o.looksAt ops).contains d && o.dst != some d | none => true)
      | none => true

theorem flOk_spec {r : Nat} {o : Oper} (ho : ops[r]? = some o) (h : flOk ops r = true) :
    (∀ d, o.dst = some d → d ∉ o.looksAt ops) ∧
    ∀ x ox, ops[x]? = some ox → x ≠ r → (∀ e ∈ o.after, Region.binds .any e = true → e.on ≠ x) → (∀ d, ox.dst = some d → d ∉ o.looksAt ops) ∧ (∀ d, ox.dst = some d → o.dst ≠ some d) := by
  unfold flOk at h
  rw [ho] at h
  simp only [Bool.and_eq_true] at h
  obtain ⟨h1, h2⟩ := h
  refine ⟨fun d hd => ?_, fun x ox hx hne hno => ?_⟩
  · rw [hd] at h1; simpa using h1
  · have := List.all_eq_true.1 h2 x (List.mem_range.2 (Array.getElem?_eq_some_iff.1 hx).1)
    simp only [Bool.or_eq_true, beq_iff_eq, hne, false_or] at this
    rcases this with h3 | h3
    · obtain ⟨e, he, hb⟩ := Array.any_eq_true'.1 h3
      simp only [Bool.and_eq_true, beq_iff_eq] at hb
      exact absurd hb.2 (hno e he hb.1)
    · rw [hx] at h3
      dsimp only at h3
      refine ⟨fun d hd => ?_, fun d hd => ?_⟩ <;> rw [hd] at h3 <;> simp at h3
      · exact h3.1
      · exact h3.2

def Down (ops : Array Oper) (listed : Array Bool) : Prop := ∀ r o, ops[r]? = some o → listed.getD r false = true → ∀ e ∈ o.after, Region.binds .any e = true → listed.getD e.on false = true

theorem YieldsIn.unput {C : World → Prop} {o : Oper} {v : Value} {a : Act} {x : Option Tmp} {u : Value} (hs : ∀ cs b, o.op ≠ .select cs b) (hx : ∀ d, x = some d → d ∉ o.looksAt ops) (h : YieldsIn P ops C o v (a.put x u)) : YieldsIn P ops C o v a :=
  h.of_same (execOp_put o hs a x u hx).symm (wanted_put o a x u hx).symm

theorem M_first {eff : List (Nat × List Nat)} {Q : Exit → Act → World → Prop} {i : Nat} {oi : Oper} (hi : ops[i]? = some oi) (hne : eff.lookup i = none)
    (hsel : ∀ (j : Nat) (o : Oper) cs b, ops[j]? = some o → o.op ≠ .select cs b) (hfl : ∀ j fl, (j, fl) ∈ eff → ∀ r ∈ fl, flOk ops r = true)
    (D : Nat → Bool) (hD1 : D i = false) (hD2 : ∀ j oj, ops[j]? = some oj → D j = false → j ≠ i → ∃ e ∈ oj.after, Region.binds .any e = true ∧ D e.on = false) :
    ∀ (fuel : Nat) (listed : Array Bool) (a : Act) (w : World) (v : Value),
      (∀ j oj, ops[j]? = some oj → j ≠ i → listed.getD j true = false → (∀ e ∈ oj.after, Region.binds .any e = true → e.on ≠ i) → oi.apart ops oj = true) →
      (∀ j fl, (j, fl) ∈ eff → D j = true → listed.getD j true = false → i ∈ fl) → (∀ j, listed.getD j false = true → D j = true) → Down ops listed →
      i ∈ Region.ready .any ops listed → YieldsIn P ops (fun w' => ∃ n, w' = w.drewN n) oi v a →
      wpAnyM P ops eff Q fuel (listed.setIfInBounds i true) (a.put oi.dst v) w → wpAnyM P ops eff Q (fuel + 1) listed a w := by
  have self : ∀ (fuel : Nat) (listed : Array Bool) (a : Act) (w : World) (v : Value), YieldsIn P ops (fun w' => ∃ n, w' = w.drewN n) oi v a →
      wpAnyM P ops eff Q fuel (listed.setIfInBounds i true) (a.put oi.dst v) w →
      (match eff.lookup i with
      | some fl => ∀ n, wpOp P ops NoExit i (fun a' w' => FLoat P ops fl listed a' w' ∧ wpAnyM P ops eff Q fuel (listed.setIfInBounds i true) a' w') a (w.drewN n)
      | none => qOp P ops (fun w' => ∃ n, w' = w.drewN n) i (fun a' => wpAnyM P ops eff Q fuel (listed.setIfInBounds i true) a' w) a) := by
    intro fuel listed a w v hy H
    rw [hne]
    exact hy.qOp hi H
  intro fuel
  induction fuel with
  | zero =>
    intro listed a w v _ _ _ _ hr hy H
    refine ⟨fun h => (by rw [h] at hr; cases hr), fun j hj => ?_⟩
    by_cases hji : j = i
    · subst hji; exact self 0 listed a w v hy H
    · have := ready_mono hj hji
      rw [H.1] at this
      cases this
  | succ fuel ih =>
    intro listed a w v hfree hD3 hLD hdown hr hy H
    refine ⟨fun h => (by rw [h] at hr; cases hr), fun j hj => ?_⟩
    by_cases hji : j = i
    · subst hji; exact self (fuel + 1) listed a w v hy H
    · have h1 := H.2 j (ready_mono hj hji)
      obtain ⟨hjun, oj, hoj, hall⟩ := mem_ready.1 hj
      have hiu := (mem_ready.1 hr).1
      have hisz : i < listed.size := by
        rcases Nat.lt_or_ge i listed.size with h' | h'
        · exact h'
        · simp [Array.getElem?_eq_none h'] at hiu
      have hif : listed.getD i false = false := by
        simp [hisz] at hiu ⊢; exact hiu
      have hnot : ∀ e ∈ oj.after, Region.binds .any e = true → e.on ≠ i := fun e he hb heq => by
        have h1 := hall e he hb
        rw [heq, hif] at h1
        cases h1
      have hDj : D j = true := by
        cases hd : D j with
        | true => rfl
        | false =>
          obtain ⟨e, he, hb, hde⟩ := hD2 j oj hoj hd hji
          rw [hLD _ (hall e he hb)] at hde
          cases hde
      have hap := hfree j oj hoj hji hjun hnot
      have hfree' : ∀ k ok, ops[k]? = some ok → k ≠ i → (listed.setIfInBounds j true).getD k true = false →
          (∀ e ∈ ok.after, Region.binds .any e = true → e.on ≠ i) → oi.apart ops ok = true := fun k ok hk hki hun hno => by
        refine hfree k ok hk hki ?_ hno
        by_cases hjk : j = k
        · subst hjk; exact hjun
        · rw [getD_set_ne true hjk] at hun; exact hun
      have hD3' : ∀ k fl, (k, fl) ∈ eff → D k = true → (listed.setIfInBounds j true).getD k true = false → i ∈ fl := fun k fl hk hd hun => by
        refine hD3 k fl hk hd ?_
        by_cases hjk : j = k
        · subst hjk; exact hjun
        · rw [getD_set_ne true hjk] at hun; exact hun
      have hLD' : ∀ k, (listed.setIfInBounds j true).getD k false = true → D k = true := fun k hk => by
        by_cases hjk : j = k
        · subst hjk; exact hDj
        · rw [getD_set_ne false hjk] at hk; exact hLD k hk
      have hdown' : Down ops (listed.setIfInBounds j true) := fun r o ho hl e he hb => by
        by_cases hjr : j = r
        · subst hjr
          have : o = oj := Option.some.inj (ho.symm.trans hoj)
          subst this
          exact getD_set_true (hall e he hb)
        · rw [getD_set_ne false hjr] at hl
          exact getD_set_true (hdown r o ho hl e he hb)
      have hr' := ready_mono hr (Ne.symm hji)
      cases he : eff.lookup j with
      | none =>
        rw [he] at h1
        have h2 := qOp_put hoj hap (fun cs b => hsel i oi cs b hi) (fun cs b => hsel j oj cs b hoj) hy h1
        refine qOp_mono (fun a' h3 => ih (listed.setIfInBounds j true) a' w v hfree' hD3' hLD' hdown' hr' h3.1 ?_) h2
        rw [Array.setIfInBounds_comm _ _ hji]
        exact h3.2
      | some fl =>
        rw [he] at h1
        intro n
        have hmem := lookup_mem he
        have hin := hD3 j fl hmem hDj hjun
        have h2 := wpOp_swap hoj hap (fun cs b => hsel j oj cs b hoj) (h1 n)
        refine wpOp_mono (fun a' w' hh => ?_) h2
        obtain ⟨hF, hM⟩ := hh
        obtain ⟨hself, hoth⟩ := flOk_spec hi (hfl j fl hmem i hin)
        refine ⟨fun r hrm hrl o ho => ?_, ?_⟩
        · have hri : r ≠ i := by rintro rfl; rw [hif] at hrl; cases hrl
          obtain ⟨u, hyu, hhu⟩ := hF r hrm (getD_set_true hrl) o ho
          obtain ⟨_, hoth'⟩ := flOk_spec ho (hfl j fl hmem r hrm)
          have hno : ∀ e ∈ o.after, Region.binds .any e = true → e.on ≠ i := fun e he' hb heq => by
            have := hdown r o ho hrl e he' hb
            rw [heq, hif] at this
            cases this
          obtain ⟨q1, q2⟩ := hoth' i oi hi (Ne.symm hri) hno
          exact ⟨u, YieldsIn.unput (fun cs b => hsel r o cs b ho) q1 hyu, Holds.of_put q2 hhu⟩
        · obtain ⟨v1, hy1, hh1⟩ := hF i hin (by simp [hisz]) oi hi
          have hya : YieldsIn P ops (fun w'' => ∃ n, w'' = w'.drewN n) oi v1 a' := YieldsIn.unput (fun cs b => hsel i oi cs b hi) hself hy1
          refine ih (listed.setIfInBounds j true) a' w' v1 hfree' hD3' hLD' hdown' hr' hya ?_
          have e1 : a'.put oi.dst v1 = a'.put oi.dst v := by
            have := hh1.put_self
            rw [put_put] at this
            exact this
          rw [e1, Array.setIfInBounds_comm _ _ hji]
          exact hM

/-! ### The chosen order -/

/-- What does not stand behind i: each operation's mark is laid once all that it waits for has its own. -/
def behind (ops : Array Oper) (i : Nat) : Array Bool :=
  (List.range ops.size).foldl (fun D j => if j == i then D else match ops[j]? with
    | some o => D.setIfInBounds j (o.after.all fun e => !Region.binds .any e || D.getD e.on false)
    | none => D) (Array.replicate ops.size false)

def notBehindOk (ops : Array Oper) (eff : List (Nat × List Nat)) (listed : Array Bool) (i : Nat) (D : Array Bool) : Bool :=
  !D.getD i false &&
  ((List.range ops.size).all fun j => D.getD j false || j == i || match ops[j]? with | some o => o.after.any fun e => Region.binds .any e && !D.getD e.on false | none => true) &&
  (eff.all fun x => !D.getD x.1 false || listed.getD x.1 true || x.2.contains i) &&
  ((List.range listed.size).all fun j => !listed.getD j false || D.getD j false)

def orderOk (ops : Array Oper) (eff : List (Nat × List Nat)) : List Nat → Array Bool → Bool
  | [], listed => (Region.ready .any ops listed).isEmpty
  | i :: rest, listed =>
    (match eff.lookup i with
      | some _ => Region.ready .any ops listed == [i]
      | none => (Region.ready .any ops listed).contains i && Region.free .any ops listed i && notBehindOk ops eff listed i (behind ops i)) && orderOk ops eff rest (listed.setIfInBounds i true)

def wpLex (P : Program) (ops : Array Oper) (eff : List (Nat × List Nat)) (Q : Exit → Act → World → Prop) : List Nat → World → Act → Prop
  | [], w, a => ∀ n, Q .normal a (w.drewN n)
  | i :: rest, w, a => match eff.lookup i with
    | some fl => ∀ n, wpOp P ops NoExit i (fun a' w' => (∀ r ∈ fl, ∀ o, ops[r]? = some o → ∃ v, YieldsIn P ops (fun w'' => ∃ n, w'' = w'.drewN n) o v a' ∧ Holds a' o.dst v) ∧ wpLex P ops eff Q rest w' a') a (w.drewN n)
    | none => qOp P ops (fun w' => ∃ n, w' = w.drewN n) i (fun a' => wpLex P ops eff Q rest w a') a

theorem M_of_lex {eff : List (Nat × List Nat)} {Q : Exit → Act → World → Prop} (hs : Region.noSelect ops = true) (hfl : ∀ j fl, (j, fl) ∈ eff → ∀ r ∈ fl, flOk ops r = true) :
    ∀ (l : List Nat) (listed : Array Bool) (a : Act) (w : World), orderOk ops eff l listed = true → Down ops listed → wpLex P ops eff Q l w a → wpAnyM P ops eff Q l.length listed a w
  | [], listed, a, w, hB, _, h => ⟨by simpa [orderOk] using hB, h⟩
  | i :: rest, listed, a, w, hB, hdown, h => by
    simp only [orderOk, Bool.and_eq_true] at hB
    obtain ⟨hB, hR⟩ := hB
    unfold wpLex at h
    have down (hr : i ∈ Region.ready .any ops listed) : Down ops (listed.setIfInBounds i true) := by
      obtain ⟨_, oi, hoi, hall⟩ := mem_ready.1 hr
      intro r o ho hl e he hb
      by_cases hir : i = r
      · subst hir
        have : o = oi := Option.some.inj (ho.symm.trans hoi)
        subst this
        exact getD_set_true (hall e he hb)
      · rw [getD_set_ne false hir] at hl
        exact getD_set_true (hdown r o ho hl e he hb)
    cases he : eff.lookup i with
    | some fl =>
      rw [he] at hB h
      have hB' : Region.ready .any ops listed = [i] := by simpa using hB
      refine ⟨fun h0 => (by rw [hB'] at h0; cases h0), fun j hj => ?_⟩
      rw [hB', List.mem_singleton] at hj
      subst hj
      rw [he]
      intro n
      exact wpOp_mono (fun a' w' hh => ⟨fun r hr _ o ho => hh.1 r hr o ho, M_of_lex hs hfl rest _ a' w' hR (down (by rw [hB']; simp)) hh.2⟩) (h n)
    | none =>
      rw [he] at hB h
      simp only [Bool.and_eq_true] at hB
      obtain ⟨⟨hr, hf⟩, hN⟩ := hB
      have hr' : i ∈ Region.ready .any ops listed := by simpa using hr
      obtain ⟨_, oi, hoi, _⟩ := mem_ready.1 hr'
      obtain ⟨v, hy, hK⟩ := yieldsIn_of_qOp hoi h
      unfold notBehindOk at hN
      simp only [Bool.and_eq_true] at hN
      obtain ⟨⟨⟨n1, n2⟩, n3⟩, n4⟩ := hN
      refine M_first hoi he (Region.noSelect_spec hs) hfl (fun j => (behind ops i).getD j false) (by simpa using n1) ?_ rest.length listed a w v (Region.free_spec hoi hf) ?_ ?_ hdown hr' hy
        (M_of_lex hs hfl rest _ _ w hR (down hr') hK)
      · intro j oj hj hd hji
        have := List.all_eq_true.1 n2 j (List.mem_range.2 (Array.getElem?_eq_some_iff.1 hj).1)
        have hd' : (behind ops i).getD j false = false := hd
        rw [hd', hj] at this
        simp only [Bool.false_or, Bool.or_eq_true, beq_iff_eq, hji, false_or] at this
        obtain ⟨e, he', hb⟩ := Array.any_eq_true'.1 this
        simp only [Bool.and_eq_true, Bool.not_eq_true'] at hb
        exact ⟨e, he', hb.1, hb.2⟩
      · intro j fl hj hd hun
        have := List.all_eq_true.1 n3 (j, fl) hj
        have hd' : (behind ops i).getD j false = true := hd
        simp only [hd', hun, Bool.not_true, Bool.false_or] at this
        simpa using this
      · intro j hj
        have hlt : j < listed.size := by
          rcases Nat.lt_or_ge j listed.size with h' | h'
          · exact h'
          · simp [Array.getElem?_eq_none h'] at hj
        have := List.all_eq_true.1 n4 j (List.mem_range.2 hlt)
        rw [hj] at this
        simpa using this

/-! ### The walk: quiet stretches, and an effect behind each -/

def pick (l : List Oper) (is : List Nat) : List Oper := is.map fun i => l.getD i default

/-- What is asked behind an effect: it has come back by no exit; what floats over it yields what it yielded; the rest. -/
def stagePost (P : Program) (l : List Oper) (fl : List Nat) (K : Act → World → Prop) : Exit → Act → World → Prop
  | .normal, a, w => (∀ o ∈ pick l fl, ∃ v, YieldsIn P l.toArray (fun w' => ∃ n, w' = w.drewN n) o v a ∧ Holds a o.dst v) ∧ K a w
  | _, _, _ => False

/-- A stretch of quiet operations, the effect behind it, what floats over that. -/
def wpStages (P : Program) (l : List Oper) (Q : Exit → Act → World → Prop) (last : List Nat) : List (List Nat × Nat × List Nat) → World → Act → Prop
  | [], w, a => wpQuiet P l.toArray (fun w' => ∃ n, w' = w.drewN n) (fun a' => ∀ w', (∃ n, w' = w.drewN n) → Q .normal a' w') (pick l last) a
  | (seg, e, fl) :: rest, w, a =>
    wpQuiet P l.toArray (fun w' => ∃ n, w' = w.drewN n) (fun a' => ∀ w', (∃ n, w' = w.drewN n) → wpList P l.toArray (stagePost P l fl (fun a'' w'' => wpStages P l Q last rest w'' a'')) (pick l [e]) a' w') (pick l seg) a

def effOf (st : List (List Nat × Nat × List Nat)) : List (Nat × List Nat) := st.map fun x => (x.2.1, x.2.2)
def orderOf (st : List (List Nat × Nat × List Nat)) (last : List Nat) : List Nat := st.flatMap (fun x => x.1 ++ [x.2.1]) ++ last

def stagesOk (ops : Array Oper) (st : List (List Nat × Nat × List Nat)) (last : List Nat) : Bool :=
  Region.noSelect ops && ((effOf st).all fun x => x.2.all (flOk ops)) && (st.all fun x => decide (x.2.1 < ops.size) && x.1.all fun i => decide (i < ops.size) && ((effOf st).lookup i).isNone) &&
  (last.all fun i => decide (i < ops.size) && ((effOf st).lookup i).isNone) && (st.all fun x => (effOf st).lookup x.2.1 == some x.2.2) && ((orderOf st last).length == ops.size) && orderOk ops (effOf st) (orderOf st last) (Array.replicate ops.size false)

theorem lex_quiet {l : List Oper} {eff : List (Nat × List Nat)} {Q : Exit → Act → World → Prop} {rest : List Nat} {w : World} : ∀ (seg : List Nat) (a : Act), (∀ i ∈ seg, i < l.toArray.size ∧ eff.lookup i = none) →
    wpQuiet P l.toArray (fun w' => ∃ n, w' = w.drewN n) (fun a' => wpLex P l.toArray eff Q rest w a') (pick l seg) a → wpLex P l.toArray eff Q (seg ++ rest) w a
  | [], a, _, h => h
  | i :: seg, a, hi, h => by
    obtain ⟨hlt, hn⟩ := hi i (List.mem_cons_self ..)
    have hlt' : i < l.length := by simpa using hlt
    have ho : l.toArray[i]? = some l[i] := by simp [hlt']
    have hp : pick l (i :: seg) = l[i] :: pick l seg := by simp [pick, hlt', List.getD]
    rw [hp] at h
    show wpLex P l.toArray eff Q (i :: (seg ++ rest)) w a
    unfold wpLex
    rw [hn]
    have hq : qOp P l.toArray (fun w' => ∃ n, w' = w.drewN n) i (wpQuiet P l.toArray (fun w' => ∃ n, w' = w.drewN n) (fun a' => wpLex P l.toArray eff Q rest w a') (pick l seg)) a := by
      unfold qOp
      rw [ho]
      exact h
    exact qOp_mono (fun a' hh => lex_quiet seg a' (fun j hj => hi j (List.mem_cons_of_mem _ hj)) hh) hq

theorem wpQuiet_mono {C : World → Prop} {Q Q' : Act → Prop} (hq : ∀ a, Q a → Q' a) : ∀ (l : List Oper) (a : Act), wpQuiet P ops C Q l a → wpQuiet P ops C Q' l a
  | [], a, h => hq a h
  | o :: l, a, h => by
    unfold wpQuiet at h ⊢
    split
    · rename_i hw; rw [if_pos hw] at h; exact Oper.quiet_mono (fun a' hh => wpQuiet_mono hq l a' hh) h
    · rename_i hw; rw [if_neg hw] at h; exact wpQuiet_mono hq l _ h

theorem lex_of_stages {l : List Oper} {eff : List (Nat × List Nat)} {Q : Exit → Act → World → Prop} {last : List Nat} (hlast : ∀ i ∈ last, i < l.toArray.size ∧ eff.lookup i = none) :
    ∀ (st : List (List Nat × Nat × List Nat)) (w : World) (a : Act), (∀ x ∈ st, (∀ i ∈ x.1, i < l.toArray.size ∧ eff.lookup i = none) ∧ x.2.1 < l.toArray.size ∧ eff.lookup x.2.1 = some x.2.2) →
    wpStages P l Q last st w a → wpLex P l.toArray eff Q (orderOf st last) w a
  | [], w, a, _, h => by
    have : orderOf ([] : List (List Nat × Nat × List Nat)) last = last ++ [] := by simp [orderOf]
    rw [this]
    refine lex_quiet last a hlast (wpQuiet_mono (fun a' hh => ?_) _ _ h)
    intro n
    exact hh _ ⟨n, rfl⟩
  | (seg, e, fl) :: rest, w, a, hx, h => by
    obtain ⟨h1, h2, h3⟩ := hx _ (List.mem_cons_self ..)
    simp only at h1 h2 h3
    have h2' : e < l.length := by simpa using h2
    have : orderOf ((seg, e, fl) :: rest) last = seg ++ (e :: orderOf rest last) := by simp [orderOf]
    rw [this]
    refine lex_quiet seg a h1 (wpQuiet_mono (fun a' hh => ?_) _ _ h)
    unfold wpLex
    rw [h3]
    intro n
    have hh' := hh _ ⟨n, rfl⟩
    have ho : l.toArray[e]? = some l[e] := by simp [h2']
    have hp : pick l [e] = [l[e]] := by simp [pick, h2', List.getD]
    rw [hp] at hh'
    have key : ∀ (a' : Act) (w' : World), wpList P l.toArray (stagePost P l fl (fun a'' w'' => wpStages P l Q last rest w'' a'')) [] a' w' →
        (∀ r ∈ fl, ∀ o, l.toArray[r]? = some o → ∃ v, YieldsIn P l.toArray (fun w'' => ∃ n, w'' = w'.drewN n) o v a' ∧ Holds a' o.dst v) ∧ wpLex P l.toArray eff Q (orderOf rest last) w' a' := by
      intro a' w' hk
      obtain ⟨k1, k2⟩ : (∀ o ∈ pick l fl, ∃ v, YieldsIn P l.toArray (fun w'' => ∃ n, w'' = w'.drewN n) o v a' ∧ Holds a' o.dst v) ∧ wpStages P l Q last rest w' a' := hk
      exact ⟨fun r hr o ho => k1 o (List.mem_map.2 ⟨r, hr, by simp only [List.getElem?_toArray] at ho; simp [List.getD, ho]⟩), lex_of_stages hlast rest w' a' (fun x hxx => hx x (List.mem_cons_of_mem _ hxx)) k2⟩
    unfold wpOp
    rw [ho]
    simp only
    unfold wpList at hh'
    split
    · rename_i hw
      rw [if_pos hw] at hh'
      rcases hh' with hh' | ⟨_, x, y, hz⟩
      · refine .inl (Oper.wp_mono key ?_)
        revert hh'
        unfold Oper.wp
        generalize (execOp a'.eval l[e]).run P (w.drewN n) = r
        intro hh'
        cases r with
        | ok k w' =>
          cases k <;> simp only [Oper.upon] at hh' ⊢ <;> exact hh'
        | halt x w' =>
          cases x <;> simp only [Oper.upon] at hh' ⊢
          case panic u => exact hh'.elim
      · exact hz.elim
    · rename_i hw
      rw [if_neg hw] at hh'
      exact key _ _ hh'

/-- **A region that draws its order, by stages.** -/
theorem wp_region_stages {id : Nat} {Q : Exit → Act → World → Prop} {a : Act} {w : World} {l : List Oper} (st : List (List Nat × Nat × List Nat)) (last : List Nat) (hm : P.follows .mixedOrders = true) (hB : stagesOk l.toArray st last = true)
    (h : wpStages P l Q last st w a) : (Code.region id l.toArray true).wp P Q a w := by
  unfold stagesOk at hB
  simp only [Bool.and_eq_true, List.all_eq_true, decide_eq_true_eq, beq_iff_eq, Option.isNone_iff_eq_none] at hB
  obtain ⟨⟨⟨⟨⟨⟨b1, b2⟩, b3⟩, b4⟩, b5⟩, b6⟩, b7⟩ := hB
  have hlex := lex_of_stages (P := P) (Q := Q) (eff := effOf st) b4 st w a (fun x hx => ⟨(b3 x hx).2, (b3 x hx).1, b5 x hx⟩) h
  have hM := M_of_lex (P := P) (Q := Q) b1 (fun j fl hj r hr => b2 (j, fl) hj r hr) (orderOf st last) (Array.replicate l.toArray.size false) a w b7
    (fun r o _ hl => by
      exfalso
      simp [Array.getElem?_replicate] at hl
      split at hl <;> simp at hl) hlex
  rw [b6] at hM
  exact wp_region_any hm (wpAny_of_M _ _ a w hM 1)
/-- The effect at the end of a stretch, and what stands behind it. -/
def EffThen (P : Program) (l : List Oper) (Q : Exit → Act → World → Prop) (last : List Nat) (e : Nat) (fl : List Nat) (rest : List (List Nat × Nat × List Nat)) (w : World) (a : Act) : Prop :=
  ∀ n, wpList P l.toArray (stagePost P l fl (fun a'' w'' => wpStages P l Q last rest w'' a'')) (pick l [e]) a (w.drewN n)
def LastThen (Q : Exit → Act → World → Prop) (w : World) (a : Act) : Prop := ∀ n, Q .normal a (w.drewN n)
theorem wpStages_step {Q : Exit → Act → World → Prop} {a : Act} {w : World} {l : List Oper} {last seg fl : List Nat} {e : Nat} {rest : List (List Nat × Nat × List Nat)} (h : wpQuiet P l.toArray (fun w' => ∃ n, w' = w.drewN n) (EffThen P l Q last e fl rest w) (pick l seg) a) :
    wpStages P l Q last ((seg, e, fl) :: rest) w a := wpQuiet_mono (fun a' hh w' ⟨n, hn⟩ => by subst hn; exact hh n) _ _ h
theorem wpStages_last {Q : Exit → Act → World → Prop} {a : Act} {w : World} {l : List Oper} {last : List Nat} (h : wpQuiet P l.toArray (fun w' => ∃ n, w' = w.drewN n) (LastThen Q w) (pick l last) a) :
    wpStages P l Q last [] w a := wpQuiet_mono (fun a' hh w' ⟨n, hn⟩ => by subst hn; exact hh n) _ _ h
theorem stagePost_mk {a : Act} {w : World} {l : List Oper} {fl : List Nat} {K : Act → World → Prop} (h : ∀ o ∈ pick l fl, ∃ v, YieldsIn P l.toArray (fun w' => ∃ n, w' = w.drewN n) o v a ∧ Holds a o.dst v) (hk : K a w) : stagePost P l fl K .normal a w := ⟨h, hk⟩

/-- A callee that leaves the world as it is, called in a quiet stretch. -/
theorem quiet_eq {f : FuncId} {args : Array Value} {w : World} {n : Nat} {v : Value} (h : Calls P f args (w.drewN n) fun e w' => e = .returned v ∧ w.drewN n = w') : Calls P f args (w.drewN n) fun e w'' => e = .returned v ∧ ∃ m, w'' = w.drewN m :=
  h.mono fun _ _ ⟨he, hm⟩ => ⟨he, n, hm.symm⟩

/-! ### What floats: moves -/
theorem float_move {C : World → Prop} {o : Oper} {a : Act} (x : Operand) (h : o.op = .move x) (hw : Region.wanted o (yielded ops a.tmps) = true) (hh : Holds a o.dst (a.eval x)) :
    ∃ v, YieldsIn P ops C o v a ∧ Holds a o.dst v :=
  ⟨_, .inl ⟨hw, fun w _ => by unfold Oper.quietAt; rw [BigFrame.run_move x h]; exact ⟨rfl, rfl⟩⟩, hh⟩
theorem float_skip {C : World → Prop} {o : Oper} {a : Act} (hw : Region.wanted o (yielded ops a.tmps) = false) (hh : Holds a o.dst undef) :
    ∃ v, YieldsIn P ops C o v a ∧ Holds a o.dst v := ⟨_, .inr ⟨hw, rfl⟩, hh⟩
theorem holds_of {a : Act} {d : Tmp} {v : Value} (h : a.tmps[d]? = some v) : Holds a (some d) v := fun d' hd => by cases hd; exact .inr h
end
end Go.Proofs.YtbmbnibamhgfmaaDoor

/- What floats over an effect, whatever operation it is: it is walked once more. -/
namespace Go.Proofs.YtbmbnibamhgfmaaDoor
open Go.RowKit

section
variable {P : Program} {ops : Array Oper}
theorem holds_of_put {a : Act} {x : Option Tmp} {v : Value} (h : a.put x v = a) : Holds a x v := by
  intro d hd
  subst hd
  by_cases hlt : d < a.tmps.size
  · right
    rw [← h]
    simp [Act.put, hlt]
  · left; exact Array.getElem?_eq_none (by simpa using hlt)
theorem float_any {C : World → Prop} {o : Oper} {a : Act} (h : wpQuiet P ops C (fun a' => a' = a) [o] a) : ∃ v, YieldsIn P ops C o v a ∧ Holds a o.dst v := by
  unfold wpQuiet at h
  by_cases hw : Region.wanted o (yielded ops a.tmps) = true
  · rw [if_pos hw] at h
    obtain ⟨v, hv, hn⟩ := h
    exact ⟨v, .inl ⟨hw, hv⟩, holds_of_put hn⟩
  · rw [if_neg hw] at h
    exact ⟨undef, .inr ⟨by simpa using hw, rfl⟩, holds_of_put h⟩
end
end Go.Proofs.YtbmbnibamhgfmaaDoor

/- A region that draws its order, by stages, once more: an operation that floats over an effect may be overwritten by one that waits for the effect. -/
namespace Go.Proofs.YtbmbnibamhgfmaaDoor
open Go.RowKit

section
variable {P : Program} {ops : Array Oper}

def flOkE (ops : Array Oper) (j r : Nat) : Bool :=
  match ops[r]? with
  | none => false
  | some o => (match o.dst with | some d => !(o.looksAt ops).contains d | none => true) &&
    (List.range ops.size).all fun x => x == r || (o.after.any fun e => Region.binds .any e && e.on == x) ||
      match ops[x]? with
      | some ox => (ox.after.any fun e => Region.binds .any e && e.on == j) || (match ox.dst with | some d => !(o.looksAt ops).contains d && o.dst != some d | none => true)
      | none => true

theorem flOkE_spec {j r : Nat} {o : Oper} (ho : ops[r]? = some o) (h : flOkE ops j r = true) :
    (∀ d, o.dst = some d → d ∉ o.looksAt ops) ∧
    ∀ x ox, ops[x]? = some ox → x ≠ r → (∀ e ∈ o.after, Region.binds .any e = true → e.on ≠ x) → (∀ e ∈ ox.after, Region.binds .any e = true → e.on ≠ j) → (∀ d, ox.dst = some d → d ∉ o.looksAt ops) ∧ (∀ d, ox.dst = some d → o.dst ≠ some d) := by
  unfold flOkE at h
  rw [ho] at h
  simp only [Bool.and_eq_true] at h
  obtain ⟨h1, h2⟩ := h
  refine ⟨fun d hd => ?_, fun x ox hx hne hno hnj => ?_⟩
  · rw [hd] at h1; simpa using h1
  · have := List.all_eq_true.1 h2 x (List.mem_range.2 (Array.getElem?_eq_some_iff.1 hx).1)
    simp only [Bool.or_eq_true, beq_iff_eq, hne, false_or] at this
    rcases this with h3 | h3
    · obtain ⟨e, he, hb⟩ := Array.any_eq_true'.1 h3
      simp only [Bool.and_eq_true, beq_iff_eq] at hb
      exact absurd hb.2 (hno e he hb.1)
    · rw [hx] at h3
      dsimp only at h3
      rw [Bool.or_eq_true] at h3
      rcases h3 with h3 | h3
      · obtain ⟨e, he, hb⟩ := Array.any_eq_true'.1 h3
        simp only [Bool.and_eq_true, beq_iff_eq] at hb
        exact absurd hb.2 (hnj e he hb.1)
      · refine ⟨fun d hd => ?_, fun d hd => ?_⟩ <;> rw [hd] at h3 <;> simp at h3
        · exact h3.1
        · exact h3.2

theorem M_firstE {eff : List (Nat × List Nat)} {Q : Exit → Act → World → Prop} {i : Nat} {oi : Oper} (hi : ops[i]? = some oi) (hne : eff.lookup i = none)
    (hsel : ∀ (j : Nat) (o : Oper) cs b, ops[j]? = some o → o.op ≠ .select cs b) (hfl : ∀ j fl, (j, fl) ∈ eff → ∀ r ∈ fl, flOkE ops j r = true)
    (D : Nat → Bool) (hD1 : D i = false) (hD2 : ∀ j oj, ops[j]? = some oj → D j = false → j ≠ i → ∃ e ∈ oj.after, Region.binds .any e = true ∧ D e.on = false) :
    ∀ (fuel : Nat) (listed : Array Bool) (a : Act) (w : World) (v : Value),
      (∀ j oj, ops[j]? = some oj → j ≠ i → listed.getD j true = false → (∀ e ∈ oj.after, Region.binds .any e = true → e.on ≠ i) → oi.apart ops oj = true) →
      (∀ j fl, (j, fl) ∈ eff → D j = true → listed.getD j true = false → i ∈ fl) → (∀ j, listed.getD j false = true → D j = true) → Down ops listed →
      i ∈ Region.ready .any ops listed → YieldsIn P ops (fun w' => ∃ n, w' = w.drewN n) oi v a →
      wpAnyM P ops eff Q fuel (listed.setIfInBounds i true) (a.put oi.dst v) w → wpAnyM P ops eff Q (fuel + 1) listed a w := by
  have self : ∀ (fuel : Nat) (listed : Array Bool) (a : Act) (w : World) (v : Value), YieldsIn P ops (fun w' => ∃ n, w' = w.drewN n) oi v a →
      wpAnyM P ops eff Q fuel (listed.setIfInBounds i true) (a.put oi.dst v) w →
      (match eff.lookup i with
      | some fl => ∀ n, wpOp P ops NoExit i (fun a' w' => FLoat P ops fl listed a' w' ∧ wpAnyM P ops eff Q fuel (listed.setIfInBounds i true) a' w') a (w.drewN n)
      | none => qOp P ops (fun w' => ∃ n, w' = w.drewN n) i (fun a' => wpAnyM P ops eff Q fuel (listed.setIfInBounds i true) a' w) a) := by
    intro fuel listed a w v hy H
    rw [hne]
    exact hy.qOp hi H
  intro fuel
  induction fuel with
  | zero =>
    intro listed a w v _ _ _ _ hr hy H
    refine ⟨fun h => (by rw [h] at hr; cases hr), fun j hj => ?_⟩
    by_cases hji : j = i
    · subst hji; exact self 0 listed a w v hy H
    · have := ready_mono hj hji
      rw [H.1] at this
      cases this
  | succ fuel ih =>
    intro listed a w v hfree hD3 hLD hdown hr hy H
    refine ⟨fun h => (by rw [h] at hr; cases hr), fun j hj => ?_⟩
    by_cases hji : j = i
    · subst hji; exact self (fuel + 1) listed a w v hy H
    · have h1 := H.2 j (ready_mono hj hji)
      obtain ⟨hjun, oj, hoj, hall⟩ := mem_ready.1 hj
      have hiu := (mem_ready.1 hr).1
      have hisz : i < listed.size := by
        rcases Nat.lt_or_ge i listed.size with h' | h'
        · exact h'
        · simp [Array.getElem?_eq_none h'] at hiu
      have hif : listed.getD i false = false := by
        simp [hisz] at hiu ⊢; exact hiu
      have hnot : ∀ e ∈ oj.after, Region.binds .any e = true → e.on ≠ i := fun e he hb heq => by
        have h1 := hall e he hb
        rw [heq, hif] at h1
        cases h1
      have hDj : D j = true := by
        cases hd : D j with
        | true => rfl
        | false =>
          obtain ⟨e, he, hb, hde⟩ := hD2 j oj hoj hd hji
          rw [hLD _ (hall e he hb)] at hde
          cases hde
      have hap := hfree j oj hoj hji hjun hnot
      have hfree' : ∀ k ok, ops[k]? = some ok → k ≠ i → (listed.setIfInBounds j true).getD k true = false →
          (∀ e ∈ ok.after, Region.binds .any e = true → e.on ≠ i) → oi.apart ops ok = true := fun k ok hk hki hun hno => by
        refine hfree k ok hk hki ?_ hno
        by_cases hjk : j = k
        · subst hjk; exact hjun
        · rw [getD_set_ne true hjk] at hun; exact hun
      have hD3' : ∀ k fl, (k, fl) ∈ eff → D k = true → (listed.setIfInBounds j true).getD k true = false → i ∈ fl := fun k fl hk hd hun => by
        refine hD3 k fl hk hd ?_
        by_cases hjk : j = k
        · subst hjk; exact hjun
        · rw [getD_set_ne true hjk] at hun; exact hun
      have hLD' : ∀ k, (listed.setIfInBounds j true).getD k false = true → D k = true := fun k hk => by
        by_cases hjk : j = k
        · subst hjk; exact hDj
        · rw [getD_set_ne false hjk] at hk; exact hLD k hk
      have hdown' : Down ops (listed.setIfInBounds j true) := fun r o ho hl e he hb => by
        by_cases hjr : j = r
        · subst hjr
          have : o = oj := Option.some.inj (ho.symm.trans hoj)
          subst this
          exact getD_set_true (hall e he hb)
        · rw [getD_set_ne false hjr] at hl
          exact getD_set_true (hdown r o ho hl e he hb)
      have hr' := ready_mono hr (Ne.symm hji)
      cases he : eff.lookup j with
      | none =>
        rw [he] at h1
        have h2 := qOp_put hoj hap (fun cs b => hsel i oi cs b hi) (fun cs b => hsel j oj cs b hoj) hy h1
        refine qOp_mono (fun a' h3 => ih (listed.setIfInBounds j true) a' w v hfree' hD3' hLD' hdown' hr' h3.1 ?_) h2
        rw [Array.setIfInBounds_comm _ _ hji]
        exact h3.2
      | some fl =>
        rw [he] at h1
        intro n
        have hmem := lookup_mem he
        have hin := hD3 j fl hmem hDj hjun
        have h2 := wpOp_swap hoj hap (fun cs b => hsel j oj cs b hoj) (h1 n)
        refine wpOp_mono (fun a' w' hh => ?_) h2
        obtain ⟨hF, hM⟩ := hh
        have hself := (flOkE_spec hi (hfl j fl hmem i hin)).1
        have hiw : ∀ e ∈ oi.after, Region.binds .any e = true → e.on ≠ j := fun e he' hb heq => by
          obtain ⟨_, oi', hoi', hall'⟩ := mem_ready.1 hr
          have : oi' = oi := Option.some.inj (hoi'.symm.trans hi)
          subst this
          have h9 := hall' e he' hb
          rw [heq] at h9
          have hjsz : j < listed.size := by
            rcases Nat.lt_or_ge j listed.size with h' | h'
            · exact h'
            · rw [Array.getD_eq_getD_getElem?, Array.getElem?_eq_none h'] at h9; cases h9
          simp [hjsz] at hjun h9
          rw [hjun] at h9; cases h9
        refine ⟨fun r hrm hrl o ho => ?_, ?_⟩
        · have hri : r ≠ i := by rintro rfl; rw [hif] at hrl; cases hrl
          obtain ⟨u, hyu, hhu⟩ := hF r hrm (getD_set_true hrl) o ho
          have hoth' := (flOkE_spec ho (hfl j fl hmem r hrm)).2
          have hno : ∀ e ∈ o.after, Region.binds .any e = true → e.on ≠ i := fun e he' hb heq => by
            have := hdown r o ho hrl e he' hb
            rw [heq, hif] at this
            cases this
          obtain ⟨q1, q2⟩ := hoth' i oi hi (Ne.symm hri) hno hiw
          exact ⟨u, YieldsIn.unput (fun cs b => hsel r o cs b ho) q1 hyu, Holds.of_put q2 hhu⟩
        · obtain ⟨v1, hy1, hh1⟩ := hF i hin (by simp [hisz]) oi hi
          have hya : YieldsIn P ops (fun w'' => ∃ n, w'' = w'.drewN n) oi v1 a' := YieldsIn.unput (fun cs b => hsel i oi cs b hi) hself hy1
          refine ih (listed.setIfInBounds j true) a' w' v1 hfree' hD3' hLD' hdown' hr' hya ?_
          have e1 : a'.put oi.dst v1 = a'.put oi.dst v := by
            have := hh1.put_self
            rw [put_put] at this
            exact this
          rw [e1, Array.setIfInBounds_comm _ _ hji]
          exact hM

theorem M_of_lexE {eff : List (Nat × List Nat)} {Q : Exit → Act → World → Prop} (hs : Region.noSelect ops = true) (hfl : ∀ j fl, (j, fl) ∈ eff → ∀ r ∈ fl, flOkE ops j r = true) :
    ∀ (l : List Nat) (listed : Array Bool) (a : Act) (w : World), orderOk ops eff l listed = true → Down ops listed → wpLex P ops eff Q l w a → wpAnyM P ops eff Q l.length listed a w
  | [], listed, a, w, hB, _, h => ⟨by simpa [orderOk] using hB, h⟩
  | i :: rest, listed, a, w, hB, hdown, h => by
    simp only [orderOk, Bool.and_eq_true] at hB
    obtain ⟨hB, hR⟩ := hB
    unfold wpLex at h
    have down (hr : i ∈ Region.ready .any ops listed) : Down ops (listed.setIfInBounds i true) := by
      obtain ⟨_, oi, hoi, hall⟩ := mem_ready.1 hr
      intro r o ho hl e he hb
      by_cases hir : i = r
      · subst hir
        have : o = oi := Option.some.inj (ho.symm.trans hoi)
        subst this
        exact getD_set_true (hall e he hb)
      · rw [getD_set_ne false hir] at hl
        exact getD_set_true (hdown r o ho hl e he hb)
    cases he : eff.lookup i with
    | some fl =>
      rw [he] at hB h
      have hB' : Region.ready .any ops listed = [i] := by simpa using hB
      refine ⟨fun h0 => (by rw [hB'] at h0; cases h0), fun j hj => ?_⟩
      rw [hB', List.mem_singleton] at hj
      subst hj
      rw [he]
      intro n
      exact wpOp_mono (fun a' w' hh => ⟨fun r hr _ o ho => hh.1 r hr o ho, M_of_lexE hs hfl rest _ a' w' hR (down (by rw [hB']; simp)) hh.2⟩) (h n)
    | none =>
      rw [he] at hB h
      simp only [Bool.and_eq_true] at hB
      obtain ⟨⟨hr, hf⟩, hN⟩ := hB
      have hr' : i ∈ Region.ready .any ops listed := by simpa using hr
      obtain ⟨_, oi, hoi, _⟩ := mem_ready.1 hr'
      obtain ⟨v, hy, hK⟩ := yieldsIn_of_qOp hoi h
      unfold notBehindOk at hN
      simp only [Bool.and_eq_true] at hN
      obtain ⟨⟨⟨n1, n2⟩, n3⟩, n4⟩ := hN
      refine M_firstE hoi he (Region.noSelect_spec hs) hfl (fun j => (behind ops i).getD j false) (by simpa using n1) ?_ rest.length listed a w v (Region.free_spec hoi hf) ?_ ?_ hdown hr' hy
        (M_of_lexE hs hfl rest _ _ w hR (down hr') hK)
      · intro j oj hj hd hji
        have := List.all_eq_true.1 n2 j (List.mem_range.2 (Array.getElem?_eq_some_iff.1 hj).1)
        have hd' : (behind ops i).getD j false = false := hd
        rw [hd', hj] at this
        simp only [Bool.false_or, Bool.or_eq_true, beq_iff_eq, hji, false_or] at this
        obtain ⟨e, he', hb⟩ := Array.any_eq_true'.1 this
        simp only [Bool.and_eq_true, Bool.not_eq_true'] at hb
        exact ⟨e, he', hb.1, hb.2⟩
      · intro j fl hj hd hun
        have := List.all_eq_true.1 n3 (j, fl) hj
        have hd' : (behind ops i).getD j false = true := hd
        simp only [hd', hun, Bool.not_true, Bool.false_or] at this
        simpa using this
      · intro j hj
        have hlt : j < listed.size := by
          rcases Nat.lt_or_ge j listed.size with h' | h'
          · exact h'
          · simp [Array.getElem?_eq_none h'] at hj
        have := List.all_eq_true.1 n4 j (List.mem_range.2 hlt)
        rw [hj] at this
        simpa using this

def stagesOkE (ops : Array Oper) (st : List (List Nat × Nat × List Nat)) (last : List Nat) : Bool :=
  Region.noSelect ops && ((effOf st).all fun x => x.2.all (flOkE ops x.1)) && (st.all fun x => decide (x.2.1 < ops.size) && x.1.all fun i => decide (i < ops.size) && ((effOf st).lookup i).isNone) &&
  (last.all fun i => decide (i < ops.size) && ((effOf st).lookup i).isNone) && (st.all fun x => (effOf st).lookup x.2.1 == some x.2.2) && ((orderOf st last).length == ops.size) && orderOk ops (effOf st) (orderOf st last) (Array.replicate ops.size false)

/-- **A region that draws its order, by stages** (what floats may be written by what stands behind the effect).  -/
theorem wp_region_stagesE {id : Nat} {Q : Exit → Act → World → Prop} {a : Act} {w : World} {l : List Oper} (st : List (List Nat × Nat × List Nat)) (last : List Nat) (hm : P.follows .mixedOrders = true) (hB : stagesOkE l.toArray st last = true)
    (h : wpStages P l Q last st w a) : (Code.region id l.toArray true).wp P Q a w := by
  unfold stagesOkE at hB
  simp only [Bool.and_eq_true, List.all_eq_true, decide_eq_true_eq, beq_iff_eq, Option.isNone_iff_eq_none] at hB
  obtain ⟨⟨⟨⟨⟨⟨b1, b2⟩, b3⟩, b4⟩, b5⟩, b6⟩, b7⟩ := hB
  have hlex := lex_of_stages (P := P) (Q := Q) (eff := effOf st) b4 st w a (fun x hx => ⟨(b3 x hx).2, (b3 x hx).1, b5 x hx⟩) h
  have hM := M_of_lexE (P := P) (Q := Q) b1 (fun j fl hj r hr => b2 (j, fl) hj r hr) (orderOf st last) (Array.replicate l.toArray.size false) a w b7
    (fun r o _ hl => by
      exfalso
      simp [Array.getElem?_replicate] at hl
      split at hl <;> simp at hl) hlex
  rw [b6] at hM
  exact wp_region_any hm (wpAny_of_M _ _ a w hM 1)
end
end Go.Proofs.YtbmbnibamhgfmaaDoor

/- A region that draws its order, by stages, its order looked at by numbers: each operation's edges, the temporaries it looks at and the one it writes are bits of a number (fast where a region is long). -/
namespace Go.Proofs.YtbmbnibamhgfmaaDoor
open Go.RowKit

def maskOf : List Nat → Nat
  | [] => 0
  | k :: l => Nat.lor (Nat.shiftLeft 1 k) (maskOf l)
theorem bit_one (k j : Nat) : (Nat.shiftLeft 1 k).testBit j = decide (j = k) := by
  show (1 <<< k).testBit j = _
  rw [Nat.one_shiftLeft, Nat.testBit_two_pow]
  by_cases h : j = k
  · subst h; simp
  · simp [h, Ne.symm h]
theorem lor_bit (a b j : Nat) : (Nat.lor a b).testBit j = (a.testBit j || b.testBit j) := Nat.testBit_or ..
theorem land_bit (a b j : Nat) : (Nat.land a b).testBit j = (a.testBit j && b.testBit j) := Nat.testBit_and ..
theorem maskOf_bit (l : List Nat) (j : Nat) : (maskOf l).testBit j = decide (j ∈ l) := by
  induction l with
  | nil => simp [maskOf]
  | cons k l ih => simp only [maskOf, lor_bit, bit_one, ih, List.mem_cons, Bool.decide_or]

def isIn (a b : Nat) : Bool := Nat.beq (Nat.land a b) a
def isOff (a b : Nat) : Bool := Nat.beq (Nat.land a b) 0
def hasBit (a k : Nat) : Bool := !isOff a (Nat.shiftLeft 1 k)
theorem isIn_spec {a b : Nat} (h : isIn a b = true) {k : Nat} (hk : a.testBit k = true) : b.testBit k = true := by
  have := Nat.eq_of_beq_eq_true h
  have h2 := land_bit a b k
  rw [this, hk] at h2
  simpa using h2.symm
theorem isIn_not {a b : Nat} (h : isIn a b = false) : ∃ k, a.testBit k = true ∧ b.testBit k = false := by
  by_cases hc : ∃ k, a.testBit k = true ∧ b.testBit k = false
  · exact hc
  · exfalso
    have : Nat.land a b = a := by
      apply Nat.eq_of_testBit_eq
      intro i
      rw [land_bit]
      cases ha : a.testBit i with
      | false => rfl
      | true =>
        cases hb : b.testBit i with
        | true => rfl
        | false => exact absurd ⟨i, ha, hb⟩ hc
    unfold isIn at h
    rw [this, Nat.beq_refl] at h
    cases h
theorem isOff_spec {a b : Nat} (h : isOff a b = true) {k : Nat} (hk : a.testBit k = true) : b.testBit k = false := by
  have := Nat.eq_of_beq_eq_true h
  have h2 := land_bit a b k
  rw [this, hk] at h2
  simpa using h2.symm
theorem hasBit_spec (a k : Nat) : hasBit a k = a.testBit k := by
  unfold hasBit
  cases h : isOff a (Nat.shiftLeft 1 k) with
  | true =>
    cases ha : a.testBit k with
    | false => rfl
    | true =>
      have := isOff_spec h ha
      rw [bit_one] at this
      simp at this
  | false =>
    cases ha : a.testBit k with
    | true => rfl
    | false =>
      exfalso
      have : Nat.land a (Nat.shiftLeft 1 k) = 0 := by
        apply Nat.eq_of_testBit_eq
        intro i
        rw [land_bit, bit_one, Nat.zero_testBit]
        by_cases hi : i = k
        · subst hi; simp [ha]
        · simp [hi]
      unfold isOff at h
      rw [this] at h
      cases h

/-- An operation's edges, what it looks at, what it writes. -/
structure MRow where
  aft : Nat
  look : Nat
  dst : Nat
def aftOf (o : Oper) : Nat := maskOf ((o.after.toList.filter fun e => Region.binds .any e).map (·.on))
def rowOf (ops : Array Oper) (o : Oper) : MRow := ⟨aftOf o, maskOf (o.looksAt ops), maskOf o.dst.toList⟩
def rowsEq (ops : Array Oper) : List Oper → List MRow → Bool
  | [], [] => true
  | o :: l, r :: rs => Nat.beq (aftOf o) r.aft && (Nat.beq (maskOf (o.looksAt ops)) r.look && (Nat.beq (maskOf o.dst.toList) r.dst && rowsEq ops l rs))
  | _, _ => false
theorem rowsEq_spec {ops : Array Oper} : ∀ {l : List Oper} {rs : List MRow}, rowsEq ops l rs = true → rs = l.map (rowOf ops)
  | [], [], _ => rfl
  | o :: l, r :: rs, h => by
    unfold rowsEq at h
    simp only [Bool.and_eq_true] at h
    obtain ⟨h1, h2, h3, h4⟩ := h
    rw [rowsEq_spec h4]
    cases r
    simp only at h1 h2 h3
    rw [List.map_cons, rowOf, Nat.eq_of_beq_eq_true h1, Nat.eq_of_beq_eq_true h2, Nat.eq_of_beq_eq_true h3]
  | [], _ :: _, h => by cases h
  | _ :: _, [], h => by cases h

def allIx (f : Nat → MRow → Bool) : Nat → List MRow → Bool
  | _, [] => true
  | k, r :: rs => f k r && allIx f (Nat.succ k) rs
theorem allIx_spec {f : Nat → MRow → Bool} : ∀ {k : Nat} {rs : List MRow}, allIx f k rs = true → ∀ j r, rs[j]? = some r → f (k + j) r = true
  | _, [], _, j, r, h => by simp at h
  | k, s :: rs, h, j, r, hj => by
    unfold allIx at h
    rw [Bool.and_eq_true] at h
    cases j with
    | zero =>
      simp only [List.getElem?_cons_zero, Option.some.injEq] at hj
      subst hj; exact h.1
    | succ j =>
      rw [List.getElem?_cons_succ] at hj
      have := allIx_spec h.2 j r hj
      rwa [Nat.succ_add, ← Nat.add_succ] at this

theorem aft_bit {o : Oper} {j : Nat} : (aftOf o).testBit j = true ↔ ∃ e ∈ o.after, Region.binds .any e = true ∧ e.on = j := by
  unfold aftOf
  rw [maskOf_bit, decide_eq_true_eq, List.mem_map]
  constructor
  · rintro ⟨e, he, rfl⟩
    rw [List.mem_filter] at he
    exact ⟨e, Array.mem_toList_iff.1 he.1, he.2, rfl⟩
  · rintro ⟨e, he, hb, rfl⟩
    exact ⟨e, List.mem_filter.2 ⟨Array.mem_toList_iff.2 he, hb⟩, rfl⟩
theorem dst_bit {o : Oper} {j : Nat} : (maskOf o.dst.toList).testBit j = true ↔ o.dst = some j := by
  rw [maskOf_bit, decide_eq_true_eq, Option.mem_toList]

/-- The marks of what does not stand behind 'i'. -/
def notBehind (i : Nat) : Nat → List MRow → Nat → Nat
  | _, [], D => D
  | k, r :: rs, D => notBehind i (Nat.succ k) rs (match Nat.beq k i || !isIn r.aft D with | true => D | false => Nat.lor D (Nat.shiftLeft 1 k))

def dOk (rows : List MRow) (eff : List (Nat × List Nat)) (i L D : Nat) : Bool :=
  !hasBit D i && (allIx (fun j s => hasBit D j || (Nat.beq j i || !isIn s.aft D)) 0 rows && ((eff.all fun x => !hasBit D x.1 || (hasBit L x.1 || x.2.contains i)) && isIn L D))

def walkOk (rows : List MRow) (eff : List (Nat × List Nat)) : List Nat → Nat → Bool
  | [], L => allIx (fun j _ => hasBit L j) 0 rows
  | i :: rest, L => (match rows[i]? with
      | none => false
      | some r => !hasBit L i && (isIn r.aft L && (match eff.lookup i with
        | some _ => allIx (fun j s => Nat.beq j i || (hasBit L j || !isIn s.aft L)) 0 rows
        | none => allIx (fun j s => Nat.beq j i || (hasBit L j || (hasBit s.aft i || (isOff r.dst s.look && (isOff r.dst s.dst && isOff s.dst r.look))))) 0 rows && dOk rows eff i L (notBehind i 0 rows 0)))) &&
    walkOk rows eff rest (Nat.lor L (Nat.shiftLeft 1 i))

def flOkM (rows : List MRow) (j r : Nat) : Bool :=
  match rows[r]? with
  | none => false
  | some o => isOff o.dst o.look && allIx (fun x s => Nat.beq x r || (hasBit o.aft x || (hasBit s.aft j || (isOff s.dst o.look && isOff s.dst o.dst)))) 0 rows

section
variable {P : Program} {l : List Oper}

theorem look_bit {ops : Array Oper} {o : Oper} {d : Nat} : (maskOf (o.looksAt ops)).testBit d = true ↔ d ∈ o.looksAt ops := by
  rw [maskOf_bit, decide_eq_true_eq]

theorem rows_get {rows : List MRow} (hr : rows = l.map (rowOf l.toArray)) {j : Nat} {o : Oper} (ho : l.toArray[j]? = some o) : rows[j]? = some (rowOf l.toArray o) := by
  subst hr
  rw [List.getElem?_toArray] at ho
  rw [List.getElem?_map, ho]; rfl

theorem flOkM_spec {rows : List MRow} (hr : rows = l.map (rowOf l.toArray)) {j r : Nat} (h : flOkM rows j r = true) : flOkE l.toArray j r = true := by
  unfold flOkM at h
  cases hrr : rows[r]? with
  | none => rw [hrr] at h; cases h
  | some ro =>
    rw [hrr] at h
    dsimp only at h
    rw [Bool.and_eq_true] at h
    have hg := hrr
    rw [hr, List.getElem?_map] at hg
    cases ho : l[r]? with
    | none => rw [ho] at hg; cases hg
    | some o =>
      rw [ho] at hg
      simp only [Option.map_some, Option.some.injEq] at hg
      subst hg
      have ho' : l.toArray[r]? = some o := by rw [List.getElem?_toArray]; exact ho
      unfold flOkE
      rw [ho']
      dsimp only
      rw [Bool.and_eq_true]
      refine ⟨?_, List.all_eq_true.2 fun x hx => ?_⟩
      · cases hd : o.dst with
        | none => rfl
        | some d =>
          have h1 := isOff_spec h.1 (dst_bit.2 hd)
          have h2 : d ∉ o.looksAt l.toArray := fun hm => by
            have h3 := look_bit.2 hm
            rw [show (rowOf l.toArray o).look = maskOf (o.looksAt l.toArray) from rfl, h3] at h1
            cases h1
          simpa using h2
      · have hx' : x < l.toArray.size := List.mem_range.1 hx
        obtain ⟨ox, hox⟩ : ∃ ox, l.toArray[x]? = some ox := ⟨_, Array.getElem?_eq_getElem hx'⟩
        have h1 := allIx_spec h.2 x _ (rows_get hr hox)
        rw [Nat.zero_add] at h1
        rw [hox]
        dsimp only
        simp only [Bool.or_eq_true, Bool.and_eq_true, hasBit_spec] at h1
        rcases h1 with h1 | h1 | h1 | h1
        · have := Nat.eq_of_beq_eq_true h1
          subst this; simp
        · obtain ⟨e, he, hb, he2⟩ := aft_bit.1 h1
          have : (o.after.any fun e => Region.binds .any e && e.on == x) = true := Array.any_eq_true'.2 ⟨e, he, by simp [hb, he2]⟩
          rw [this]; simp
        · obtain ⟨e, he, hb, he2⟩ := aft_bit.1 h1
          have : (ox.after.any fun e => Region.binds .any e && e.on == j) = true := Array.any_eq_true'.2 ⟨e, he, by simp [hb, he2]⟩
          rw [this]; simp
        · have : (match ox.dst with | some d => !(o.looksAt l.toArray).contains d && o.dst != some d | none => true) = true := by
            cases hd : ox.dst with
            | none => rfl
            | some d =>
              have k1 := isOff_spec h1.1 (dst_bit.2 hd)
              have k2 := isOff_spec h1.2 (dst_bit.2 hd)
              have q1 : d ∉ o.looksAt l.toArray := fun hm => by
                have h3 := look_bit.2 hm
                rw [show (rowOf l.toArray o).look = maskOf (o.looksAt l.toArray) from rfl, h3] at k1
                cases k1
              have q2 : o.dst ≠ some d := fun hm => by
                have h3 := dst_bit.2 hm
                rw [show (rowOf l.toArray o).dst = maskOf o.dst.toList from rfl, h3] at k2
                cases k2
              simp [q1, q2]
          refine Bool.or_eq_true_iff.2 (.inr (Bool.or_eq_true_iff.2 (.inr ?_)))
          exact this

theorem apart_of {ops : Array Oper} {x y : Oper} (h1 : isOff (rowOf ops x).dst (rowOf ops y).look = true) (h2 : isOff (rowOf ops x).dst (rowOf ops y).dst = true) (h3 : isOff (rowOf ops y).dst (rowOf ops x).look = true) : x.apart ops y = true := by
  unfold Oper.apart
  rw [Bool.and_eq_true]
  constructor
  · cases hd : x.dst with
    | none => rfl
    | some d =>
      have k1 := isOff_spec h1 (dst_bit.2 hd)
      have k2 := isOff_spec h2 (dst_bit.2 hd)
      have q1 : d ∉ y.looksAt ops := fun hm => by
        have h3 := look_bit.2 hm
        rw [show (rowOf ops y).look = maskOf (y.looksAt ops) from rfl, h3] at k1
        cases k1
      have q2 : y.dst ≠ some d := fun hm => by
        have h3 := dst_bit.2 hm
        rw [show (rowOf ops y).dst = maskOf y.dst.toList from rfl, h3] at k2
        cases k2
      simp [q1, q2]
  · cases hd : y.dst with
    | none => rfl
    | some d =>
      have k1 := isOff_spec h3 (dst_bit.2 hd)
      have q1 : d ∉ x.looksAt ops := fun hm => by
        have h3 := look_bit.2 hm
        rw [show (rowOf ops x).look = maskOf (x.looksAt ops) from rfl, h3] at k1
        cases k1
      simp [q1]

theorem M_of_lexM {rows : List MRow} (hrows : rows = l.map (rowOf l.toArray)) {eff : List (Nat × List Nat)} {Q : Exit → Act → World → Prop} (hs : Region.noSelect l.toArray = true) (hfl : ∀ j fl, (j, fl) ∈ eff → ∀ r ∈ fl, flOkE l.toArray j r = true) :
    ∀ (od : List Nat) (listed : Array Bool) (L : Nat) (a : Act) (w : World), listed.size = l.length → (∀ j, listed.getD j false = L.testBit j) → walkOk rows eff od L = true → Down l.toArray listed → wpLex P l.toArray eff Q od w a → wpAnyM P l.toArray eff Q od.length listed a w
  | [], listed, L, a, w, hsz, hL, hB, hdown, h => by
    refine ⟨?_, h⟩
    unfold walkOk at hB
    apply List.eq_nil_iff_forall_not_mem.2
    intro j hj
    obtain ⟨h1, o, ho, _⟩ := mem_ready.1 hj
    have h2 := allIx_spec hB j _ (rows_get hrows ho)
    rw [Nat.zero_add, hasBit_spec, ← hL] at h2
    have hlt : j < listed.size := by
      rcases Nat.lt_or_ge j listed.size with h' | h'
      · exact h'
      · simp [Array.getElem?_eq_none h'] at h1
    simp [hlt] at h1 h2
    rw [h1] at h2
    cases h2
  | i :: rest, listed, L, a, w, hsz, hL, hB, hdown, h => by
    unfold walkOk at hB
    rw [Bool.and_eq_true] at hB
    obtain ⟨hB, hR⟩ := hB
    cases hri : rows[i]? with
    | none => rw [hri] at hB; cases hB
    | some ri =>
    rw [hri] at hB
    dsimp only at hB
    rw [Bool.and_eq_true, Bool.and_eq_true] at hB
    obtain ⟨hBi, hBa, hB⟩ := hB
    obtain ⟨oi, hoi, rfl⟩ : ∃ oi, l.toArray[i]? = some oi ∧ ri = rowOf l.toArray oi := by
      rw [hrows, List.getElem?_map] at hri
      cases ho : l[i]? with
      | none => rw [ho] at hri; cases hri
      | some o => rw [ho] at hri; exact ⟨o, by rw [List.getElem?_toArray]; exact ho, by simpa using hri.symm⟩
    have hilt : i < listed.size := by
      have := (Array.getElem?_eq_some_iff.1 hoi).1
      simp only [List.size_toArray] at this
      omega
    have hun (j : Nat) (hj : j < listed.size) : listed.getD j true = L.testBit j := by
      rw [← hL]; simp [hj]
    have hunj (j : Nat) (hj : listed.getD j true = false) : L.testBit j = false := by
      have hlt : j < listed.size := by
        rcases Nat.lt_or_ge j listed.size with h' | h'
        · exact h'
        · simp [Array.getElem?_eq_none h'] at hj
      rw [← hun j hlt]; exact hj
    have hr' : i ∈ Region.ready .any l.toArray listed := by
      refine mem_ready.2 ⟨?_, oi, hoi, fun e he hb => ?_⟩
      · rw [hun i hilt]
        simpa [hasBit_spec] using hBi
      · rw [hL]
        exact isIn_spec hBa (aft_bit.2 ⟨e, he, hb, rfl⟩)
    have hdown' : Down l.toArray (listed.setIfInBounds i true) := by
      obtain ⟨_, oi', hoi', hall⟩ := mem_ready.1 hr'
      intro r o ho hl e he hb
      by_cases hir : i = r
      · subst hir
        have : o = oi' := Option.some.inj (ho.symm.trans hoi')
        subst this
        exact getD_set_true (hall e he hb)
      · rw [getD_set_ne false hir] at hl
        exact getD_set_true (hdown r o ho hl e he hb)
    have hL' : ∀ j, (listed.setIfInBounds i true).getD j false = (Nat.lor L (Nat.shiftLeft 1 i)).testBit j := by
      intro j
      rw [lor_bit, bit_one]
      by_cases hij : j = i
      · subst hij; simp [hilt]
      · rw [getD_set_ne false (Ne.symm hij), hL]; simp [hij]
    have hsz' : (listed.setIfInBounds i true).size = l.length := by simpa using hsz
    unfold wpLex at h
    cases he : eff.lookup i with
    | some fl =>
      rw [he] at hB h
      dsimp only at hB
      have hB' : ∀ j ∈ Region.ready .any l.toArray listed, j = i := by
        intro j hj
        obtain ⟨h1, o, ho, hall⟩ := mem_ready.1 hj
        have h2 := allIx_spec hB j _ (rows_get hrows ho)
        rw [Nat.zero_add] at h2
        simp only [Bool.or_eq_true, hasBit_spec, hunj j h1, Bool.false_eq_true, false_or, Bool.not_eq_true'] at h2
        rcases h2 with h2 | h2
        · exact Nat.eq_of_beq_eq_true h2
        · obtain ⟨k, hk1, hk2⟩ := isIn_not h2
          obtain ⟨e, he', hb, rfl⟩ := aft_bit.1 hk1
          have := hall e he' hb
          rw [hL, hk2] at this
          cases this
      refine ⟨fun h0 => (by rw [h0] at hr'; cases hr'), fun j hj => ?_⟩
      obtain rfl := hB' j hj
      rw [he]
      intro n
      exact wpOp_mono (fun a' w' hh => ⟨fun r hr _ o ho => hh.1 r hr o ho, M_of_lexM hrows hs hfl rest _ _ a' w' hsz' hL' hR hdown' hh.2⟩) (h n)
    | none =>
      rw [he] at hB h
      dsimp only at hB
      rw [Bool.and_eq_true] at hB
      obtain ⟨hf, hN⟩ := hB
      obtain ⟨v, hy, hK⟩ := yieldsIn_of_qOp hoi h
      unfold dOk at hN
      simp only [Bool.and_eq_true] at hN
      obtain ⟨n1, n2, n3, n4⟩ := hN
      refine M_firstE hoi he (Region.noSelect_spec hs) hfl (fun j => (notBehind i 0 rows 0).testBit j) (by simpa [hasBit_spec] using n1) ?_ rest.length listed a w v ?_ ?_ ?_ hdown hr' hy
        (M_of_lexM hrows hs hfl rest _ _ _ w hsz' hL' hR hdown' hK)
      · intro j oj hj hd hji
        have h2 := allIx_spec n2 j _ (rows_get hrows hj)
        rw [Nat.zero_add] at h2
        have hd' : (notBehind i 0 rows 0).testBit j = false := hd
        simp only [Bool.or_eq_true, hasBit_spec, hd', Bool.false_eq_true, false_or, Bool.not_eq_true'] at h2
        rcases h2 with h2 | h2
        · exact absurd (Nat.eq_of_beq_eq_true h2) hji
        · obtain ⟨k, hk1, hk2⟩ := isIn_not h2
          obtain ⟨e, he', hb, rfl⟩ := aft_bit.1 hk1
          exact ⟨e, he', hb, hk2⟩
      · intro j oj hj hji hu hno
        have h2 := allIx_spec hf j _ (rows_get hrows hj)
        rw [Nat.zero_add] at h2
        simp only [Bool.or_eq_true, Bool.and_eq_true, hasBit_spec, hunj j hu, Bool.false_eq_true, false_or] at h2
        rcases h2 with h2 | h2 | h2
        · exact absurd (Nat.eq_of_beq_eq_true h2) hji
        · obtain ⟨e, he', hb, he2⟩ := aft_bit.1 h2
          exact absurd he2 (hno e he' hb)
        · exact apart_of h2.1 h2.2.1 h2.2.2
      · intro j fl hj hd hu
        have h2 := List.all_eq_true.1 n3 (j, fl) hj
        have hd' : (notBehind i 0 rows 0).testBit j = true := hd
        simp only [hasBit_spec, hd', hunj j hu, Bool.not_true, Bool.false_or] at h2
        simpa using h2
      · intro j hj
        rw [hL] at hj
        exact isIn_spec n4 hj

def ltAll (n : Nat) (eff : List (Nat × List Nat)) : List Nat → Bool
  | [] => true
  | i :: is => Nat.blt i n && ((eff.lookup i).isNone && ltAll n eff is)
theorem ltAll_spec {n : Nat} {eff : List (Nat × List Nat)} : ∀ {is : List Nat}, ltAll n eff is = true → ∀ i ∈ is, i < n ∧ eff.lookup i = none
  | [], _, _, h => by cases h
  | k :: is, h, i, hi => by
    unfold ltAll at h
    simp only [Bool.and_eq_true] at h
    rcases List.mem_cons.1 hi with rfl | hi
    · exact ⟨by have := h.1; simp [Nat.blt] at this; omega, by have := h.2.1; simpa using this⟩
    · exact ltAll_spec h.2.2 i hi

def stagesOkM (l : List Oper) (rows : List MRow) (st : List (List Nat × Nat × List Nat)) (last : List Nat) : Bool :=
  Region.noSelect l.toArray && (rowsEq l.toArray l rows && (((effOf st).all fun x => x.2.all (flOkM rows x.1)) && ((st.all fun x => Nat.blt x.2.1 l.length && (((effOf st).lookup x.2.1 == some x.2.2) && ltAll l.length (effOf st) x.1)) &&
  (ltAll l.length (effOf st) last && (Nat.beq (orderOf st last).length l.length && walkOk rows (effOf st) (orderOf st last) 0)))))

/-- **A region that draws its order, by stages**, its order looked at by numbers. -/
theorem wp_region_stagesM {id : Nat} {Q : Exit → Act → World → Prop} {a : Act} {w : World} (rows : List MRow) (st : List (List Nat × Nat × List Nat)) (last : List Nat) (hm : P.follows .mixedOrders = true) (hB : stagesOkM l rows st last = true)
    (h : wpStages P l Q last st w a) : (Code.region id l.toArray true).wp P Q a w := by
  unfold stagesOkM at hB
  rw [Bool.and_eq_true, Bool.and_eq_true, Bool.and_eq_true, Bool.and_eq_true, Bool.and_eq_true, Bool.and_eq_true] at hB
  obtain ⟨b1, br, b2, b3, b4, b6, b7⟩ := hB
  have hrows := rowsEq_spec br
  have hlex := lex_of_stages (P := P) (Q := Q) (l := l) (eff := effOf st) (last := last) (fun i hi => by simpa using ltAll_spec b4 i hi) st w a (fun x hx => by
    have := List.all_eq_true.1 b3 x hx
    rw [Bool.and_eq_true, Bool.and_eq_true] at this
    obtain ⟨c1, c2, c3⟩ := this
    exact ⟨fun i hi => by simpa using ltAll_spec c3 i hi, by simp [Nat.blt] at c1; simp; omega, by simpa using c2⟩) h
  have hM := M_of_lexM (P := P) (Q := Q) hrows (eff := effOf st) b1 (fun j fl hj r hr => flOkM_spec hrows (List.all_eq_true.1 (List.all_eq_true.1 b2 (j, fl) hj) r hr)) (orderOf st last) (Array.replicate l.length false) 0 a w (by simp)
    (fun j => by
      rw [Nat.zero_testBit]
      simp only [Array.getD_eq_getD_getElem?, Array.getElem?_replicate]
      split <;> rfl) b7
    (fun r o _ hl => by
      exfalso
      simp [Array.getElem?_replicate] at hl
      split at hl <;> simp at hl) hlex
  rw [Nat.eq_of_beq_eq_true b6] at hM
  exact wp_region_any hm (wpAny_of_M _ _ a w (by simpa using hM) 1)
end
end Go.Proofs.YtbmbnibamhgfmaaDoor

/- A region that draws its order, where at times two effects may come up: both orders are walked (a tree of stages). -/
namespace Go.Proofs.YtbmbnibamhgfmaaDoor
open Go.RowKit

inductive STree where
  | last (seg : List Nat)
  | one (seg : List Nat) (e : Nat) (fl : List Nat) (t : STree)
  | two (seg : List Nat) (e1 : Nat) (fl1 : List Nat) (t1 : STree) (e2 : Nat) (fl2 : List Nat) (t2 : STree)

def STree.len : STree → Nat
  | .last seg => seg.length + 0
  | .one seg _ _ t => seg.length + (t.len + 1)
  | .two seg _ _ t1 _ _ _ => seg.length + (t1.len + 1)

section
variable {P : Program} {l : List Oper}

/-- The effect e, and what stands behind it. -/
def EffT (P : Program) (l : List Oper) (K : Act → World → Prop) (e : Nat) (fl : List Nat) (w : World) (a : Act) : Prop :=
  ∀ n, wpList P l.toArray (stagePost P l fl K) (pick l [e]) a (w.drewN n)

def wpTree (P : Program) (l : List Oper) (Q : Exit → Act → World → Prop) : STree → World → Act → Prop
  | .last seg, w, a => wpQuiet P l.toArray (fun w' => ∃ n, w' = w.drewN n) (LastThen Q w) (pick l seg) a
  | .one seg e fl t, w, a => wpQuiet P l.toArray (fun w' => ∃ n, w' = w.drewN n) (EffT P l (fun a' w' => wpTree P l Q t w' a') e fl w) (pick l seg) a
  | .two seg e1 fl1 t1 e2 fl2 t2, w, a => wpQuiet P l.toArray (fun w' => ∃ n, w' = w.drewN n) (fun a' => EffT P l (fun a' w' => wpTree P l Q t1 w' a') e1 fl1 w a' ∧ EffT P l (fun a' w' => wpTree P l Q t2 w' a') e2 fl2 w a') (pick l seg) a

theorem wpTree_one {Q : Exit → Act → World → Prop} {seg fl : List Nat} {e : Nat} {t : STree} {w : World} {a : Act} (h : wpQuiet P l.toArray (fun w' => ∃ n, w' = w.drewN n) (EffT P l (fun a' w' => wpTree P l Q t w' a') e fl w) (pick l seg) a) : wpTree P l Q (.one seg e fl t) w a := h
theorem wpTree_two {Q : Exit → Act → World → Prop} {seg fl1 fl2 : List Nat} {e1 e2 : Nat} {t1 t2 : STree} {w : World} {a : Act}
    (h : wpQuiet P l.toArray (fun w' => ∃ n, w' = w.drewN n) (fun a' => EffT P l (fun a' w' => wpTree P l Q t1 w' a') e1 fl1 w a' ∧ EffT P l (fun a' w' => wpTree P l Q t2 w' a') e2 fl2 w a') (pick l seg) a) : wpTree P l Q (.two seg e1 fl1 t1 e2 fl2 t2) w a := h
theorem wpTree_last {Q : Exit → Act → World → Prop} {seg : List Nat} {w : World} {a : Act} (h : wpQuiet P l.toArray (fun w' => ∃ n, w' = w.drewN n) (LastThen Q w) (pick l seg) a) : wpTree P l Q (.last seg) w a := h

def quietOk (rows : List MRow) (eff : List (Nat × List Nat)) (i L : Nat) : Bool :=
  match rows[i]? with
  | none => false
  | some r => (eff.lookup i).isNone && (!hasBit L i && (isIn r.aft L && (allIx (fun j s => Nat.beq j i || (hasBit L j || (hasBit s.aft i || (isOff r.dst s.look && (isOff r.dst s.dst && isOff s.dst r.look))))) 0 rows && dOk rows eff i L (notBehind i 0 rows 0))))
def segOk (rows : List MRow) (eff : List (Nat × List Nat)) : List Nat → Nat → Bool
  | [], _ => true
  | i :: seg, L => quietOk rows eff i L && segOk rows eff seg (Nat.lor L (Nat.shiftLeft 1 i))
def segMask : List Nat → Nat → Nat
  | [], L => L
  | i :: seg, L => segMask seg (Nat.lor L (Nat.shiftLeft 1 i))
def effOk (rows : List MRow) (eff : List (Nat × List Nat)) (e : Nat) (fl : List Nat) (L : Nat) : Bool :=
  match rows[e]?, eff.lookup e with
  | some r, some fe => !hasBit L e && (isIn r.aft L && fe.all fun x => !hasBit L x || fl.contains x)
  | _, _ => false
def treeOk (rows : List MRow) (eff : List (Nat × List Nat)) : STree → Nat → Bool
  | .last seg, L => segOk rows eff seg L && allIx (fun j _ => hasBit (segMask seg L) j) 0 rows
  | .one seg e fl t, L => segOk rows eff seg L && (effOk rows eff e fl (segMask seg L) && (allIx (fun j s => Nat.beq j e || (hasBit (segMask seg L) j || !isIn s.aft (segMask seg L))) 0 rows && treeOk rows eff t (Nat.lor (segMask seg L) (Nat.shiftLeft 1 e))))
  | .two seg e1 fl1 t1 e2 fl2 t2, L => segOk rows eff seg L && (effOk rows eff e1 fl1 (segMask seg L) && (effOk rows eff e2 fl2 (segMask seg L) && (Nat.beq t1.len t2.len &&
      (allIx (fun j s => Nat.beq j e1 || (Nat.beq j e2 || (hasBit (segMask seg L) j || !isIn s.aft (segMask seg L)))) 0 rows && (treeOk rows eff t1 (Nat.lor (segMask seg L) (Nat.shiftLeft 1 e1)) && treeOk rows eff t2 (Nat.lor (segMask seg L) (Nat.shiftLeft 1 e2)))))))

/-- What is known of the marks: their number, and the mask. -/
def Marks (l : List Oper) (listed : Array Bool) (L : Nat) : Prop := listed.size = l.length ∧ (∀ j, listed.getD j false = L.testBit j) ∧ Down l.toArray listed

theorem Marks.un {listed : Array Bool} {L : Nat} (h : Marks l listed L) {j : Nat} (hj : listed.getD j true = false) : L.testBit j = false := by
  have hlt : j < listed.size := by
    rcases Nat.lt_or_ge j listed.size with h' | h'
    · exact h'
    · simp [Array.getElem?_eq_none h'] at hj
  rw [← h.2.1]; simp [hlt] at hj ⊢; exact hj
theorem Marks.ready {rows : List MRow} (hrows : rows = l.map (rowOf l.toArray)) {listed : Array Bool} {L : Nat} (h : Marks l listed L) {i : Nat} {r : MRow} (hr : rows[i]? = some r) (h1 : hasBit L i = false) (h2 : isIn r.aft L = true) :
    ∃ o, l.toArray[i]? = some o ∧ r = rowOf l.toArray o ∧ i ∈ Region.ready .any l.toArray listed ∧ Marks l (listed.setIfInBounds i true) (Nat.lor L (Nat.shiftLeft 1 i)) := by
  obtain ⟨hsz, hL, hdown⟩ := h
  obtain ⟨oi, hoi, rfl⟩ : ∃ oi, l.toArray[i]? = some oi ∧ r = rowOf l.toArray oi := by
    rw [hrows, List.getElem?_map] at hr
    cases ho : l[i]? with
    | none => rw [ho] at hr; cases hr
    | some o => rw [ho] at hr; exact ⟨o, by rw [List.getElem?_toArray]; exact ho, by simpa using hr.symm⟩
  have hilt : i < listed.size := by
    have := (Array.getElem?_eq_some_iff.1 hoi).1
    simp only [List.size_toArray] at this
    omega
  have hr' : i ∈ Region.ready .any l.toArray listed := by
    refine mem_ready.2 ⟨?_, oi, hoi, fun e he hb => ?_⟩
    · have : listed.getD i true = L.testBit i := by rw [← hL]; simp [hilt]
      rw [this, ← hasBit_spec]; exact h1
    · rw [hL]
      exact isIn_spec h2 (aft_bit.2 ⟨e, he, hb, rfl⟩)
  refine ⟨oi, hoi, rfl, hr', by simpa using hsz, fun j => ?_, ?_⟩
  · rw [lor_bit, bit_one]
    by_cases hij : j = i
    · subst hij; simp [hilt]
    · rw [getD_set_ne false (Ne.symm hij), hL]; simp [hij]
  · obtain ⟨_, oi', hoi', hall⟩ := mem_ready.1 hr'
    intro r o ho hl e he hb
    by_cases hir : i = r
    · subst hir
      have : o = oi' := Option.some.inj (ho.symm.trans hoi')
      subst this
      exact getD_set_true (hall e he hb)
    · rw [getD_set_ne false hir] at hl
      exact getD_set_true (hdown r o ho hl e he hb)

theorem M_seg {rows : List MRow} (hrows : rows = l.map (rowOf l.toArray)) {eff : List (Nat × List Nat)} {Q : Exit → Act → World → Prop} (hs : Region.noSelect l.toArray = true) (hfl : ∀ j fl, (j, fl) ∈ eff → ∀ r ∈ fl, flOkE l.toArray j r = true) (fuel : Nat) (w : World) (K : Act → Prop) (Lz : Nat)
    (hK : ∀ listed a, Marks l listed Lz → K a → wpAnyM P l.toArray eff Q fuel listed a w) :
    ∀ (seg : List Nat) (listed : Array Bool) (L : Nat) (a : Act), Marks l listed L → segOk rows eff seg L = true → segMask seg L = Lz → wpQuiet P l.toArray (fun w' => ∃ n, w' = w.drewN n) K (pick l seg) a → wpAnyM P l.toArray eff Q (seg.length + fuel) listed a w
  | [], listed, L, a, hM, _, hz, h => by
    rw [List.length_nil, Nat.zero_add]
    exact hK listed a (hz ▸ hM) h
  | i :: seg, listed, L, a, hM, hB, hz, h => by
    unfold segOk at hB
    rw [Bool.and_eq_true] at hB
    obtain ⟨hq, hR⟩ := hB
    unfold quietOk at hq
    cases hri : rows[i]? with
    | none => rw [hri] at hq; cases hq
    | some ri =>
    rw [hri] at hq
    dsimp only at hq
    simp only [Bool.and_eq_true] at hq
    obtain ⟨hne, hBi, hBa, hf, hN⟩ := hq
    have hne' : eff.lookup i = none := by simpa using hne
    obtain ⟨oi, hoi, rfl, hr', hM'⟩ := Marks.ready hrows hM hri (by simpa using hBi) hBa
    have hlt' : i < l.length := by
      have := (Array.getElem?_eq_some_iff.1 hoi).1
      simpa using this
    have hoe : oi = l[i] := by
      rw [List.getElem?_toArray, List.getElem?_eq_getElem hlt'] at hoi
      exact (Option.some.inj hoi).symm
    have hp : pick l (i :: seg) = oi :: pick l seg := by rw [hoe]; simp [pick, hlt', List.getD]
    rw [hp] at h
    have hqo : qOp P l.toArray (fun w' => ∃ n, w' = w.drewN n) i (wpQuiet P l.toArray (fun w' => ∃ n, w' = w.drewN n) K (pick l seg)) a := by
      unfold qOp
      rw [hoi]
      exact h
    obtain ⟨v, hy, hKv⟩ := yieldsIn_of_qOp hoi hqo
    have ih := M_seg hrows hs hfl fuel w K Lz hK seg (listed.setIfInBounds i true) _ _ hM' hR hz hKv
    unfold dOk at hN
    simp only [Bool.and_eq_true] at hN
    obtain ⟨n1, n2, n3, n4⟩ := hN
    rw [show (i :: seg).length + fuel = (seg.length + fuel) + 1 by simp; omega]
    refine M_firstE hoi hne' (Region.noSelect_spec hs) hfl (fun j => (notBehind i 0 rows 0).testBit j) (by simpa [hasBit_spec] using n1) ?_ _ listed a w v ?_ ?_ ?_ hM.2.2 hr' hy ih
    · intro j oj hj hd hji
      have h2 := allIx_spec n2 j _ (rows_get hrows hj)
      rw [Nat.zero_add] at h2
      have hd' : (notBehind i 0 rows 0).testBit j = false := hd
      simp only [Bool.or_eq_true, hasBit_spec, hd', Bool.false_eq_true, false_or, Bool.not_eq_true'] at h2
      rcases h2 with h2 | h2
      · exact absurd (Nat.eq_of_beq_eq_true h2) hji
      · obtain ⟨k, hk1, hk2⟩ := isIn_not h2
        obtain ⟨e, he', hb, rfl⟩ := aft_bit.1 hk1
        exact ⟨e, he', hb, hk2⟩
    · intro j oj hj hji hu hno
      have h2 := allIx_spec hf j _ (rows_get hrows hj)
      rw [Nat.zero_add] at h2
      simp only [Bool.or_eq_true, Bool.and_eq_true, hasBit_spec, hM.un hu, Bool.false_eq_true, false_or] at h2
      rcases h2 with h2 | h2 | h2
      · exact absurd (Nat.eq_of_beq_eq_true h2) hji
      · obtain ⟨e, he', hb, he2⟩ := aft_bit.1 h2
        exact absurd he2 (hno e he' hb)
      · exact apart_of h2.1 h2.2.1 h2.2.2
    · intro j fl hj hd hu
      have h2 := List.all_eq_true.1 n3 (j, fl) hj
      have hd' : (notBehind i 0 rows 0).testBit j = true := hd
      simp only [hasBit_spec, hd', hM.un hu, Bool.not_true, Bool.false_or] at h2
      simpa using h2
    · intro j hj
      rw [hM.2.1] at hj
      exact isIn_spec n4 hj

/-- One effect, asked by the model. -/
theorem eff_step {eff : List (Nat × List Nat)} {Q : Exit → Act → World → Prop} {rows : List MRow} (hrows : rows = l.map (rowOf l.toArray)) {fuel e L : Nat} {fl fe : List Nat} {listed : Array Bool} {a : Act} {w : World} {K : Act → World → Prop} (hM : Marks l listed L) {r : MRow} (hr : rows[e]? = some r) (_ : eff.lookup e = some fe)
    (h1 : hasBit L e = false) (h2 : isIn r.aft L = true) (h3 : (fe.all fun x => !hasBit L x || fl.contains x) = true) (h : EffT P l K e fl w a)
    (hK : ∀ a' w' listed', Marks l listed' (Nat.lor L (Nat.shiftLeft 1 e)) → K a' w' → wpAnyM P l.toArray eff Q fuel listed' a' w') :
    e ∈ Region.ready .any l.toArray listed ∧ ∀ n, wpOp P l.toArray NoExit e (fun a' w' => FLoat P l.toArray fe listed a' w' ∧ wpAnyM P l.toArray eff Q fuel (listed.setIfInBounds e true) a' w') a (w.drewN n) := by
  obtain ⟨oe, hoe, rfl, hr', hM'⟩ := Marks.ready hrows hM hr h1 h2
  refine ⟨hr', fun n => ?_⟩
  have hh' := h n
  have h2' : e < l.length := by
    have := (Array.getElem?_eq_some_iff.1 hoe).1
    simpa using this
  have ho : l.toArray[e]? = some l[e] := by simp [h2']
  have hp : pick l [e] = [l[e]] := by simp [pick, h2', List.getD]
  rw [hp] at hh'
  have key : ∀ (a' : Act) (w' : World), wpList P l.toArray (stagePost P l fl K) [] a' w' →
      FLoat P l.toArray fe listed a' w' ∧ wpAnyM P l.toArray eff Q fuel (listed.setIfInBounds e true) a' w' := by
    intro a' w' hk
    obtain ⟨k1, k2⟩ : (∀ o ∈ pick l fl, ∃ v, YieldsIn P l.toArray (fun w'' => ∃ n, w'' = w'.drewN n) o v a' ∧ Holds a' o.dst v) ∧ K a' w' := hk
    refine ⟨fun r hrm hrl o ho => k1 o (List.mem_map.2 ⟨r, ?_, by simp only [List.getElem?_toArray] at ho; simp [List.getD, ho]⟩), hK a' w' _ hM' k2⟩
    have h4 := List.all_eq_true.1 h3 r hrm
    rw [hM.2.1] at hrl
    simp only [hasBit_spec, hrl, Bool.not_true, Bool.false_or] at h4
    simpa using h4
  unfold wpOp
  rw [ho]
  simp only
  unfold wpList at hh'
  split
  · rename_i hw
    rw [if_pos hw] at hh'
    rcases hh' with hh' | ⟨_, x, y, hz⟩
    · refine .inl (Oper.wp_mono key ?_)
      revert hh'
      unfold Oper.wp
      generalize (execOp a.eval l[e]).run P (w.drewN n) = r
      intro hh'
      cases r with
      | ok k w' =>
        cases k <;> simp only [Oper.upon] at hh' ⊢ <;> exact hh'
      | halt x w' =>
        cases x <;> simp only [Oper.upon] at hh' ⊢
        case panic u => exact hh'.elim
    · exact hz.elim
  · rename_i hw
    rw [if_neg hw] at hh'
    exact key _ _ hh'

theorem effOk_spec {rows : List MRow} {eff : List (Nat × List Nat)} {e L : Nat} {fl : List Nat} (h : effOk rows eff e fl L = true) :
    ∃ r fe, rows[e]? = some r ∧ eff.lookup e = some fe ∧ hasBit L e = false ∧ isIn r.aft L = true ∧ (fe.all fun x => !hasBit L x || fl.contains x) = true := by
  unfold effOk at h
  cases hr : rows[e]? with
  | none => rw [hr] at h; cases h
  | some r =>
    cases hf : eff.lookup e with
    | none => rw [hr, hf] at h; cases h
    | some fe =>
      rw [hr, hf] at h
      simp only [Bool.and_eq_true] at h
      exact ⟨r, fe, rfl, rfl, by simpa using h.1, h.2.1, h.2.2⟩

theorem M_of_tree {rows : List MRow} (hrows : rows = l.map (rowOf l.toArray)) {eff : List (Nat × List Nat)} {Q : Exit → Act → World → Prop} (hs : Region.noSelect l.toArray = true) (hfl : ∀ j fl, (j, fl) ∈ eff → ∀ r ∈ fl, flOkE l.toArray j r = true) :
    ∀ (t : STree) (listed : Array Bool) (L : Nat) (a : Act) (w : World), Marks l listed L → treeOk rows eff t L = true → wpTree P l Q t w a → wpAnyM P l.toArray eff Q t.len listed a w
  | .last seg, listed, L, a, w, hM, hB, h => by
    unfold treeOk at hB
    rw [Bool.and_eq_true] at hB
    refine M_seg hrows hs hfl 0 w (LastThen Q w) _ (fun listed' a' hM' hh => ⟨?_, hh⟩) seg listed L a hM hB.1 rfl h
    apply List.eq_nil_iff_forall_not_mem.2
    intro j hj
    obtain ⟨h1, o, ho, _⟩ := mem_ready.1 hj
    have h2 := allIx_spec hB.2 j _ (rows_get hrows ho)
    rw [Nat.zero_add, hasBit_spec, hM'.un h1] at h2
    cases h2
  | .one seg e fl t, listed, L, a, w, hM, hB, h => by
    unfold treeOk at hB
    simp only [Bool.and_eq_true] at hB
    obtain ⟨hB1, hB2, hB3, hB4⟩ := hB
    obtain ⟨r, fe, hr, hfe, e1, e2, e3⟩ := effOk_spec hB2
    refine M_seg hrows hs hfl (t.len + 1) w _ _ (fun listed' a' hM' hh => ?_) seg listed L a hM hB1 rfl h
    obtain ⟨hrd, hw⟩ := eff_step (Q := Q) (fuel := t.len) hrows hM' hr hfe e1 e2 e3 hh (fun a'' w'' l'' hm hk => M_of_tree hrows hs hfl t l'' _ a'' w'' hm hB4 hk)
    refine ⟨fun h0 => (by rw [h0] at hrd; cases hrd), fun j hj => ?_⟩
    obtain rfl : j = e := by
      obtain ⟨h1, o, ho, hall⟩ := mem_ready.1 hj
      have h2 := allIx_spec hB3 j _ (rows_get hrows ho)
      rw [Nat.zero_add] at h2
      simp only [Bool.or_eq_true, hasBit_spec, hM'.un h1, Bool.false_eq_true, false_or, Bool.not_eq_true'] at h2
      rcases h2 with h2 | h2
      · exact Nat.eq_of_beq_eq_true h2
      · obtain ⟨k, hk1, hk2⟩ := isIn_not h2
        obtain ⟨e', he', hb, rfl⟩ := aft_bit.1 hk1
        have := hall e' he' hb
        rw [hM'.2.1, hk2] at this
        cases this
    rw [hfe]
    exact hw
  | .two seg e1 fl1 t1 e2 fl2 t2, listed, L, a, w, hM, hB, h => by
    unfold treeOk at hB
    simp only [Bool.and_eq_true] at hB
    obtain ⟨hB1, hB2, hB2', hle, hB3, hB4, hB4'⟩ := hB
    obtain ⟨r, fe, hr, hfe, c1, c2, c3⟩ := effOk_spec hB2
    obtain ⟨r', fe', hr', hfe', d1, d2, d3⟩ := effOk_spec hB2'
    have hlen : t1.len = t2.len := Nat.eq_of_beq_eq_true hle
    refine M_seg hrows hs hfl (t1.len + 1) w _ _ (fun listed' a' hM' hh => ?_) seg listed L a hM hB1 rfl h
    obtain ⟨hrd, hw⟩ := eff_step (Q := Q) (fuel := t1.len) hrows hM' hr hfe c1 c2 c3 hh.1 (fun a'' w'' l'' hm hk => M_of_tree hrows hs hfl t1 l'' _ a'' w'' hm hB4 hk)
    obtain ⟨_, hw'⟩ := eff_step (Q := Q) (fuel := t1.len) hrows hM' hr' hfe' d1 d2 d3 hh.2 (fun a'' w'' l'' hm hk => by rw [hlen]; exact M_of_tree hrows hs hfl t2 l'' _ a'' w'' hm hB4' hk)
    refine ⟨fun h0 => (by rw [h0] at hrd; cases hrd), fun j hj => ?_⟩
    have hj2 : j = e1 ∨ j = e2 := by
      obtain ⟨h1, o, ho, hall⟩ := mem_ready.1 hj
      have h2 := allIx_spec hB3 j _ (rows_get hrows ho)
      rw [Nat.zero_add] at h2
      simp only [Bool.or_eq_true, hasBit_spec, hM'.un h1, Bool.false_eq_true, false_or, Bool.not_eq_true'] at h2
      rcases h2 with h2 | h2 | h2
      · exact .inl (Nat.eq_of_beq_eq_true h2)
      · exact .inr (Nat.eq_of_beq_eq_true h2)
      · obtain ⟨k, hk1, hk2⟩ := isIn_not h2
        obtain ⟨e', he', hb, rfl⟩ := aft_bit.1 hk1
        have := hall e' he' hb
        rw [hM'.2.1, hk2] at this
        cases this
    rcases hj2 with rfl | rfl
    · rw [hfe]; exact hw
    · rw [hfe']; exact hw'

def treeAll (l : List Oper) (rows : List MRow) (eff : List (Nat × List Nat)) (t : STree) : Bool :=
  Region.noSelect l.toArray && (rowsEq l.toArray l rows && ((eff.all fun x => x.2.all (flOkM rows x.1)) && (Nat.beq t.len l.length && treeOk rows eff t 0)))

/-- **A region that draws its order, by a tree of stages.** -/
theorem wp_region_tree {id : Nat} {Q : Exit → Act → World → Prop} {a : Act} {w : World} (rows : List MRow) (eff : List (Nat × List Nat)) (t : STree) (hm : P.follows .mixedOrders = true) (hB : treeAll l rows eff t = true)
    (h : wpTree P l Q t w a) : (Code.region id l.toArray true).wp P Q a w := by
  unfold treeAll at hB
  rw [Bool.and_eq_true, Bool.and_eq_true, Bool.and_eq_true, Bool.and_eq_true] at hB
  obtain ⟨b1, br, b2, b6, b7⟩ := hB
  have hrows := rowsEq_spec br
  have hM := M_of_tree (P := P) (Q := Q) hrows (eff := eff) b1 (fun j fl hj r hr => flOkM_spec hrows (List.all_eq_true.1 (List.all_eq_true.1 b2 (j, fl) hj) r hr)) t (Array.replicate l.length false) 0 a w
    ⟨by simp, fun j => by
      rw [Nat.zero_testBit]
      simp only [Array.getD_eq_getD_getElem?, Array.getElem?_replicate]
      split <;> rfl, fun r o _ hl => by
      exfalso
      simp [Array.getElem?_replicate] at hl
      split at hl <;> simp at hl⟩ b7 h
  rw [Nat.eq_of_beq_eq_true b6] at hM
  exact wp_region_any hm (wpAny_of_M _ _ a w (by simpa using hM) 1)
end
end Go.Proofs.YtbmbnibamhgfmaaDoor

/- Words for memory, over no program: what has changed between two worlds, a block known whole, a slice as it reads, a slice of the call's own and append onto it. -/
namespace Go.Proofs.YtbmbnibamhgfmaaDoor
open Go.RowKit

/-! ### What has changed: of the blocks that were there, those of the list S alone -/

structure Ch (S : List Nat) (w w' : World) : Prop where
  os : w'.os = w.os
  tape : w'.tape = w.tape
  output : w'.output = w.output
  size : w.heap.size ≤ w'.heap.size
  block : ∀ k, k < w.heap.size → k ∉ S → w'.heap[k]? = w.heap[k]?

section
variable {S T : List Nat} {a w w' w'' : World}
theorem Ch.refl (S : List Nat) (w : World) : Ch S w w := ⟨rfl, rfl, rfl, Nat.le_refl _, fun _ _ _ => rfl⟩
theorem Ch.trans (h : Ch S w w') (k : Ch S w' w'') : Ch S w w'' :=
  ⟨k.os.trans h.os, k.tape.trans h.tape, k.output.trans h.output, Nat.le_trans h.size k.size, fun i hi hn => (k.block i (Nat.lt_of_lt_of_le hi h.size) hn).trans (h.block i hi hn)⟩
theorem Ch.mono (h : Ch S w w') (hs : ∀ k, k < w.heap.size → k ∈ S → k ∈ T) : Ch T w w' :=
  ⟨h.os, h.tape, h.output, h.size, fun i hi hn => h.block i hi (fun hm => hn (hs i hi hm))⟩
/-- What the second step changes lies in S or is new. -/
theorem Ch.step (h : Ch S w w') (k : Ch T w' w'') (hs : ∀ i, i ∈ T → i ∈ S ∨ w.heap.size ≤ i) : Ch S w w'' :=
  ⟨k.os.trans h.os, k.tape.trans h.tape, k.output.trans h.output, Nat.le_trans h.size k.size, fun i hi hn =>
    (k.block i (Nat.lt_of_lt_of_le hi h.size) (fun hm => by rcases hs i hm with h1 | h1; exact hn h1; omega)).trans (h.block i hi hn)⟩
theorem Ch.drew (h : Ch S a w) : Ch S a w.drew := ⟨h.os, h.tape, h.output, h.size, h.block⟩
theorem Ch.drewN (h : Ch S a w) (n : Nat) : Ch S a (w.drewN n) := ⟨h.os, h.tape, h.output, h.size, h.block⟩
theorem Ch.alloc (h : Ch S a w) (o : Obj) : Ch S a (w.alloc o) :=
  ⟨h.os, h.tape, h.output, Nat.le_trans h.size (by simp), fun i hi hn => (Below.heap_alloc w o i (Nat.lt_of_lt_of_le hi h.size)).trans (h.block i hi hn)⟩
theorem Ch.setCell (h : Ch S a w) {p : Addr} (hp : p.block ∈ S ∨ a.heap.size ≤ p.block) (u : Value) : Ch S a (w.setCell p u) :=
  ⟨h.os, h.tape, h.output, by simpa using h.size, fun i hi hn => (Below.heap_setCell w p u i (by rintro rfl; rcases hp with h1 | h1; exact hn h1; omega)).trans (h.block i hi hn)⟩
theorem Ch.below {B : Nat} (h : Ch S w w') (hs : ∀ k, k ∈ S → B ≤ k) (hB : B ≤ w.heap.size) : Below B w w' :=
  ⟨h.os, h.tape, h.output, h.size, fun i hi => h.block i (by omega) (fun hm => by have := hs i hm; omega)⟩
theorem Below.drewN {B : Nat} (h : Below B a w) (n : Nat) : Below B a (w.drewN n) := ⟨h.os, h.tape, h.output, h.size, h.block⟩
theorem Below.ch {B : Nat} (hb : Below B a w) (h : Ch S w w') (hs : ∀ k, k ∈ S → B ≤ k) (hB : B ≤ w.heap.size) : Below B a w' := hb.trans (h.below hs hB)
theorem Ch.of_below (h : Below w.heap.size w w') (S : List Nat) : Ch S w w' := ⟨h.os, h.tape, h.output, h.size, fun i hi _ => h.block i hi⟩
theorem Ch.nil_below (h : Ch [] w w') : Below w.heap.size w w' := ⟨h.os, h.tape, h.output, h.size, fun i hi => h.block i hi (by simp)⟩
theorem Ch.grown {row : Option Nat} (h : w.grownBy w' row) : Ch row.toList w w' :=
  ⟨h.os, h.tape, h.output, h.size, fun i hi hn => h.block i hi (by cases row <;> simp_all)⟩
theorem Ch.cell (h : Ch S w w') {p : Addr} (hp : p.block < w.heap.size) (hn : p.block ∉ S) : w'.cell? p = w.cell? p := World.cell?_of_block (w := w) (h.block _ hp hn)
theorem Ch.frozen (h : Ch S w w') {p : Addr} (hp : p.block < w.heap.size) (hn : p.block ∉ S) : w'.frozen? p = w.frozen? p := World.frozen?_of_block (w := w) (h.block _ hp hn)
end

/-! ### A block that is known whole -/

def Blk (w : World) (g : Nat) (t : TypeId) (cs : List Value) : Prop := w.heap[g]? = some (.cells cs.toArray t (0, 0))

section
variable {w w' : World} {g : Nat} {t : TypeId} {cs : List Value} {S : List Nat}
theorem Blk.lt (h : Blk w g t cs) : g < w.heap.size := by
  rcases Nat.lt_or_ge g w.heap.size with hlt | hge
  · exact hlt
  · unfold Blk at h; rw [Array.getElem?_eq_none hge] at h; cases h
theorem Blk.cell (h : Blk w g t cs) (i : Nat) : w.cell? ⟨g, i, none⟩ = cs[i]? := by
  unfold Blk at h; simp [World.cell?, h]
theorem Blk.frozen (h : Blk w g t cs) (i : Nat) : w.frozen? ⟨g, i, none⟩ = false := by
  unfold Blk at h; simp [World.frozen?, h]
theorem Blk.new (w : World) (t : TypeId) (cs : List Value) : Blk (w.alloc (.cells cs.toArray t)) w.heap.size t cs := heap_alloc_new w _
theorem Blk.newAt (w : World) (t : TypeId) (cs : List Value) {g : Nat} (hg : w.heap.size = g) : Blk (w.alloc (.cells cs.toArray t)) g t cs := by subst hg; exact Blk.new w t cs
theorem Blk.heap (h : Blk w g t cs) (e : w'.heap = w.heap) : Blk w' g t cs := by unfold Blk at h ⊢; rw [e]; exact h
theorem Blk.drew (h : Blk w g t cs) : Blk w.drew g t cs := h
theorem Blk.drewN (h : Blk w g t cs) (n : Nat) : Blk (w.drewN n) g t cs := h
theorem Blk.alloc (h : Blk w g t cs) (o : Obj) : Blk (w.alloc o) g t cs := (Below.heap_alloc w o g h.lt).trans h
theorem Blk.set (h : Blk w g t cs) (i : Nat) (u : Value) : Blk (w.setCell ⟨g, i, none⟩ u) g t (cs.set i u) := by
  unfold Blk at h ⊢
  simp [World.setCell, Array.getElem?_modify, h]
theorem Blk.far (h : Blk w g t cs) {p : Addr} (hp : g ≠ p.block) (u : Value) : Blk (w.setCell p u) g t cs := (Below.heap_setCell w p u g hp).trans h
theorem Blk.ch (h : Blk w g t cs) (hc : Ch S w w') (hn : g ∉ S) : Blk w' g t cs := (hc.block g h.lt hn).trans h
theorem Blk.below {B : Nat} (h : Blk w g t cs) (hb : Below B w w') (hg : g < B) : Blk w' g t cs := (hb.block g hg).trans h
theorem Blk.ne {g' : Nat} {t' : TypeId} {cs' : List Value} (h : Blk w g t cs) (h' : Blk w g' t' cs') (hne : t ≠ t') : g ≠ g' := by
  rintro rfl
  unfold Blk at h h'
  rw [h] at h'
  simp only [Option.some.injEq, Obj.cells.injEq] at h'
  exact hne h'.2.1
end

/-! ### A slice as it reads: n elements of 'size' cells each, in a block below B -/

def blkOf : Option Addr → List Nat
  | some a => [a.block]
  | none => []

def Rd (w : World) (B size : Nat) (A : Option Addr) (n : Nat) (vs : List Value) : Prop :=
  vs.length = n * size ∧ (0 < n → ∃ b off, A = some ⟨b, off, none⟩ ∧ b < B ∧ ∀ i v, vs[i]? = some v → w.cell? ⟨b, off + i, none⟩ = some v)

section
variable {w w' : World} {B B' size n : Nat} {A : Option Addr} {vs : List Value} {S : List Nat}
theorem Rd.nil (w : World) (B size : Nat) (A : Option Addr) : Rd w B size A 0 [] := ⟨by simp, fun h => absurd h (by omega)⟩
theorem Rd.keep (h : Rd w B size A n vs) (hk : ∀ b o, b < B → (∀ g ∈ blkOf A, b = g) → w'.cell? ⟨b, o, none⟩ = w.cell? ⟨b, o, none⟩) : Rd w' B size A n vs :=
  ⟨h.1, fun hn => by
    obtain ⟨b, off, rfl, hB, hc⟩ := h.2 hn
    exact ⟨b, off, rfl, hB, fun i v hi => (hk b _ hB (by simp [blkOf])).trans (hc i v hi)⟩⟩
theorem Rd.below (h : Rd w B size A n vs) (hb : Below B w w') : Rd w' B size A n vs := h.keep fun _ _ hB _ => hb.cell hB
theorem Rd.ch (h : Rd w B size A n vs) (hc : Ch S w w') (hB : B ≤ w.heap.size) (hn : ∀ g ∈ blkOf A, g ∉ S) : Rd w' B size A n vs :=
  ⟨h.1, fun hp => by
    obtain ⟨b, off, rfl, hlt, hcell⟩ := h.2 hp
    exact ⟨b, off, rfl, hlt, fun i v hi => (hc.cell (p := ⟨b, off + i, none⟩) (by simp; omega) (hn b (by simp [blkOf]))).trans (hcell i v hi)⟩⟩
theorem Rd.more (h : Rd w B size A n vs) (hB : B ≤ B') : Rd w B' size A n vs :=
  ⟨h.1, fun hn => by
    obtain ⟨b, off, e, hb, hc⟩ := h.2 hn
    exact ⟨b, off, e, by omega, hc⟩⟩
theorem Rd.drew (h : Rd w B size A n vs) : Rd w.drew B size A n vs := h
theorem Rd.drewN (h : Rd w B size A n vs) (k : Nat) : Rd (w.drewN k) B size A n vs := h
theorem Rd.at_ (h : Rd w B 1 A n vs) {k : Nat} (hk : k < n) : ∃ b off v, A = some ⟨b, off, none⟩ ∧ b < B ∧ vs[k]? = some v ∧ w.cell? ⟨b, off + k, none⟩ = some v := by
  obtain ⟨b, off, e, hb, hc⟩ := h.2 (by omega)
  have hl : k < vs.length := by have := h.1; omega
  exact ⟨b, off, vs[k], e, hb, List.getElem?_eq_getElem hl, hc k _ (List.getElem?_eq_getElem hl)⟩
theorem Rd.new (w : World) (size : Nat) (vs : List Value) (n : Nat) (hn : vs.length = n * size) (t : TypeId) : Rd (w.alloc (.cells vs.toArray t)) (w.heap.size + 1) size (some ⟨w.heap.size, 0, none⟩) n vs :=
  ⟨hn, fun _ => ⟨_, _, rfl, by omega, fun i v hi => by rw [Nat.zero_add, World.cell?_alloc_new]; simpa using hi⟩⟩
theorem Rd.blk {g : Nat} {t : TypeId} (h : Blk w g t vs) (hn : vs.length = n * size) (hg : g < B) : Rd w B size (some ⟨g, 0, none⟩) n vs :=
  ⟨hn, fun _ => ⟨g, 0, rfl, hg, fun i v hi => by rw [Nat.zero_add, h.cell]; exact hi⟩⟩
end

theorem RdI.rd {k : IntKind} {w : World} {B : Nat} {A : Option Addr} {n : Nat} {zs : List Int} (h : RdI k w B A n zs) : Rd w B 1 A n (zs.map (Value.int k)) :=
  ⟨by simp [h.1], fun hn => by
    obtain ⟨b, off, e, hb, hc⟩ := h.2 hn
    refine ⟨b, off, e, hb, fun i v hi => ?_⟩
    simp only [List.getElem?_map, Option.map_eq_some_iff] at hi
    obtain ⟨z, hz, rfl⟩ := hi
    have hi' : i < zs.length := by
      rcases Nat.lt_or_ge i zs.length with h1 | h1
      · exact h1
      · rw [List.getElem?_eq_none h1] at hz; cases hz
    rw [hc i (by have := h.1; omega)]
    simp [Go.Proofs.YtbmbnibamhgfmaaDoor.at_, List.getD, hz]⟩
theorem Rd.ints {k : IntKind} {w : World} {B : Nat} {A : Option Addr} {n : Nat} {zs : List Int} (h : Rd w B 1 A n (zs.map (Value.int k))) : RdI k w B A n zs :=
  ⟨by simpa using h.1, fun hn => by
    obtain ⟨b, off, e, hb, hc⟩ := h.2 hn
    refine ⟨b, off, e, hb, fun i hi => ?_⟩
    have hl : i < zs.length := by have := h.1; simp at this; omega
    refine hc i _ ?_
    simp [Go.Proofs.YtbmbnibamhgfmaaDoor.at_, List.getD, hl]⟩

theorem RdI.ch {k : IntKind} {w w' : World} {B n : Nat} {A : Option Addr} {zs : List Int} {S : List Nat} (h : RdI k w B A n zs) (hc : Ch S w w') (hB : B ≤ w.heap.size) (hn : ∀ g ∈ blkOf A, g ∉ S) : RdI k w' B A n zs :=
  Rd.ints (h.rd.ch hc hB hn)
theorem RdI.heap {k : IntKind} {w w' : World} {B n : Nat} {A : Option Addr} {zs : List Int} (h : RdI k w B A n zs) (e : w'.heap = w.heap) : RdI k w' B A n zs :=
  ⟨h.1, fun hp => by
    obtain ⟨b, off, e1, hB, hc⟩ := h.2 hp
    exact ⟨b, off, e1, hB, fun i hi => (World.cell?_of_block (w := w) (by rw [e])).trans (hc i hi)⟩⟩
theorem RdI.at_ {k : IntKind} {w : World} {B n : Nat} {A : Option Addr} {zs : List Int} (h : RdI k w B A n zs) {i : Nat} (hi : i < n) : ∃ b off, A = some ⟨b, off, none⟩ ∧ b < B ∧ w.cell? ⟨b, off + i, none⟩ = some (.int k (Go.Proofs.YtbmbnibamhgfmaaDoor.at_ zs i)) := by
  obtain ⟨b, off, e, hB, hc⟩ := h.2 (by omega)
  exact ⟨b, off, e, hB, hc i hi⟩
theorem Blk.int {k : IntKind} {w : World} {g : Nat} {t : TypeId} {zs : List Int} (h : Blk w g t (zs.map (Value.int k))) {i : Nat} (hi : i < zs.length) : w.cell? ⟨g, i, none⟩ = some (.int k (Go.Proofs.YtbmbnibamhgfmaaDoor.at_ zs i)) := by
  rw [h.cell]; simp [Go.Proofs.YtbmbnibamhgfmaaDoor.at_, List.getD, hi]
theorem Blk.setInt {k : IntKind} {w : World} {g : Nat} {t : TypeId} {zs : List Int} (h : Blk w g t (zs.map (Value.int k))) (i : Nat) (v : Int) : Blk (w.setCell ⟨g, i, none⟩ (.int k v)) g t ((zs.set i v).map (Value.int k)) := by
  have := h.set i (.int k v)
  rwa [← List.map_set] at this

/-! ### A slice of the call's own: nil, or at the head of a block at B or behind it -/

def Own (w : World) (B : Nat) (e : TypeId) (size : Nat) (A : Option Addr) (n c : Nat) (xs : List Value) : Prop := w.ownsRow B e size (.slice A n c) n xs

section
variable {w w' : World} {B n c size : Nat} {e : TypeId} {A : Option Addr} {xs : List Value} {S : List Nat}
theorem Own.nil (w : World) (B : Nat) (e : TypeId) (size : Nat) : Own w B e size none 0 0 [] := World.ownsRow_nil w B e size
theorem Own.len (h : Own w B e size A n c xs) : xs.length = n * size := h.1
theorem Own.blks (h : Own w B e size A n c xs) : ∀ g ∈ blkOf A, B ≤ g ∧ g < w.heap.size := by
  intro g hg
  cases A with
  | none => simp [blkOf] at hg
  | some a =>
    simp only [blkOf, List.mem_singleton] at hg
    subst hg
    exact World.ownsRow.lt h _ rfl
theorem Own.form (h : Own w B e size A n c xs) (hn : 0 < n) : ∃ g, A = some ⟨g, 0, none⟩ ∧ B ≤ g ∧ g < w.heap.size := by
  obtain ⟨g, cap, hv, hB, hlt⟩ := World.ownsRow.form h hn
  simp only [Value.slice.injEq] at hv
  exact ⟨g, hv.1, hB, hlt⟩
theorem Own.cap (h : Own w B e size A n c xs) : n ≤ c ∧ c ≤ maxLen := by
  rcases h.2 with ⟨hv, rfl⟩ | ⟨g, cap, cur, hv, _, _, h1, h2, _⟩
  · simp only [Value.slice.injEq] at hv
    obtain ⟨_, _, rfl⟩ := hv
    exact ⟨Nat.le_refl _, by simp [maxLen]⟩
  · simp only [Value.slice.injEq] at hv
    obtain ⟨_, _, rfl⟩ := hv
    exact ⟨h1, h2⟩
theorem Own.rd (h : Own w B e size A n c xs) : Rd w w.heap.size size A n xs :=
  ⟨h.1, fun hn => by
    obtain ⟨g, rfl, _, hlt⟩ := h.form hn
    refine ⟨g, 0, rfl, hlt, fun i v hi => ?_⟩
    have := World.ownsRow.cells h (g := g) rfl i v hi
    rw [← this]
    simp only [Addr.add]
    split <;> simp_all⟩
theorem Own.ch (h : Own w B e size A n c xs) (hc : Ch S w w') (hn : ∀ g ∈ blkOf A, g ∉ S) : Own w' B e size A n c xs := by
  refine ⟨h.1, ?_⟩
  rcases h.2 with h0 | ⟨g, cap, cur, hv, hb, hh, rest⟩
  · exact .inl h0
  · simp only [Value.slice.injEq] at hv
    obtain ⟨rfl, _, rfl⟩ := hv
    exact .inr ⟨g, c, cur, rfl, hb, (hc.block g (lt_of_block hh) (hn g (by simp [blkOf]))).trans hh, rest⟩
theorem Own.alloc (h : Own w B e size A n c xs) (o : Obj) : Own (w.alloc o) B e size A n c xs := World.ownsRow.alloc h o
theorem Own.drew (h : Own w B e size A n c xs) : Own w.drew B e size A n c xs := h
theorem Own.drewN (h : Own w B e size A n c xs) (k : Nat) : Own (w.drewN k) B e size A n c xs := h
theorem Own.new (w : World) (B : Nat) (e : TypeId) (size : Nat) (cs : List Value) (n : Nat) (hB : B ≤ w.heap.size) (hm : n ≤ maxLen) (hs : cs.length = n * size) :
    Own (w.alloc (.cells cs.toArray e)) B e size (some ⟨w.heap.size, 0, none⟩) n n cs := by
  have := World.ownsRow_lit (base := B) (e := e) (size := size) w cs.toArray n hB hm (by simpa using hs)
  simpa [Own] using this
theorem Own.blk {g : Nat} (h : Blk w g e xs) (hB : B ≤ g) (hm : n ≤ maxLen) (hs : xs.length = n * size) : Own w B e size (some ⟨g, 0, none⟩) n n xs :=
  ⟨hs, .inr ⟨g, n, xs.toArray, rfl, hB, h, Nat.le_refl _, hm, by simpa using hs, by simp [hs ▸ List.take_length]⟩⟩
theorem Own.base {B' : Nat} (h : Own w B e size A n c xs) (hB : B' ≤ B) : Own w B' e size A n c xs := by
  refine ⟨h.1, ?_⟩
  rcases h.2 with h0 | ⟨g, cap, cur, hv, hb, rest⟩
  · exact .inl h0
  · exact .inr ⟨g, cap, cur, hv, by omega, rest⟩
/-- A cell that is stored into. -/
theorem Own.set {g : Nat} (h : Own w B e size (some ⟨g, 0, none⟩) n c xs) (j : Nat) (u : Value) : Own (w.setCell ⟨g, j, none⟩ u) B e size (some ⟨g, 0, none⟩) n c (xs.set j u) :=
  (World.ownsRow.stored h j u).1
end

/-! ### append onto a slice of the call's own -/

section
variable {P : Program} (w : World)

theorem run_append_none (base : Nat) (t ty e : TypeId) (i : TypeInfo) (size : Nat) (ht : P.underlying t = some (.slice e)) (hi : P.info? e = some i)
    (v : Value) (n : Nat) (xs : List Value) (hown : w.ownsRow base e size v n xs) (c : Nat) : (Builtin.append_ #[t, t] ty #[v, .slice none 0 c]).run P w = .ok v w := by
  rcases hown.2 with ⟨rfl, rfl⟩ | ⟨g, cap, cur, rfl, _, _, hnc, _⟩
  · simp [Builtin.append_, run_underlying ht, sizeOf, typeInfo, hi, Builtin.lenOf, Builtin.firstCells]
  · simp [Builtin.append_, run_underlying ht, sizeOf, typeInfo, hi, Builtin.lenOf, Builtin.firstCells, hnc, storeCells]

theorem run_app (B : Nat) (t ty e : TypeId) (z : Value) (size bytes : Nat) (ht : P.underlying t = some (.slice e)) (hinfo : (P.info? e).map (fun i => (i.zero, i.size, i.bytes)) = some (some z, size, bytes))
    (hzs : z.cells.size = size) (hsz : 0 < size) (A : Option Addr) (n c : Nat) (xs : List Value) (hown : Own w B e size A n c xs)
    (B' : Nat) (A' : Option Addr) (m c' : Nat) (news : List Value) (hrd : Rd w B' size A' m news) (h1 : ∀ u ∈ news, u.oneCell' = true)
    (h63 : n + m ≤ maxLen) (hbytes : (n + m) * bytes ≤ 140737488355328) (hbase : B ≤ w.heap.size) :
    ∃ A2 c2 w', (Builtin.append_ #[t, t] ty #[.slice A n c, .slice A' m c']).run P w = .ok (.slice A2 (n + m) c2) w' ∧ Own w' B e size A2 (n + m) c2 (xs ++ news) ∧ Ch (blkOf A) w w' ∧
      (∀ g ∈ blkOf A2, g ∈ blkOf A ∨ g = w.heap.size) := by
  obtain ⟨i, hi, hz, hsize, hby⟩ := info_parts hinfo
  have hform : ∀ (v' : Value) (w' : World) (k : Nat) (ys : List Value), w'.ownsRow B e size v' k ys → ∃ A2 c2, v' = .slice A2 k c2 := by
    intro v' w' k ys h
    rcases h.2 with ⟨rfl, rfl⟩ | ⟨g, cap, cur, rfl, _⟩
    · exact ⟨none, 0, rfl⟩
    · exact ⟨_, _, rfl⟩
  rcases A' with _ | ad
  · have hm : m = 0 := by
      rcases Nat.eq_zero_or_pos m with h0 | h0
      · exact h0
      · obtain ⟨b, off, h, _⟩ := hrd.2 h0
        cases h
    subst hm
    have hn : news = [] := List.eq_nil_of_length_eq_zero (by simpa using hrd.1)
    subst hn
    refine ⟨A, c, w, run_append_none w B t ty e i size ht hi _ n xs hown c', by simpa using hown, Ch.refl _ _, fun g hg => .inl hg⟩
  · have hcells : ∀ j u, news[j]? = some u → w.cell? (ad.add j) = some u := by
      intro j u hu
      rcases Nat.eq_zero_or_pos m with h0 | h0
      · subst h0
        have hn : news = [] := List.eq_nil_of_length_eq_zero (by simpa using hrd.1)
        subst hn
        simp at hu
      · obtain ⟨b, off, h, _, hc⟩ := hrd.2 h0
        simp only [Option.some.injEq] at h
        subst h
        have := hc j u hu
        rw [← this]
        simp only [Addr.add]
        split <;> simp_all
    obtain ⟨v', w', hrun, h2, h3, _, h5⟩ := run_append_own_at (P := P) w B t ty e i z size bytes ht hi hz hsize hby hzs hsz _ n xs hown ad m c' news hrd.1 hcells h1 h63 hbytes hbase
    obtain ⟨A2, c2, rfl⟩ := hform _ _ _ _ h2
    refine ⟨A2, c2, w', hrun, h2, ?_, ?_⟩
    · have := Ch.grown h3
      cases A <;> simpa [blkOf, Value.ownBlock] using this
    · intro g hg
      cases A2 with
      | none => simp [blkOf] at hg
      | some a2 =>
        simp only [blkOf, List.mem_singleton] at hg
        subst hg
        rcases h5 with h5 | h5
        · left
          cases A with
          | none => simp [Value.ownBlock] at h5
          | some a1 => simp [Value.ownBlock] at h5; simp [blkOf, h5]
        · right
          simpa [Value.ownBlock] using h5

theorem wp_app {o : Oper} {a : Act} {K : Act → World → Prop} {Q : Exit → Act → World → Prop} (s x : Operand) (t : TypeId)
    (ho : o.op = .call { callee := .builtin .append, args := #[s, x], argTypes := #[t, t] })
    (B : Nat) (e : TypeId) (z : Value) (size bytes : Nat) (ht : P.underlying t = some (.slice e)) (hinfo : (P.info? e).map (fun i => (i.zero, i.size, i.bytes)) = some (some z, size, bytes))
    (hzs : z.cells.size = size) (hsz : 0 < size) (A : Option Addr) (n c : Nat) (xs : List Value) (hs : a.eval s = .slice A n c) (hown : Own w B e size A n c xs)
    (B' : Nat) (A' : Option Addr) (m c' : Nat) (news : List Value) (hx : a.eval x = .slice A' m c') (hrd : Rd w B' size A' m news) (h1 : ∀ u ∈ news, u.oneCell' = true)
    (h63 : n + m ≤ maxLen) (hbytes : (n + m) * bytes ≤ 140737488355328) (hbase : B ≤ w.heap.size)
    (h : ∀ A2 c2 w', Own w' B e size A2 (n + m) c2 (xs ++ news) → Ch (blkOf A) w w' → (∀ g ∈ blkOf A2, g ∈ blkOf A ∨ g = w.heap.size) → K (a.put o.dst (.slice A2 (n + m) c2)) w') : o.wp P a w K Q := by
  obtain ⟨A2, c2, w', hrun, h2, h3, h4⟩ := run_app (P := P) w B t o.type e z size bytes ht hinfo hzs hsz A n c xs hown B' A' m c' news hrd h1 h63 hbytes hbase
  unfold Oper.wp execOp
  simp only [ho, resolve, invoke, builtin, Sem.run_bind, Sem.run_pure, Result.andThen_ok, List.map_toArray, List.map_cons, List.map_nil, hs, hx, hrun]
  exact h A2 c2 w' h2 h3 h4

theorem wpList_app {ops : Array Oper} {rest : List Oper} {o : Oper} {a : Act} {Q : Exit → Act → World → Prop} (hgd : o.guard = none) (s x : Operand) (t : TypeId)
    (ho : o.op = .call { callee := .builtin .append, args := #[s, x], argTypes := #[t, t] })
    (B : Nat) (e : TypeId) (z : Value) (size bytes : Nat) (ht : P.underlying t = some (.slice e)) (hinfo : (P.info? e).map (fun i => (i.zero, i.size, i.bytes)) = some (some z, size, bytes))
    (hzs : z.cells.size = size) (hsz : 0 < size) (A : Option Addr) (n c : Nat) (xs : List Value) (hs : a.eval s = .slice A n c) (hown : Own w B e size A n c xs)
    (B' : Nat) (A' : Option Addr) (m c' : Nat) (news : List Value) (hx : a.eval x = .slice A' m c') (hrd : Rd w B' size A' m news) (h1 : ∀ u ∈ news, u.oneCell' = true)
    (h63 : n + m ≤ maxLen) (hbytes : (n + m) * bytes ≤ 140737488355328) (hbase : B ≤ w.heap.size)
    (h : ∀ A2 c2 w', Own w' B e size A2 (n + m) c2 (xs ++ news) → Ch (blkOf A) w w' → (∀ g ∈ blkOf A2, g ∈ blkOf A ∨ g = w.heap.size) → wpList P ops Q rest (a.put o.dst (.slice A2 (n + m) c2)) w') :
    wpList P ops Q (o :: rest) a w :=
  wpList_plain hgd fun _ hK => wp_app w s x t ho B e z size bytes ht hinfo hzs hsz A n c xs hs hown B' A' m c' news hx hrd h1 h63 hbytes hbase fun A2 c2 w' h2 h3 h4 => hK _ _ (h A2 c2 w' h2 h3 h4)

theorem step_app {ops : Array Oper} {o : Oper} {a : Act} {K : Act → World → Prop} {Q : Exit → Act → World → Prop} {E : Prop} (hgd : o.guard = none) (s x : Operand) (t : TypeId)
    (ho : o.op = .call { callee := .builtin .append, args := #[s, x], argTypes := #[t, t] })
    (B : Nat) (e : TypeId) (z : Value) (size bytes : Nat) (ht : P.underlying t = some (.slice e)) (hinfo : (P.info? e).map (fun i => (i.zero, i.size, i.bytes)) = some (some z, size, bytes))
    (hzs : z.cells.size = size) (hsz : 0 < size) (A : Option Addr) (n c : Nat) (xs : List Value) (hs : a.eval s = .slice A n c) (hown : Own w B e size A n c xs)
    (B' : Nat) (A' : Option Addr) (m c' : Nat) (news : List Value) (hx : a.eval x = .slice A' m c') (hrd : Rd w B' size A' m news) (h1 : ∀ u ∈ news, u.oneCell' = true)
    (h63 : n + m ≤ maxLen) (hbytes : (n + m) * bytes ≤ 140737488355328) (hbase : B ≤ w.heap.size)
    (h : ∀ A2 c2 w', Own w' B e size A2 (n + m) c2 (xs ++ news) → Ch (blkOf A) w w' → (∀ g ∈ blkOf A2, g ∈ blkOf A ∨ g = w.heap.size) → K (a.put o.dst (.slice A2 (n + m) c2)) w') :
    if Region.wanted o (yielded ops a.tmps) = true then Oper.wp P o a w K Q else E := by
  have hw : Region.wanted o (yielded ops a.tmps) = true := by simp [Region.wanted, hgd]
  rw [if_pos hw]
  exact wp_app w s x t ho B e z size bytes ht hinfo hzs hsz A n c xs hs hown B' A' m c' news hx hrd h1 h63 hbytes hbase h
end
end Go.Proofs.YtbmbnibamhgfmaaDoor

/- Strings as lists of numbers: what '[]byte(s)' and 'string(b)' give; concatenation, slices. -/
namespace Go.Proofs.YtbmbnibamhgfmaaDoor
open Go.RowKit

/-- The bytes of a string, as numbers. -/
def numsOf (s : ByteArray) : List Int := s.data.toList.map fun b => (b.toNat : Int)
theorem numsOf_length (s : ByteArray) : (numsOf s).length = s.size := by unfold numsOf; rw [List.length_map, Array.length_toList]; rfl
theorem numsOf_at (s : ByteArray) (i : Nat) (h : i < s.data.size) : at_ (numsOf s) i = (s.data[i].toNat : Int) := by
  simp [numsOf, at_, List.getD, Array.getElem?_eq_getElem h]
theorem strOf_nums (s : ByteArray) : strOfNums (numsOf s) = s := by
  apply ByteArray.ext
  apply Array.toList_inj.1
  rw [strOfNums_data]
  unfold numsOf
  rw [List.map_map]
  conv => rhs; rw [← List.map_id s.data.toList]
  apply List.map_congr_left
  intro x _
  simp
theorem str_ext {s t : ByteArray} (h : s.data.toList = t.data.toList) : s = t := ByteArray.ext (Array.toList_inj.1 h)
theorem strOf_append (xs ys : List Int) : strOfNums xs ++ strOfNums ys = strOfNums (xs ++ ys) := by
  apply str_ext
  rw [strOfNums_data, ByteArray.data_append, Array.toList_append, strOfNums_data, strOfNums_data, List.map_append]
theorem strOf_extract (xs : List Int) (i j : Nat) : (strOfNums xs).extract i j = strOfNums ((xs.drop i).take (j - i)) := by
  apply str_ext
  rw [strOfNums_data, ByteArray.data_extract, Array.toList_extract, strOfNums_data, List.extract_eq_take_drop, List.map_take, List.map_drop]
theorem strOf_size (xs : List Int) : (strOfNums xs).size = xs.length := strOfNums_size xs
theorem strOf_nil : strOfNums [] = ByteArray.empty := rfl

section
variable {P : Program} {w : World} {ops : Array Oper} {rest : List Oper} {o : Oper} {a : Act} {Q : Exit → Act → World → Prop}

theorem wpList_bytesOf (hgd : o.guard = none) (src dst e : TypeId) (x : Operand) (ho : o.op = .convert src dst x) (hs : P.underlying src = some .string) (hd : P.underlying dst = some (.slice e)) (he : P.underlying e = some (.int .u8))
    (s : ByteArray) (hx : a.eval x = .string s) (hm : s.size ≤ maxLen)
    (h : ∀ c w', s.size ≤ c → c ≤ maxLen → RdI .u8 w' w'.heap.size (some ⟨w.heap.size, 0, none⟩) s.size (numsOf s) → Ch [] w w' → w'.heap.size = w.heap.size + 1 → wpList P ops Q rest (a.put o.dst (.slice (some ⟨w.heap.size, 0, none⟩) s.size c)) w') :
    wpList P ops Q (o :: rest) a w :=
  wpList_plain hgd fun K hK => by
    unfold Oper.wp execOp
    simp only [ho, Sem.run_bind, hx, run_bytes_of_string w src dst e s hs hd he, Result.andThen_ok]
    refine hK _ _ (h _ _ (grownCap_ge ..) (grownCap_le_maxLen _ _ _ _ hm) ⟨numsOf_length s, fun _ => ⟨_, _, rfl, by simp, fun i hi => ?_⟩⟩ ((Ch.refl _ _).drew.alloc _) (by simp))
    have hi' : i < s.data.size := hi
    rw [Nat.zero_add, numsOf_at s i hi', ← bytesRow_at s (grownCap w s.size 0 e) i hi']
    have hh := heap_alloc_new w.drew (.cells (bytesRow s (grownCap w s.size 0 e)) e ((bytesRow s (grownCap w s.size 0 e)).size, (bytesRow s (grownCap w s.size 0 e)).size + 1))
    have hh' : (w.drew.alloc (.cells (bytesRow s (grownCap w s.size 0 e)) e ((bytesRow s (grownCap w s.size 0 e)).size, (bytesRow s (grownCap w s.size 0 e)).size + 1))).heap[w.heap.size]? = _ := hh
    simp only [World.cell?, hh']
    rfl

theorem wpList_strOf (hgd : o.guard = none) (src dst e : TypeId) (x : Operand) (ho : o.op = .convert src dst x) (hs : P.underlying src = some (.slice e)) (he : P.underlying e = some (.int .u8)) (hd : P.underlying dst = some .string)
    (A : Option Addr) (n c B : Nat) (xs : List Int) (hx : a.eval x = .slice A n c) (hr : RdI .u8 w B A n xs) (h : wpList P ops Q rest (a.put o.dst (.string (strOfNums xs))) w) :
    wpList P ops Q (o :: rest) a w :=
  wpList_plain hgd fun K hK => by
    have e : (convert src dst (.slice A n c)).run P w = .ok (.string (strOfNums xs)) w := by
      rcases Nat.eq_zero_or_pos n with h0 | hp
      · subst h0
        obtain rfl : xs = [] := List.eq_nil_of_length_eq_zero hr.1
        rcases A with _ | ⟨b, off, spot⟩
        · exact run_convert_bytes_nil w src e hs he 0 c dst hd
        · have := run_convert_bytes_back w src dst e ⟨b, off, spot⟩ c [] hs he hd (fun j hj => absurd hj (by simp))
          exact this
      · obtain ⟨b, off, rfl, _, hc⟩ := hr.2 hp
        exact run_convert_bytes_arg w src e hs he b off n c xs hr.1 (fun i hi => hc i hi) dst hd
    unfold Oper.wp execOp
    simp only [ho, Sem.run_bind, hx, e, Result.andThen_ok]
    exact hK _ _ h
end
end Go.Proofs.YtbmbnibamhgfmaaDoor

/- strings.Trim at a cutset of one byte: what it leaves is empty exactly where every byte is that one. -/
namespace Go.Proofs.YtbmbnibamhgfmaaDoor
open Go.RowKit

def byt (s : ByteArray) (i : Nat) : Int := ((s.data[i]?.getD 0).toNat : Int)
theorem byt_get {s : ByteArray} {i : Nat} (h : i < s.size) : ((s[i]'h).toNat : Int) = byt s i := by
  have h' : i < s.data.size := h
  unfold byt
  rw [Array.getElem?_eq_getElem h']
  rfl
theorem byt_extract {s : ByteArray} {a b i : Nat} (h : i < b - a) (hb : b ≤ s.size) : byt (s.extract a b) i = byt s (a + i) := by
  have hb' : b ≤ s.data.size := hb
  unfold byt
  rw [ByteArray.data_extract, Array.getElem?_extract, if_pos (by omega)]
theorem byt_at {s : ByteArray} {i : Nat} (h : i < s.size) : byt s i = at_ (numsOf s) i := by
  have h' : i < s.data.size := h
  rw [numsOf_at s i h']
  unfold byt
  rw [Array.getElem?_eq_getElem h']
  rfl
theorem byt_rng (s : ByteArray) (i : Nat) : 0 ≤ byt s i ∧ byt s i ≤ 255 := by
  unfold byt
  have := (s.data[i]?.getD 0).toNat_lt
  omega
def strLen (v : Value) : Nat := match v with | .string u => u.size | _ => 0
theorem ext_ext (s : ByteArray) {m : Nat} (h : m ≤ s.size) (k : Nat) (hk : k ≤ m) : (s.extract 0 m).extract 0 k = s.extract 0 k := by
  have h' : m ≤ s.data.size := h
  apply str_ext
  rw [ByteArray.data_extract, ByteArray.data_extract, ByteArray.data_extract]
  simp only [Array.toList_extract, List.extract_eq_take_drop, List.drop_zero, Nat.sub_zero, List.take_take]
  rw [Nat.min_eq_left hk]
theorem ext_tail (s : ByteArray) {a : Nat} (h : a < s.size) : (s.extract a s.size).extract 1 (s.extract a s.size).size = s.extract (a + 1) s.size := by
  have e : (s.extract a s.size).size = s.size - a := by rw [ByteArray.size_extract]; omega
  rw [e]
  have e2 : s.size = s.data.toList.length := by rw [Array.length_toList]; rfl
  apply str_ext
  rw [ByteArray.data_extract, ByteArray.data_extract, ByteArray.data_extract]
  simp only [Array.toList_extract, List.extract_eq_take_drop, List.drop_take, List.take_take, List.drop_drop]
  congr 1
  omega

theorem trimR (s : ByteArray) (c : Int) (w : World) (hs : s.size ≤ 9223372036854775807) :
    Calls Tryd.prog 98 #[.string s, .int .u8 c] w fun e w' => (∃ m, e = .returned (.string (s.extract 0 m)) ∧ m ≤ s.size ∧ Hid (∀ i, m ≤ i → i < s.size → byt s i = c) ∧ (0 < m → byt s (m - 1) ≠ c)) ∧ w = w' := by
  go_enter Tryd.func98, Tryd.ntmps98
  go_wp2
  go_loopw [0] (fun x wr => ∃ (u : ByteArray) (m : Nat), x = .string u ∧ Hid (u = s.extract 0 m) ∧ m ≤ s.size ∧ u.size = m ∧ Hid (∀ i, m ≤ i → i < s.size → byt s i = c) ∧ w = wr) (fun x _ => strLen x)
  case atStart => exact ⟨s, s.size, rfl, by show _ = _; simp, Nat.le_refl _, rfl, fun i h1 h2 => absurd h1 (by omega), rfl⟩
  case round =>
    obtain ⟨u, m, rfl, hU, hm, hu, hall, rfl⟩ := hrel
    by_cases hp : 0 < m
    · have hlt : m - 1 < u.size := by omega
      have e1 : ((u[m - 1]'hlt).toNat : Int) = byt s (m - 1) := by rw [byt_get, hU.out, byt_extract (by omega) hm]; simp
      have hb2 : 1 ≤ (m : Int) ∧ (m : Int) - 1 < m := by omega
      by_cases hc : byt s (m - 1) = c
      · have hd : (((u[m - 1]'hlt).toNat : Int) == c) = true := by rw [e1]; simpa using hc
        have HC := hid hc
        clear hc e1
        go_wp2
        all_goals try (exfalso; omega)
        go_roundw
        case rel =>
          refine ⟨u.extract 0 (m - 1), m - 1, rfl, by show _ = _; rw [hU.out, ext_ext s hm _ (by omega)], by omega, by rw [ByteArray.size_extract]; omega, fun i h1 h2 => ?_, by first | trivial | rfl⟩
          rcases Nat.lt_or_ge i m with h3 | h3
          · obtain rfl : i = m - 1 := by omega
            exact HC.out
          · exact hall.out i h3 h2
        case measure => simp [strLen]; omega
      · have hd : (((u[m - 1]'hlt).toNat : Int) == c) = false := by rw [e1]; simpa using hc
        have HC := hid hc
        clear hc e1
        go_wp2
        all_goals try (exfalso; omega)
        go_ret
        exact ⟨⟨m, by rw [← hU.out]; rfl, hm, hall, fun _ => HC.out⟩, rfl⟩
    · obtain rfl : m = 0 := by omega
      go_wp2
      go_ret
      exact ⟨⟨0, by rw [← hU.out]; rfl, hm, hall, fun h => absurd h (by omega)⟩, rfl⟩

theorem trimL (s : ByteArray) (c : Int) (w : World) (hs : s.size ≤ 9223372036854775807) :
    Calls Tryd.prog 97 #[.string s, .int .u8 c] w fun e w' => (∃ m, e = .returned (.string (s.extract m s.size)) ∧ m ≤ s.size ∧ Hid (∀ i, i < m → byt s i = c) ∧ (m < s.size → byt s m ≠ c)) ∧ w = w' := by
  go_enter Tryd.func97, Tryd.ntmps97
  go_wp2
  go_loopw [0] (fun x wr => ∃ (u : ByteArray) (m : Nat), x = .string u ∧ Hid (u = s.extract m s.size) ∧ m ≤ s.size ∧ u.size = s.size - m ∧ Hid (∀ i, i < m → byt s i = c) ∧ w = wr) (fun x _ => strLen x)
  case atStart => exact ⟨s, 0, rfl, by show _ = _; simp, Nat.zero_le _, by omega, fun i h1 => absurd h1 (by omega), rfl⟩
  case round =>
    obtain ⟨u, m, rfl, hU, hm, hu, hall, rfl⟩ := hrel
    by_cases hp : m < s.size
    · have hlt : 0 < u.size := by omega
      have e1 : ((u[0]'hlt).toNat : Int) = byt s m := by rw [byt_get, hU.out, byt_extract (by omega) (Nat.le_refl _)]; simp
      by_cases hc : byt s m = c
      · have hd : (((u[0]'hlt).toNat : Int) == c) = true := by rw [e1]; simpa using hc
        have HC := hid hc
        clear hc e1
        have HU := hid hu
        clear hu
        go_wp2
        all_goals try (exfalso; omega)
        go_roundw
        case rel =>
          refine ⟨_, m + 1, rfl, by show _ = _; rw [hU.out, ext_tail s hp], by omega, by rw [ByteArray.size_extract, HU.out]; omega, fun i h1 => ?_, by first | trivial | rfl⟩
          rcases Nat.lt_or_ge i m with h3 | h3
          · exact hall.out i h3
          · obtain rfl : i = m := by omega
            exact HC.out
        case measure => simp [strLen]; omega
      · have hd : (((u[0]'hlt).toNat : Int) == c) = false := by rw [e1]; simpa using hc
        have HC := hid hc
        clear hc e1
        go_wp2
        all_goals try (exfalso; omega)
        go_ret
        exact ⟨⟨m, by rw [← hU.out]; rfl, hm, hall, fun _ => HC.out⟩, rfl⟩
    · obtain rfl : m = s.size := by omega
      go_wp2
      go_ret
      exact ⟨⟨s.size, by rw [← hU.out]; rfl, hm, hall, fun h => absurd h (by omega)⟩, rfl⟩

/-- strings.Trim at the byte 0: empty exactly where every byte is 0. -/
theorem trimZero (s : ByteArray) (w : World) (hs : s.size ≤ 9223372036854775807) :
    Calls Tryd.prog 82 #[.string s, .string ⟨#[0]⟩] w fun e w' => (∃ r : ByteArray, e = .returned (.string r) ∧ (r.size = 0 ↔ ∀ i, i < s.size → byt s i = 0)) ∧ ∃ n, w' = w.drewN n := by
  by_cases h0 : s.size = 0
  · have e0 : s.toList = [] := by
      rw [ByteArray.toList_eq]
      exact List.eq_nil_of_length_eq_zero (by rw [Array.length_toList]; exact h0)
    have H0 := hid h0
    clear h0
    go_enter Tryd.func82, Tryd.ntmps82
    go_wp2
    go_ret
    exact ⟨⟨s, rfl, by rw [H0.out]; exact ⟨fun _ i h => absurd h (by omega), fun _ => rfl⟩⟩, 0, rfl⟩
  · have e0 : ¬ s.toList = [] := by
      rw [ByteArray.toList_eq]
      intro h
      have := congrArg List.length h
      rw [Array.length_toList] at this
      exact h0 this
    obtain ⟨z, hz, hz1, hz0, hz3⟩ : ∃ z : ByteArray, (⟨#[0]⟩ : ByteArray) = z ∧ ¬ z.toList = [] ∧ z.size = 1 ∧ ∀ h : 0 < z.size, (z[0]'h).toNat = 0 :=
      ⟨_, rfl, by rw [ByteArray.toList_eq]; simp, rfl, fun h => rfl⟩
    rw [hz]
    have hz2 : 0 < z.size := by omega
    have hz4 := hz3 hz2
    have i0 : s.toList.isEmpty = false := by simpa using e0
    have i1 : z.toList.isEmpty = false := by simpa using hz1
    clear hz hz3
    go_enter Tryd.func82, Tryd.ntmps82
    go_wp2_with fail
    refine wp_region_stagesM [⟨0, 1, 4194304⟩, ⟨0, 2, 8388608⟩, ⟨2, 8388608, 16777216⟩, ⟨5, 20971520, 33554432⟩, ⟨0, 2, 67108864⟩, ⟨16, 67108864, 134217728⟩, ⟨40, 167772160, 268435456⟩, ⟨127, 268435456, 16⟩] [([0, 1, 2, 4, 5], 3, [4, 5]), ([], 6, [])] [7] (by kernel_rfl) (by kernel_rfl) ?_
    refine wpStages_step ?_
    simp only [pick, List.map_cons, List.map_nil, List.getD_cons_zero, List.getD_cons_succ]
    repeat (go_big_quiet_step (fail))
    refine wpQuiet_nil ?_
    intro n0
    simp only [pick, List.map_cons, List.map_nil, List.getD_cons_zero, List.getD_cons_succ]
    go_wp2_with (go_at_call 98; (with_reducible refine (trimR s 0 _ hs).mono ?_); rintro e w2 ⟨⟨m, rfl, hm, hall, hlast⟩, rfl⟩)
    obtain ⟨u, hu⟩ : ∃ u, s.extract 0 m = u := ⟨_, rfl⟩
    have hus : u.size ≤ m ∧ m ≤ u.size := by rw [← hu, ByteArray.size_extract]; omega
    have HU := hid hu
    rw [hu]
    clear hu
    refine stagePost_mk ?_ ?_
    · intro o ho
      simp only [pick, List.map_cons, List.map_nil, List.getD_cons_zero, List.getD_cons_succ, List.mem_cons, List.not_mem_nil, or_false] at ho
      rcases ho with rfl | rfl
      all_goals
        refine float_any ?_
        repeat (go_big_quiet_step (fail))
        refine wpQuiet_nil ?_
        rfl
    refine wpStages_step ?_
    simp only [pick, List.map_nil]
    refine wpQuiet_nil ?_
    intro n1
    simp only [pick, List.map_cons, List.map_nil, List.getD_cons_zero, List.getD_cons_succ]
    go_wp2_with (go_at_call 97; (with_reducible refine (trimL u 0 _ (by omega)).mono ?_); rintro e w3 ⟨⟨k, rfl, hk, hall2, hfirst⟩, rfl⟩)
    refine stagePost_mk (by simp [pick]) ?_
    refine wpStages_last ?_
    simp only [pick, List.map_cons, List.map_nil, List.getD_cons_zero, List.getD_cons_succ]
    repeat (go_big_quiet_step (fail))
    refine wpQuiet_nil ?_
    intro n2
    go_wp2
    go_ret
    refine ⟨⟨_, rfl, ?_⟩, _, World.drewN_drewN ..⟩
    rw [ByteArray.size_extract]
    constructor
    · intro h i hi
      rcases Nat.lt_or_ge i m with h3 | h3
      · have := hall2.out i (by omega)
        rw [← HU.out, byt_extract (by omega) hm] at this
        simpa using this
      · exact hall.out i h3 hi
    · intro h
      rcases Nat.eq_zero_or_pos m with h3 | h3
      · omega
      · exact absurd (h (m - 1) (by omega)) (hlast h3)
end Go.Proofs.YtbmbnibamhgfmaaDoor

/- The step from a walk to a row, for any law: the call returns true and turns nothing that was there; so each argument reads as it read. -/
namespace Go.Proofs.YtbmbnibamhgfmaaDoor
open Go.ChangeShapes Go.WideShapes Go.ChangeAt Go.RowKit

section
variable {H : Type} {enc : TypeId × Value → H} {P : Program}

theorem trodAll_lt {w : World} {base : Nat} {spare : Nat → Bool} {held : Bool} : ∀ {ts : List TypeId} {vs : List Value} {ds : List (DataW H)} {ps : List MemPlace},
    DataW.TrodAll enc P w base spare held ts vs ds ps → ∀ x ∈ ps, x.block < w.heap.size
  | [], [], [], ps, h => by cases h; intro x hx; cases hx
  | t :: ts, v :: vs, d :: ds, ps, ⟨p, q, ⟨n, hn⟩, hq, e⟩ => by
    intro x hx
    rw [e, List.mem_append] at hx
    rcases hx with hx | hx
    · exact DataW.trod_lt n _ _ _ hn x hx
    · exact trodAll_lt hq x hx
  | [], _ :: _, _, _, h => h.elim
  | [], [], _ :: _, _, h => h.elim
  | _ :: _, [], _, _, h => h.elim
  | _ :: _, _ :: _, [], _, h => h.elim

theorem trodAll_len {w : World} {base : Nat} {spare : Nat → Bool} {held : Bool} : ∀ {ts : List TypeId} {vs : List Value} {ds : List (DataW H)} {ps : List MemPlace},
    DataW.TrodAll enc P w base spare held ts vs ds ps → ds.length = ts.length
  | [], [], [], _, _ => rfl
  | t :: ts, v :: vs, d :: ds, ps, ⟨p, q, _, hq, _⟩ => by simp [trodAll_len hq]
  | [], _ :: _, _, _, h => h.elim
  | [], [], _ :: _, _, h => h.elim
  | _ :: _, [], _, _, h => h.elim
  | _ :: _, _ :: _, [], _, h => h.elim

theorem trodAll_below (hl : laidOutB P = true) {W W' : World} (hb : Below W.heap.size W W') : ∀ {ts : List TypeId} {vs : List Value} {ds : List (DataW H)} {ps : List MemPlace},
    (∀ t ∈ ts, P.readableRec t = true ∧ t < P.types.size) → DataW.TrodAll enc P W 0 (fun _ => true) true ts vs ds ps → DataW.TrodAll enc P W' 0 (fun b => decide (b < W.heap.size)) true ts vs ds ps
  | [], [], [], _, _, h => h
  | t :: ts, v :: vs, d :: ds, ps, hr, ⟨p, q, ht, hq, e⟩ => by
    have hlt : ∀ x ∈ p, x.block < W.heap.size := by obtain ⟨n, hn⟩ := ht; exact DataW.trod_lt n _ _ _ hn
    exact ⟨p, q, Below.trod hl (hr t (List.mem_cons_self ..)).1 (hr t (List.mem_cons_self ..)).2 ht hb hlt, trodAll_below hl hb (fun u hu => hr u (List.mem_cons_of_mem _ hu)) hq, e⟩
  | [], _ :: _, _, _, _, h => h.elim
  | [], [], _ :: _, _, _, h => h.elim
  | _ :: _, [], _, _, _, h => h.elim
  | _ :: _, _ :: _, [], _, _, h => h.elim

/-- What a walk is told of the arguments: they have their types' shapes, they read as data, and each slice, string and map is within the form's reach. -/
def Came (enc : TypeId × Value → H) (P : Program) (fn : Func) (W : World) (args : Array Value) (ds : List (DataW H)) : Prop :=
  (∃ base, ∀ (j : Nat) t v, fn.params[j]? = some t → args[j]? = some v → Value.okWide P W .any base t v) ∧
  (∃ ps, DataW.TrodAll enc P W 0 (fun _ => true) true fn.params.toList args.toList ds ps) ∧
  (DataW.weightsEach P fn.params.toList ds).all (· ≤ reachBytes) = true

theorem law_shell {C : Checked} {os : Os} (f : FuncId) (fn : Func) (s : ChangeSpec) (tb : TypeId) (own : ownKnob C.prog.godebug = none) (started : os.Started) (noInit : C.prog.inits.idxOf? f = none)
    (hfn : C.prog.funcs[f]? = some fn) (hl : laidOutB C.prog = true) (hp : fn.params.toList.all (fun t => C.prog.readableRec t && decide (t < C.prog.types.size)) = true)
    (hres : fn.resultTypes = #[tb]) (hbool : C.prog.underlying tb = some .bool) (hvars : s.vars = [])
    (hs : ∀ ds : List (DataW H), ds.length = fn.params.size → s.fn H ds = { results := [.lit (.bool true)], args := ds })
    (witness : ∃ (w : World) (tape : Tape) (i : Input), w.os = os ∧ (w.forCall tape i).Shaped C.prog ∧ i.vars = [] ∧ Input.okWide C.prog (w.forCall tape i) .any w.heap.size f i ∧
      s.pre6 enc C.prog fn [] false (w.forCall tape i).memory i.args ∧ ({} : Assume).holds C.prog (lone (Frame.enter C.prog f i.args .normal) [] (w.forCall tape i)))
    (walk : ∀ (W : World) (args : Array Value) (ds : List (DataW H)), Came enc C.prog fn W args ds → Calls C.prog f args W fun e W' => e = .returned (.bool true) ∧ Below W.heap.size W W') :
    ReturnsInHanded {} C os f .any (s.pre6 enc C.prog fn [] false) (s.post enc C.prog fn false true false false) := by
  refine returnsInHanded_of_change_sized own started noInit hfn witness ?_
  intro W base args ds gs before hval hW _ hsz _
  have hW' := hW
  obtain ⟨p, q, hA, hV, rfl, _, _⟩ := hW
  rw [hvars] at hV
  have hgs : gs = [] ∧ q = [] := by
    cases gs with
    | nil => exact ⟨rfl, hV⟩
    | cons g gs => exact hV.elim
  obtain ⟨rfl, rfl⟩ := hgs
  have hpl : ∀ t ∈ fn.params.toList, C.prog.readableRec t = true ∧ t < C.prog.types.size := by
    intro t ht
    have := List.all_eq_true.1 hp t ht
    simpa using this
  have hlen : ds.length = fn.params.size := by simpa using trodAll_len hA
  have hz : (DataW.weightsEach C.prog fn.params.toList ds).all (· ≤ reachBytes) = true := by
    have e : s.plain.varTypes C.prog = [] := by
      simp [DataSpec.varTypes, ChangeSpec.plain, hvars]
    rw [e, List.append_nil, List.append_nil] at hsz
    exact hsz
  refine (walk W args ds ⟨⟨base, hval⟩, ⟨p, hA⟩, hz⟩).mono fun e W' ⟨he, bel⟩ => ?_
  subst he
  have hfn' : s.fn H (ds ++ []) = { results := [.lit (.bool true)], args := ds } := by rw [List.append_nil]; exact hs ds hlen
  refine ⟨_, rfl, ds, [], p ++ [], [], p, [], hW', ?_, ?_, ?_, bel.frame _, fun h => by cases h⟩
  · rw [hfn', hres]; exact trodAll_mk1 (shut_bool hbool _)
  · rw [hfn']; exact trodAll_below hl bel hpl hA
  · rw [hfn', hvars]; rfl
/-- One argument: it has its type's shape and reads as the datum d. -/
def Arg (enc : TypeId × Value → H) (P : Program) (W : World) (t : TypeId) (v : Value) (d : DataW H) : Prop :=
  (∃ base, Value.okWide P W .any base t v) ∧ (∃ p, DataW.Trod enc P W 0 (fun _ => true) true t v d p) ∧ ∀ n ∈ d.weights P t, n ≤ reachBytes

theorem Came.args {fn : Func} {W : World} {args : Array Value} {ds : List (DataW H)} (h : Came enc P fn W args ds) :
    args.size = fn.params.size ∧ ds.length = fn.params.size ∧ ∀ (j : Nat) t, fn.params[j]? = some t → ∃ v d, args[j]? = some v ∧ ds[j]? = some d ∧ Arg enc P W t v d := by
  obtain ⟨⟨base, hval⟩, ⟨ps, hA⟩, hwt⟩ := h
  have key : ∀ (ts : List TypeId) (vs : List Value) (ds : List (DataW H)) (ps : List MemPlace), DataW.TrodAll enc P W 0 (fun _ => true) true ts vs ds ps →
      vs.length = ts.length ∧ ds.length = ts.length ∧ ∀ (j : Nat) t, ts[j]? = some t → ∃ v d p, vs[j]? = some v ∧ ds[j]? = some d ∧ DataW.Trod enc P W 0 (fun _ => true) true t v d p := by
    intro ts
    induction ts with
    | nil =>
      intro vs ds ps h
      obtain ⟨rfl, rfl, rfl⟩ := trodAll_nil h
      exact ⟨rfl, rfl, fun j t h => by simp at h⟩
    | cons t ts ih =>
      intro vs ds ps h
      obtain ⟨v, vs', d, ds', p, q, rfl, rfl, rfl, h1, h2⟩ := trodAll_cons h
      obtain ⟨l1, l2, l3⟩ := ih _ _ _ h2
      refine ⟨by simp [l1], by simp [l2], fun j u hu => ?_⟩
      cases j with
      | zero => simp at hu; subst hu; exact ⟨v, d, p, rfl, rfl, h1⟩
      | succ j => exact l3 j u (by simpa using hu)
  obtain ⟨l1, l2, l3⟩ := key _ _ _ _ hA
  refine ⟨by simpa using l1, by simpa using l2, fun j t hj => ?_⟩
  obtain ⟨v, d, p, h1, h2, h3⟩ := l3 j t (by simpa using hj)
  have h1' : args[j]? = some v := by simpa using h1
  exact ⟨v, d, h1', h2, ⟨base, hval j t v hj h1'⟩, ⟨p, h3⟩, fun n hn => by
    have := List.all_eq_true.1 hwt n (DataW.weights_mem_each (by simpa using hj) h2 n hn)
    simpa using this⟩

theorem arr1 {a : Array Value} {v0 : Value} (h : a.size = 1) (h0 : a[0]? = some v0) : a = #[v0] := by
  apply Array.ext'; rcases a with ⟨_ | ⟨x, _ | ⟨y, l⟩⟩⟩ <;> simp_all
theorem arr2 {a : Array Value} {v0 v1 : Value} (h : a.size = 2) (h0 : a[0]? = some v0) (h1 : a[1]? = some v1) : a = #[v0, v1] := by
  apply Array.ext'; rcases a with ⟨_ | ⟨x, _ | ⟨y, _ | ⟨z, l⟩⟩⟩⟩ <;> simp_all
theorem arr3 {a : Array Value} {v0 v1 v2 : Value} (h : a.size = 3) (h0 : a[0]? = some v0) (h1 : a[1]? = some v1) (h2 : a[2]? = some v2) : a = #[v0, v1, v2] := by
  apply Array.ext'; rcases a with ⟨_ | ⟨x, _ | ⟨y, _ | ⟨z, _ | ⟨u, l⟩⟩⟩⟩⟩ <;> simp_all
theorem arr4 {a : Array Value} {v0 v1 v2 v3 : Value} (h : a.size = 4) (h0 : a[0]? = some v0) (h1 : a[1]? = some v1) (h2 : a[2]? = some v2) (h3 : a[3]? = some v3) : a = #[v0, v1, v2, v3] := by
  apply Array.ext'; rcases a with ⟨_ | ⟨x, _ | ⟨y, _ | ⟨z, _ | ⟨u, _ | ⟨q, l⟩⟩⟩⟩⟩⟩ <;> simp_all
theorem arr5 {a : Array Value} {v0 v1 v2 v3 v4 : Value} (h : a.size = 5) (h0 : a[0]? = some v0) (h1 : a[1]? = some v1) (h2 : a[2]? = some v2) (h3 : a[3]? = some v3) (h4 : a[4]? = some v4) : a = #[v0, v1, v2, v3, v4] := by
  apply Array.ext'; rcases a with ⟨_ | ⟨x, _ | ⟨y, _ | ⟨z, _ | ⟨u, _ | ⟨q, _ | ⟨r, l⟩⟩⟩⟩⟩⟩⟩ <;> simp_all

theorem Came.args1 {fn : Func} {W : World} {args : Array Value} {ds : List (DataW H)} {t0 : TypeId} (hp : fn.params = #[t0]) (h : Came enc P fn W args ds) :
    ∃ v0 d0, args = #[v0] ∧ Arg enc P W t0 v0 d0 := by
  obtain ⟨l1, l2, l3⟩ := h.args
  rw [hp] at l1 l3
  obtain ⟨v0, d0, h0, _, a0⟩ := l3 0 t0 rfl
  exact ⟨v0, d0, arr1 l1 h0, a0⟩
theorem Came.args2 {fn : Func} {W : World} {args : Array Value} {ds : List (DataW H)} {t0 t1 : TypeId} (hp : fn.params = #[t0, t1]) (h : Came enc P fn W args ds) :
    ∃ v0 v1 d0 d1, args = #[v0, v1] ∧ Arg enc P W t0 v0 d0 ∧ Arg enc P W t1 v1 d1 := by
  obtain ⟨l1, l2, l3⟩ := h.args
  rw [hp] at l1 l3
  obtain ⟨v0, d0, h0, _, a0⟩ := l3 0 t0 rfl
  obtain ⟨v1, d1, h1, _, a1⟩ := l3 1 t1 rfl
  exact ⟨v0, v1, d0, d1, arr2 l1 h0 h1, a0, a1⟩
theorem Came.args3 {fn : Func} {W : World} {args : Array Value} {ds : List (DataW H)} {t0 t1 t2 : TypeId} (hp : fn.params = #[t0, t1, t2]) (h : Came enc P fn W args ds) :
    ∃ v0 v1 v2 d0 d1 d2, args = #[v0, v1, v2] ∧ Arg enc P W t0 v0 d0 ∧ Arg enc P W t1 v1 d1 ∧ Arg enc P W t2 v2 d2 := by
  obtain ⟨l1, l2, l3⟩ := h.args
  rw [hp] at l1 l3
  obtain ⟨v0, d0, h0, _, a0⟩ := l3 0 t0 rfl
  obtain ⟨v1, d1, h1, _, a1⟩ := l3 1 t1 rfl
  obtain ⟨v2, d2, h2, _, a2⟩ := l3 2 t2 rfl
  exact ⟨v0, v1, v2, d0, d1, d2, arr3 l1 h0 h1 h2, a0, a1, a2⟩
theorem Came.args4 {fn : Func} {W : World} {args : Array Value} {ds : List (DataW H)} {t0 t1 t2 t3 : TypeId} (hp : fn.params = #[t0, t1, t2, t3]) (h : Came enc P fn W args ds) :
    ∃ v0 v1 v2 v3 d0 d1 d2 d3, args = #[v0, v1, v2, v3] ∧ Arg enc P W t0 v0 d0 ∧ Arg enc P W t1 v1 d1 ∧ Arg enc P W t2 v2 d2 ∧ Arg enc P W t3 v3 d3 := by
  obtain ⟨l1, l2, l3⟩ := h.args
  rw [hp] at l1 l3
  obtain ⟨v0, d0, h0, _, a0⟩ := l3 0 t0 rfl
  obtain ⟨v1, d1, h1, _, a1⟩ := l3 1 t1 rfl
  obtain ⟨v2, d2, h2, _, a2⟩ := l3 2 t2 rfl
  obtain ⟨v3, d3, h3, _, a3⟩ := l3 3 t3 rfl
  exact ⟨v0, v1, v2, v3, d0, d1, d2, d3, arr4 l1 h0 h1 h2 h3, a0, a1, a2, a3⟩
theorem Came.args5 {fn : Func} {W : World} {args : Array Value} {ds : List (DataW H)} {t0 t1 t2 t3 t4 : TypeId} (hp : fn.params = #[t0, t1, t2, t3, t4]) (h : Came enc P fn W args ds) :
    ∃ v0 v1 v2 v3 v4 d0 d1 d2 d3 d4, args = #[v0, v1, v2, v3, v4] ∧ Arg enc P W t0 v0 d0 ∧ Arg enc P W t1 v1 d1 ∧ Arg enc P W t2 v2 d2 ∧ Arg enc P W t3 v3 d3 ∧ Arg enc P W t4 v4 d4 := by
  obtain ⟨l1, l2, l3⟩ := h.args
  rw [hp] at l1 l3
  obtain ⟨v0, d0, h0, _, a0⟩ := l3 0 t0 rfl
  obtain ⟨v1, d1, h1, _, a1⟩ := l3 1 t1 rfl
  obtain ⟨v2, d2, h2, _, a2⟩ := l3 2 t2 rfl
  obtain ⟨v3, d3, h3, _, a3⟩ := l3 3 t3 rfl
  obtain ⟨v4, d4, h4, _, a4⟩ := l3 4 t4 rfl
  exact ⟨v0, v1, v2, v3, v4, d0, d1, d2, d3, d4, arr5 l1 h0 h1 h2 h3 h4, a0, a1, a2, a3, a4⟩

theorem Arg.int {W : World} {t : TypeId} {k : IntKind} {v : Value} {d : DataW H} (hu : P.underlying t = some (.int k)) (h : Arg enc P W t v d) : ∃ n, v = .int k n ∧ (Lit.int k n).wf = true := by
  obtain ⟨⟨base, hv⟩, ⟨p, ht⟩, _⟩ := h
  obtain ⟨n, e, _, _, hw⟩ := open_int hu hv ht
  exact ⟨n, e, hw⟩
theorem Arg.i64 {W : World} {t : TypeId} {v : Value} {d : DataW H} (hu : P.underlying t = some (.int .i64)) (h : Arg enc P W t v d) : ∃ n, v = .int .i64 n ∧ -9223372036854775808 ≤ n ∧ n ≤ 9223372036854775807 := by
  obtain ⟨n, e, hw⟩ := h.int hu; exact ⟨n, e, bounds_i64 hw⟩
theorem Arg.u64 {W : World} {t : TypeId} {v : Value} {d : DataW H} (hu : P.underlying t = some (.int .u64)) (h : Arg enc P W t v d) : ∃ n, v = .int .u64 n ∧ 0 ≤ n ∧ n ≤ 18446744073709551615 := by
  obtain ⟨n, e, hw⟩ := h.int hu; exact ⟨n, e, bounds_u64 hw⟩
theorem Arg.bool {W : World} {t : TypeId} {v : Value} {d : DataW H} (hu : P.underlying t = some .bool) (h : Arg enc P W t v d) : ∃ b, v = .bool b := by
  obtain ⟨⟨base, hv⟩, ⟨p, ht⟩, _⟩ := h
  obtain ⟨b, e, _⟩ := open_bool hu hv ht
  exact ⟨b, e⟩
theorem Arg.string {W : World} {t : TypeId} {v : Value} {d : DataW H} (hu : P.underlying t = some .string) (h : Arg enc P W t v d) : ∃ s : ByteArray, v = .string s ∧ s.size ≤ 140737488351232 := by
  obtain ⟨⟨base, hv⟩, ⟨p, ht⟩, hw⟩ := h
  obtain ⟨s, e, rfl, _, hs⟩ := Go.ChangeMaps.open_string hu hv ht
  exact ⟨s, e, by have := hw s.data.toList.length (by simp [DataW.weights]); simpa [reachBytes] using this⟩

theorem lits_length (k : IntKind) (l : List Int) : (lits (H := H) k l).length = l.length := by simp [lits]

theorem Arg.ints {W : World} {t e : TypeId} {k : IntKind} {v : Value} {d : DataW H} (hu : P.underlying t = some (.slice e)) (he : P.underlying e = some (.int k)) (hc : P.cellsOf e = 1) (h : Arg enc P W t v d) :
    ∃ A len cap zs, v = .slice A len cap ∧ len ≤ cap ∧ cap ≤ maxLen ∧ cap * P.bytesOf e ≤ 140737488351232 ∧ RdI k W W.heap.size A len zs ∧ ∀ z ∈ zs, (Lit.int k z).wf = true := by
  obtain ⟨⟨base, hv⟩, ⟨p, fuel, ht⟩, hw⟩ := h
  obtain ⟨A, len, cap, rfl⟩ := okWide_slice hu hv
  rcases open_ints hu he hc ht with ⟨hcs, _⟩ | ⟨x, l, c, zs, hcs, _, hl, hm, hz, hx, hcell, hwz⟩
  · simp [Value.cells] at hcs
    obtain ⟨rfl, rfl, rfl⟩ := hcs
    exact ⟨none, 0, 0, [], rfl, Nat.le_refl _, by unfold maxLen; omega, by omega, RdI.nil _ _ _ _, by simp⟩
  · simp [Value.cells] at hcs
    obtain ⟨rfl, rfl, rfl⟩ := hcs
    simp only [if_true] at hz
    simp only [Prod.mk.injEq] at hx
    obtain ⟨rfl, _⟩ := hx
    have hb : cap * P.bytesOf e ≤ 140737488351232 := by
      have := hw (((lits (H := H) k (zs.take len)).length + (lits (H := H) k (zs.drop len)).length) * P.bytesOf e) (by simp [DataW.weights, hu])
      have e1 : (lits (H := H) k (zs.take len)).length + (lits (H := H) k (zs.drop len)).length = cap := by
        rw [lits_length, lits_length, List.length_take, List.length_drop, hz]; omega
      rw [e1] at this
      simpa [reachBytes] using this
    refine ⟨some x, len, cap, zs.take len, rfl, hl, hm, hb, ⟨by simp [hz]; omega, fun hp => ?_⟩, fun z hz' => hwz z (List.mem_of_mem_take hz')⟩
    have h0 := hcell 0 (by omega)
    obtain ⟨b, off, spot⟩ := x
    have hspot : spot = none := by simpa [Addr.add] using World.cell?_spot h0
    subst hspot
    refine ⟨b, off, rfl, by simpa [Addr.add] using World.block_lt_of_cell? W _ h0, fun i hi => ?_⟩
    have hci := hcell i (by omega)
    have e1 : (Addr.add ⟨b, off, none⟩ i) = ⟨b, off + i, none⟩ := by unfold Addr.add; split <;> simp_all
    rw [e1] at hci
    rw [hci]
    simp [at_, List.getD, hi]
end
end Go.Proofs.YtbmbnibamhgfmaaDoor

/- Arguments of any shape, opened by their cells: integers, bools, strings, structs, arrays, slices of whatever. -/
namespace Go.Proofs.YtbmbnibamhgfmaaDoor
open Go.ChangeShapes Go.WideShapes Go.ChangeAt Go.RowKit

section
variable {H : Type} {enc : TypeId × Value → H} {P : Program} {W : World}

/-- The cells read as a value of type t, and no part of it outgrows the form's reach. -/
def Cl (enc : TypeId × Value → H) (P : Program) (W : World) (t : TypeId) (cs : List Value) : Prop :=
  ∃ d fuel ps, DataW.trod enc P W 0 (fun _ => true) true fuel t cs = some (d, ps) ∧ ∀ n ∈ d.weights P t, n ≤ reachBytes

theorem Arg.cl {t : TypeId} {v : Value} {d : DataW H} (h : Arg enc P W t v d) : Cl enc P W t v.cells.toList := by
  obtain ⟨_, ⟨p, fuel, ht⟩, hw⟩ := h
  exact ⟨d, fuel, p, ht, hw⟩

theorem Cl.int {t : TypeId} {k : IntKind} {cs : List Value} (hu : P.underlying t = some (.int k)) (h : Cl enc P W t cs) : ∃ n, cs = [.int k n] ∧ (Lit.int k n).wf = true := by
  obtain ⟨d, fuel, ps, ht, _⟩ := h
  obtain ⟨n, e, _, hw⟩ := DataW.trod_int hu ht
  exact ⟨n, e, hw⟩
theorem Cl.i64 {t : TypeId} {cs : List Value} (hu : P.underlying t = some (.int .i64)) (h : Cl enc P W t cs) : ∃ n, cs = [.int .i64 n] ∧ -9223372036854775808 ≤ n ∧ n ≤ 9223372036854775807 := by
  obtain ⟨n, e, hw⟩ := h.int hu; exact ⟨n, e, bounds_i64 hw⟩
theorem Cl.u64 {t : TypeId} {cs : List Value} (hu : P.underlying t = some (.int .u64)) (h : Cl enc P W t cs) : ∃ n, cs = [.int .u64 n] ∧ 0 ≤ n ∧ n ≤ 18446744073709551615 := by
  obtain ⟨n, e, hw⟩ := h.int hu; exact ⟨n, e, bounds_u64 hw⟩
theorem Cl.bool {t : TypeId} {cs : List Value} (hu : P.underlying t = some .bool) (h : Cl enc P W t cs) : ∃ b, cs = [.bool b] := by
  obtain ⟨d, fuel, ps, ht, _⟩ := h
  obtain ⟨b, e, _⟩ := DataW.trod_bool hu ht
  exact ⟨b, e⟩
theorem Cl.string {t : TypeId} {cs : List Value} (hu : P.underlying t = some .string) (h : Cl enc P W t cs) : ∃ s : ByteArray, cs = [.string s] ∧ s.size ≤ 140737488351232 := by
  obtain ⟨d, fuel, ps, ht, hw⟩ := h
  obtain ⟨s, e, hx, hs⟩ := DataW.trod_string hu ht
  simp only [Prod.mk.injEq] at hx
  obtain ⟨rfl, _⟩ := hx
  refine ⟨s, e, ?_⟩
  have := hw s.data.toList.length (by simp [DataW.weights])
  simpa [reachBytes] using this

theorem weightsAll_mem {e : TypeId} {ds : List (DataW H)} {d : DataW H} (hd : d ∈ ds) {n : Nat} (hn : n ∈ d.weights P e) : n ∈ DataW.weightsAll P e ds := by
  induction ds with
  | nil => cases hd
  | cons x r ih =>
    simp only [DataW.weightsAll, List.mem_append]
    rcases List.mem_cons.1 hd with rfl | h
    · exact .inl hn
    · exact .inr (ih h)

/-- A slice: its elements by their index, each by its cells. -/
theorem Cl.slice {t e : TypeId} {cs : List Value} (hu : P.underlying t = some (.slice e)) (hpos : 0 < P.cellsOf e) (h : Cl enc P W t cs) :
    ∃ A len cap, cs = [.slice A len cap] ∧ len ≤ cap ∧ cap ≤ maxLen ∧ cap * P.bytesOf e ≤ 140737488351232 ∧
      (0 < len → ∃ b off, A = some ⟨b, off, none⟩ ∧ b < W.heap.size ∧ ∀ i, i < len → ∃ c, c.length = P.cellsOf e ∧ (∀ j, j < P.cellsOf e → W.cell? ⟨b, off + i * P.cellsOf e + j, none⟩ = c[j]?) ∧ Cl enc P W e c) := by
  obtain ⟨d, fuel, ps, ht, hw⟩ := h
  rcases Go.Deep.open_slice hu ht with ⟨rfl, _⟩ | ⟨a, len, cap, m, n, D, Pl, rfl, _, hl, hm, hmm, hx, hel⟩
  · exact ⟨none, 0, 0, rfl, Nat.le_refl _, by unfold maxLen; omega, by omega, fun h => absurd h (by omega)⟩
  · simp only [if_true] at hmm
    subst hmm
    simp only [Prod.mk.injEq] at hx
    obtain ⟨rfl, _⟩ := hx
    simp only [DataW.weights, hu, List.mem_cons, List.mem_append] at hw
    refine ⟨some a, len, m, rfl, hl, hm, ?_, fun hp => ?_⟩
    · have := hw ((len + (m - len)) * P.bytesOf e) (.inl (by simp))
      rw [show len + (m - len) = m by omega] at this
      simpa [reachBytes] using this
    · obtain ⟨b, off, spot⟩ := a
      obtain ⟨c0, hc0, _⟩ := hel 0 (by omega)
      obtain ⟨_, hlen0, hcell0⟩ := World.cells?_some hc0
      have h00 := hcell0 0 hpos
      have hlt : c0[0]? = some c0[0] := List.getElem?_eq_getElem (by omega)
      rw [hlt] at h00
      have hspot : spot = none := by simpa [Addr.add] using World.cell?_spot h00
      subst hspot
      refine ⟨b, off, rfl, by simpa [Addr.add] using World.block_lt_of_cell? W _ h00, fun i hi => ?_⟩
      obtain ⟨c, hc, htr⟩ := hel i (by omega)
      obtain ⟨_, hlen, hcell⟩ := World.cells?_some hc
      refine ⟨c, hlen, fun j hj => ?_, D i, n, Pl i, htr, fun x hx => ?_⟩
      · have := hcell j hj
        rw [Go.Deep.add_add] at this
        rw [← this]
        simp only [Addr.add]
        split <;> simp_all [Nat.add_assoc]
      · exact hw x (.inr (.inl (weightsAll_mem (List.mem_map.2 ⟨i, by simpa using hi, rfl⟩) hx)))

/-- An argument that is a slice. -/
theorem Arg.slice {t e : TypeId} {v : Value} {d : DataW H} (hu : P.underlying t = some (.slice e)) (hpos : 0 < P.cellsOf e) (h : Arg enc P W t v d) :
    ∃ A len cap, v = .slice A len cap ∧ len ≤ cap ∧ cap ≤ maxLen ∧ cap * P.bytesOf e ≤ 140737488351232 ∧
      (0 < len → ∃ b off, A = some ⟨b, off, none⟩ ∧ b < W.heap.size ∧ ∀ i, i < len → ∃ c, c.length = P.cellsOf e ∧ (∀ j, j < P.cellsOf e → W.cell? ⟨b, off + i * P.cellsOf e + j, none⟩ = c[j]?) ∧ Cl enc P W e c) := by
  obtain ⟨A, len, cap, e, rest⟩ := h.cl.slice hu hpos
  obtain ⟨⟨base, hv⟩, _, _⟩ := h
  obtain ⟨A', len', cap', rfl⟩ := okWide_slice hu hv
  simp [Value.cells] at e
  obtain ⟨rfl, rfl, rfl⟩ := e
  exact ⟨A', len', cap', rfl, rest⟩

theorem weightsEach_mem {ts : List TypeId} {ds : List (DataW H)} {i : Nat} {t : TypeId} {d : DataW H} (h1 : ts[i]? = some t) (h2 : ds[i]? = some d) {n : Nat} (hn : n ∈ d.weights P t) : n ∈ DataW.weightsEach P ts ds := by
  have := DataW.weights_mem_each h1 h2 n hn
  exact this

/-- A struct: its fields. -/
theorem Cl.struct {t : TypeId} {fs : Array Field} {cs : List Value} (hu : P.underlying t = some (.struct fs)) (h : Cl enc P W t cs) :
    cs.length = P.cellsOf t ∧ ∀ (i : Nat) (f : Field), fs[i]? = some f → Cl enc P W f.type ((cs.drop f.offset).take (P.cellsOf f.type)) := by
  obtain ⟨d, fuel, ps, ht, hw⟩ := h
  obtain ⟨xs, n, _, hx, hl, hxl, hf⟩ := DataW.trod_struct hu ht
  simp only [Prod.mk.injEq] at hx
  obtain ⟨rfl, _⟩ := hx
  refine ⟨hl, fun i f hfi => ?_⟩
  have hi : i < fs.size := (Array.getElem?_eq_some_iff.1 hfi).1
  have hxi : xs[i]? = some xs[i] := List.getElem?_eq_getElem (by omega)
  have := hf i f hfi
  rw [hxi] at this
  refine ⟨(xs[i]'(by omega)).1, n, (xs[i]'(by omega)).2, this, fun x hx => hw x ?_⟩
  simp only [DataW.weights, hu]
  exact weightsEach_mem (i := i) (t := f.type) (by simp [hfi]) (by simp [hxi]) hx

theorem Cl.field {t : TypeId} {fs : Array Field} {cs : List Value} (hu : P.underlying t = some (.struct fs)) (h : Cl enc P W t cs) (i : Nat) (u : TypeId) (off n : Nat) (hi : (fs[i]?).map (fun f => (f.type, f.offset)) = some (u, off)) (hn : P.cellsOf u = n) :
    Cl enc P W u ((cs.drop off).take n) := by
  obtain ⟨f, hf, e⟩ := Option.map_eq_some_iff.1 hi
  simp only [Prod.mk.injEq] at e
  obtain ⟨rfl, rfl⟩ := e
  subst hn
  exact (h.struct hu).2 i f hf

/-- An array: its elements. -/
theorem Cl.array {t e : TypeId} {n : Nat} {cs : List Value} (hu : P.underlying t = some (.array n e)) (h : Cl enc P W t cs) :
    cs.length = P.cellsOf t ∧ ∀ i, i < n → Cl enc P W e ((cs.drop (i * P.cellsOf e)).take (P.cellsOf e)) := by
  obtain ⟨d, fuel, ps, ht, hw⟩ := h
  obtain ⟨xs, m, _, hx, hl, hxl, hf⟩ := DataW.trod_array hu ht
  simp only [Prod.mk.injEq] at hx
  obtain ⟨rfl, _⟩ := hx
  refine ⟨hl, fun i hi => ?_⟩
  have hxi : xs[i]? = some xs[i] := List.getElem?_eq_getElem (by omega)
  have := hf i hi
  rw [hxi] at this
  refine ⟨(xs[i]'(by omega)).1, m, (xs[i]'(by omega)).2, this, fun x hx => hw x ?_⟩
  simp only [DataW.weights, hu]
  exact weightsAll_mem (List.mem_map.2 ⟨xs[i], List.getElem_mem _, rfl⟩) hx

/-- A slice of integers. -/
theorem Cl.ints {t e : TypeId} {k : IntKind} {cs : List Value} (hu : P.underlying t = some (.slice e)) (he : P.underlying e = some (.int k)) (hc : P.cellsOf e = 1) (h : Cl enc P W t cs) :
    ∃ A len cap zs, cs = [.slice A len cap] ∧ len ≤ cap ∧ cap ≤ maxLen ∧ cap * P.bytesOf e ≤ 140737488351232 ∧ RdI k W W.heap.size A len zs ∧ ∀ z ∈ zs, (Lit.int k z).wf = true := by
  obtain ⟨A, len, cap, rfl, hl, hm, hb, hel⟩ := h.slice hu (by omega)
  rcases Nat.eq_zero_or_pos len with h0 | hp
  · subst h0
    exact ⟨A, 0, cap, [], rfl, hl, hm, hb, RdI.nil _ _ _ _, by simp⟩
  · obtain ⟨b, off, rfl, hblt, hel⟩ := hel hp
    have key : ∀ i, i < len → ∃ z : Int, W.cell? ⟨b, off + i, none⟩ = some (.int k z) ∧ (Lit.int k z).wf = true := by
      intro i hi
      obtain ⟨c, hcl, hcell, hcc⟩ := hel i hi
      obtain ⟨z, rfl, hz⟩ := hcc.int he
      refine ⟨z, ?_, hz⟩
      have := hcell 0 (by omega)
      simpa [hc] using this
    obtain ⟨f, hf⟩ := Go.Deep.choose_lt (α := Int) key
    refine ⟨_, len, cap, (List.range len).map f, rfl, hl, hm, hb, ⟨by simp, fun _ => ⟨b, off, rfl, hblt, fun i hi => ?_⟩⟩, fun z hz => ?_⟩
    · rw [(hf i hi).1]; simp [at_, List.getD, hi]
    · obtain ⟨i, hi, rfl⟩ := List.mem_map.1 hz
      exact (hf i (by simpa using hi)).2
end
end Go.Proofs.YtbmbnibamhgfmaaDoor
