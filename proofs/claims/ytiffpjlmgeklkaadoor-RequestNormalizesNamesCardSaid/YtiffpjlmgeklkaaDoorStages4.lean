/- A region that draws its order, where at times two effects may come up: both orders are walked (a tree of stages). -/
import Derived.Test.YtiffpjlmgeklkaaDoorStages3
namespace Go.Proofs.YtiffpjlmgeklkaaDoor
open Go.RowKit

inductive STree where
  | last (seg : List Nat)
  | one (seg : List Nat) (e : Nat) (fl : List Nat) (t : STree)
  | two (seg : List Nat) (e1 : Nat) (fl1 : List Nat) (t1 : STree) (e2 : Nat) (fl2 : List Nat) (t2 : STree)

def STree.len : STree → Nat
  | .last seg => seg.length + 0
  | .one seg _ _ t => seg.length + (t.len + 1)
  | .two seg _ _ t1 _ _ _ => seg.length + (t1.len + 1)

section
variable {P : Program} {l : List Oper}

/-- The effect e, and what stands behind it. -/
def EffT (P : Program) (l : List Oper) (K : Act → World → Prop) (e : Nat) (fl : List Nat) (w : World) (a : Act) : Prop :=
  ∀ n, wpList P l.toArray (stagePost P l fl K) (pick l [e]) a (w.drewN n)

def wpTree (P : Program) (l : List Oper) (Q : Exit → Act → World → Prop) : STree → World → Act → Prop
  | .last seg, w, a => wpQuiet P l.toArray (fun w' => ∃ n, w' = w.drewN n) (LastThen Q w) (pick l seg) a
  | .one seg e fl t, w, a => wpQuiet P l.toArray (fun w' => ∃ n, w' = w.drewN n) (EffT P l (fun a' w' => wpTree P l Q t w' a') e fl w) (pick l seg) a
  | .two seg e1 fl1 t1 e2 fl2 t2, w, a => wpQuiet P l.toArray (fun w' => ∃ n, w' = w.drewN n) (fun a' => EffT P l (fun a' w' => wpTree P l Q t1 w' a') e1 fl1 w a' ∧ EffT P l (fun a' w' => wpTree P l Q t2 w' a') e2 fl2 w a') (pick l seg) a

theorem wpTree_one {Q : Exit → Act → World → Prop} {seg fl : List Nat} {e : Nat} {t : STree} {w : World} {a : Act} (h : wpQuiet P l.toArray (fun w' => ∃ n, w' = w.drewN n) (EffT P l (fun a' w' => wpTree P l Q t w' a') e fl w) (pick l seg) a) : wpTree P l Q (.one seg e fl t) w a := h
theorem wpTree_two {Q : Exit → Act → World → Prop} {seg fl1 fl2 : List Nat} {e1 e2 : Nat} {t1 t2 : STree} {w : World} {a : Act}
    (h : wpQuiet P l.toArray (fun w' => ∃ n, w' = w.drewN n) (fun a' => EffT P l (fun a' w' => wpTree P l Q t1 w' a') e1 fl1 w a' ∧ EffT P l (fun a' w' => wpTree P l Q t2 w' a') e2 fl2 w a') (pick l seg) a) : wpTree P l Q (.two seg e1 fl1 t1 e2 fl2 t2) w a := h
theorem wpTree_last {Q : Exit → Act → World → Prop} {seg : List Nat} {w : World} {a : Act} (h : wpQuiet P l.toArray (fun w' => ∃ n, w' = w.drewN n) (LastThen Q w) (pick l seg) a) : wpTree P l Q (.last seg) w a := h

def quietOk (rows : List MRow) (eff : List (Nat × List Nat)) (i L : Nat) : Bool :=
  match rows[i]? with
  | none => false
  | some r => (eff.lookup i).isNone && (!hasBit L i && (isIn r.aft L && (allIx (fun j s => Nat.beq j i || (hasBit L j || (hasBit s.aft i || (isOff r.dst s.look && (isOff r.dst s.dst && isOff s.dst r.look))))) 0 rows && dOk rows eff i L (notBehind i 0 rows 0))))
def segOk (rows : List MRow) (eff : List (Nat × List Nat)) : List Nat → Nat → Bool
  | [], _ => true
  | i :: seg, L => quietOk rows eff i L && segOk rows eff seg (Nat.lor L (Nat.shiftLeft 1 i))
def segMask : List Nat → Nat → Nat
  | [], L => L
  | i :: seg, L => segMask seg (Nat.lor L (Nat.shiftLeft 1 i))
def effOk (rows : List MRow) (eff : List (Nat × List Nat)) (e : Nat) (fl : List Nat) (L : Nat) : Bool :=
  match rows[e]?, eff.lookup e with
  | some r, some fe => !hasBit L e && (isIn r.aft L && fe.all fun x => !hasBit L x || fl.contains x)
  | _, _ => false
def treeOk (rows : List MRow) (eff : List (Nat × List Nat)) : STree → Nat → Bool
  | .last seg, L => segOk rows eff seg L && allIx (fun j _ => hasBit (segMask seg L) j) 0 rows
  | .one seg e fl t, L => segOk rows eff seg L && (effOk rows eff e fl (segMask seg L) && (allIx (fun j s => Nat.beq j e || (hasBit (segMask seg L) j || !isIn s.aft (segMask seg L))) 0 rows && treeOk rows eff t (Nat.lor (segMask seg L) (Nat.shiftLeft 1 e))))
  | .two seg e1 fl1 t1 e2 fl2 t2, L => segOk rows eff seg L && (effOk rows eff e1 fl1 (segMask seg L) && (effOk rows eff e2 fl2 (segMask seg L) && (Nat.beq t1.len t2.len &&
      (allIx (fun j s => Nat.beq j e1 || (Nat.beq j e2 || (hasBit (segMask seg L) j || !isIn s.aft (segMask seg L)))) 0 rows && (treeOk rows eff t1 (Nat.lor (segMask seg L) (Nat.shiftLeft 1 e1)) && treeOk rows eff t2 (Nat.lor (segMask seg L) (Nat.shiftLeft 1 e2)))))))

/-- What is known of the marks: their number, and the mask. -/
def Marks (l : List Oper) (listed : Array Bool) (L : Nat) : Prop := listed.size = l.length ∧ (∀ j, listed.getD j false = L.testBit j) ∧ Down l.toArray listed

theorem Marks.un {listed : Array Bool} {L : Nat} (h : Marks l listed L) {j : Nat} (hj : listed.getD j true = false) : L.testBit j = false := by
  have hlt : j < listed.size := by
    rcases Nat.lt_or_ge j listed.size with h' | h'
    · exact h'
    · simp [Array.getElem?_eq_none h'] at hj
  rw [← h.2.1]; simp [hlt] at hj ⊢; exact hj
theorem Marks.ready {rows : List MRow} (hrows : rows = l.map (rowOf l.toArray)) {listed : Array Bool} {L : Nat} (h : Marks l listed L) {i : Nat} {r : MRow} (hr : rows[i]? = some r) (h1 : hasBit L i = false) (h2 : isIn r.aft L = true) :
    ∃ o, l.toArray[i]? = some o ∧ r = rowOf l.toArray o ∧ i ∈ Region.ready .any l.toArray listed ∧ Marks l (listed.setIfInBounds i true) (Nat.lor L (Nat.shiftLeft 1 i)) := by
  obtain ⟨hsz, hL, hdown⟩ := h
  obtain ⟨oi, hoi, rfl⟩ : ∃ oi, l.toArray[i]? = some oi ∧ r = rowOf l.toArray oi := by
    rw [hrows, List.getElem?_map] at hr
    cases ho : l[i]? with
    | none => rw [ho] at hr; cases hr
    | some o => rw [ho] at hr; exact ⟨o, by rw [List.getElem?_toArray]; exact ho, by simpa using hr.symm⟩
  have hilt : i < listed.size := by
    have := (Array.getElem?_eq_some_iff.1 hoi).1
    simp only [List.size_toArray] at this
    omega
  have hr' : i ∈ Region.ready .any l.toArray listed := by
    refine mem_ready.2 ⟨?_, oi, hoi, fun e he hb => ?_⟩
    · have : listed.getD i true = L.testBit i := by rw [← hL]; simp [hilt]
      rw [this, ← hasBit_spec]; exact h1
    · rw [hL]
      exact isIn_spec h2 (aft_bit.2 ⟨e, he, hb, rfl⟩)
  refine ⟨oi, hoi, rfl, hr', by simpa using hsz, fun j => ?_, ?_⟩
  · rw [lor_bit, bit_one]
    by_cases hij : j = i
    · subst hij; simp [hilt]
    · rw [getD_set_ne false (Ne.symm hij), hL]; simp [hij]
  · obtain ⟨_, oi', hoi', hall⟩ := mem_ready.1 hr'
    intro r o ho hl e he hb
    by_cases hir : i = r
    · subst hir
      have : o = oi' := Option.some.inj (ho.symm.trans hoi')
      subst this
      exact getD_set_true (hall e he hb)
    · rw [getD_set_ne false hir] at hl
      exact getD_set_true (hdown r o ho hl e he hb)

theorem M_seg {rows : List MRow} (hrows : rows = l.map (rowOf l.toArray)) {eff : List (Nat × List Nat)} {Q : Exit → Act → World → Prop} (hs : Region.noSelect l.toArray = true) (hfl : ∀ j fl, (j, fl) ∈ eff → ∀ r ∈ fl, flOkE l.toArray j r = true) (fuel : Nat) (w : World) (K : Act → Prop) (Lz : Nat)
    (hK : ∀ listed a, Marks l listed Lz → K a → wpAnyM P l.toArray eff Q fuel listed a w) :
    ∀ (seg : List Nat) (listed : Array Bool) (L : Nat) (a : Act), Marks l listed L → segOk rows eff seg L = true → segMask seg L = Lz → wpQuiet P l.toArray (fun w' => ∃ n, w' = w.drewN n) K (pick l seg) a → wpAnyM P l.toArray eff Q (seg.length + fuel) listed a w
  | [], listed, L, a, hM, _, hz, h => by
    rw [List.length_nil, Nat.zero_add]
    exact hK listed a (hz ▸ hM) h
  | i :: seg, listed, L, a, hM, hB, hz, h => by
    unfold segOk at hB
    rw [Bool.and_eq_true] at hB
    obtain ⟨hq, hR⟩ := hB
    unfold quietOk at hq
    cases hri : rows[i]? with
    | none => rw [hri] at hq; cases hq
    | some ri =>
    rw [hri] at hq
    dsimp only at hq
    simp only [Bool.and_eq_true] at hq
    obtain ⟨hne, hBi, hBa, hf, hN⟩ := hq
    have hne' : eff.lookup i = none := by simpa using hne
    obtain ⟨oi, hoi, rfl, hr', hM'⟩ := Marks.ready hrows hM hri (by simpa using hBi) hBa
    have hlt' : i < l.length := by
      have := (Array.getElem?_eq_some_iff.1 hoi).1
      simpa using this
    have hoe : oi = l[i] := by
      rw [List.getElem?_toArray, List.getElem?_eq_getElem hlt'] at hoi
      exact (Option.some.inj hoi).symm
    have hp : pick l (i :: seg) = oi :: pick l seg := by rw [hoe]; simp [pick, hlt', List.getD]
    rw [hp] at h
    have hqo : qOp P l.toArray (fun w' => ∃ n, w' = w.drewN n) i (wpQuiet P l.toArray (fun w' => ∃ n, w' = w.drewN n) K (pick l seg)) a := by
      unfold qOp
      rw [hoi]
      exact h
    obtain ⟨v, hy, hKv⟩ := yieldsIn_of_qOp hoi hqo
    have ih := M_seg hrows hs hfl fuel w K Lz hK seg (listed.setIfInBounds i true) _ _ hM' hR hz hKv
    unfold dOk at hN
    simp only [Bool.and_eq_true] at hN
    obtain ⟨n1, n2, n3, n4⟩ := hN
    rw [show (i :: seg).length + fuel = (seg.length + fuel) + 1 by simp; omega]
    refine M_firstE hoi hne' (Region.noSelect_spec hs) hfl (fun j => (notBehind i 0 rows 0).testBit j) (by simpa [hasBit_spec] using n1) ?_ _ listed a w v ?_ ?_ ?_ hM.2.2 hr' hy ih
    · intro j oj hj hd hji
      have h2 := allIx_spec n2 j _ (rows_get hrows hj)
      rw [Nat.zero_add] at h2
      have hd' : (notBehind i 0 rows 0).testBit j = false := hd
      simp only [Bool.or_eq_true, hasBit_spec, hd', Bool.false_eq_true, false_or, Bool.not_eq_true'] at h2
      rcases h2 with h2 | h2
      · exact absurd (Nat.eq_of_beq_eq_true h2) hji
      · obtain ⟨k, hk1, hk2⟩ := isIn_not h2
        obtain ⟨e, he', hb, rfl⟩ := aft_bit.1 hk1
        exact ⟨e, he', hb, hk2⟩
    · intro j oj hj hji hu hno
      have h2 := allIx_spec hf j _ (rows_get hrows hj)
      rw [Nat.zero_add] at h2
      simp only [Bool.or_eq_true, Bool.and_eq_true, hasBit_spec, hM.un hu, Bool.false_eq_true, false_or] at h2
      rcases h2 with h2 | h2 | h2
      · exact absurd (Nat.eq_of_beq_eq_true h2) hji
      · obtain ⟨e, he', hb, he2⟩ := aft_bit.1 h2
        exact absurd he2 (hno e he' hb)
      · exact apart_of h2.1 h2.2.1 h2.2.2
    · intro j fl hj hd hu
      have h2 := List.all_eq_true.1 n3 (j, fl) hj
      have hd' : (notBehind i 0 rows 0).testBit j = true := hd
      simp only [hasBit_spec, hd', hM.un hu, Bool.not_true, Bool.false_or] at h2
      simpa using h2
    · intro j hj
      rw [hM.2.1] at hj
      exact isIn_spec n4 hj

/-- One effect, asked by the model. -/
theorem eff_step {eff : List (Nat × List Nat)} {Q : Exit → Act → World → Prop} {rows : List MRow} (hrows : rows = l.map (rowOf l.toArray)) {fuel e L : Nat} {fl fe : List Nat} {listed : Array Bool} {a : Act} {w : World} {K : Act → World → Prop} (hM : Marks l listed L) {r : MRow} (hr : rows[e]? = some r) (_ : eff.lookup e = some fe)
    (h1 : hasBit L e = false) (h2 : isIn r.aft L = true) (h3 : (fe.all fun x => !hasBit L x || fl.contains x) = true) (h : EffT P l K e fl w a)
    (hK : ∀ a' w' listed', Marks l listed' (Nat.lor L (Nat.shiftLeft 1 e)) → K a' w' → wpAnyM P l.toArray eff Q fuel listed' a' w') :
    e ∈ Region.ready .any l.toArray listed ∧ ∀ n, wpOp P l.toArray NoExit e (fun a' w' => FLoat P l.toArray fe listed a' w' ∧ wpAnyM P l.toArray eff Q fuel (listed.setIfInBounds e true) a' w') a (w.drewN n) := by
  obtain ⟨oe, hoe, rfl, hr', hM'⟩ := Marks.ready hrows hM hr h1 h2
  refine ⟨hr', fun n => ?_⟩
  have hh' := h n
  have h2' : e < l.length := by
    have := (Array.getElem?_eq_some_iff.1 hoe).1
    simpa using this
  have ho : l.toArray[e]? = some l[e] := by simp [h2']
  have hp : pick l [e] = [l[e]] := by simp [pick, h2', List.getD]
  rw [hp] at hh'
  have key : ∀ (a' : Act) (w' : World), wpList P l.toArray (stagePost P l fl K) [] a' w' →
      FLoat P l.toArray fe listed a' w' ∧ wpAnyM P l.toArray eff Q fuel (listed.setIfInBounds e true) a' w' := by
    intro a' w' hk
    obtain ⟨k1, k2⟩ : (∀ o ∈ pick l fl, ∃ v, YieldsIn P l.toArray (fun w'' => ∃ n, w'' = w'.drewN n) o v a' ∧ Holds a' o.dst v) ∧ K a' w' := hk
    refine ⟨fun r hrm hrl o ho => k1 o (List.mem_map.2 ⟨r, ?_, by simp only [List.getElem?_toArray] at ho; simp [List.getD, ho]⟩), hK a' w' _ hM' k2⟩
    have h4 := List.all_eq_true.1 h3 r hrm
    rw [hM.2.1] at hrl
    simp only [hasBit_spec, hrl, Bool.not_true, Bool.false_or] at h4
    simpa using h4
  unfold wpOp
  rw [ho]
  simp only
  unfold wpList at hh'
  split
  · rename_i hw
    rw [if_pos hw] at hh'
    rcases hh' with hh' | ⟨_, x, y, hz⟩
    · refine .inl (Oper.wp_mono key ?_)
      revert hh'
      unfold Oper.wp
      generalize (execOp a.eval l[e]).run P (w.drewN n) = r
      intro hh'
      cases r with
      | ok k w' =>
        cases k <;> simp only [Oper.upon] at hh' ⊢ <;> exact hh'
      | halt x w' =>
        cases x <;> simp only [Oper.upon] at hh' ⊢
        case panic u => exact hh'.elim
    · exact hz.elim
  · rename_i hw
    rw [if_neg hw] at hh'
    exact key _ _ hh'

theorem effOk_spec {rows : List MRow} {eff : List (Nat × List Nat)} {e L : Nat} {fl : List Nat} (h : effOk rows eff e fl L = true) :
    ∃ r fe, rows[e]? = some r ∧ eff.lookup e = some fe ∧ hasBit L e = false ∧ isIn r.aft L = true ∧ (fe.all fun x => !hasBit L x || fl.contains x) = true := by
  unfold effOk at h
  cases hr : rows[e]? with
  | none => rw [hr] at h; cases h
  | some r =>
    cases hf : eff.lookup e with
    | none => rw [hr, hf] at h; cases h
    | some fe =>
      rw [hr, hf] at h
      simp only [Bool.and_eq_true] at h
      exact ⟨r, fe, rfl, rfl, by simpa using h.1, h.2.1, h.2.2⟩

theorem M_of_tree {rows : List MRow} (hrows : rows = l.map (rowOf l.toArray)) {eff : List (Nat × List Nat)} {Q : Exit → Act → World → Prop} (hs : Region.noSelect l.toArray = true) (hfl : ∀ j fl, (j, fl) ∈ eff → ∀ r ∈ fl, flOkE l.toArray j r = true) :
    ∀ (t : STree) (listed : Array Bool) (L : Nat) (a : Act) (w : World), Marks l listed L → treeOk rows eff t L = true → wpTree P l Q t w a → wpAnyM P l.toArray eff Q t.len listed a w
  | .last seg, listed, L, a, w, hM, hB, h => by
    unfold treeOk at hB
    rw [Bool.and_eq_true] at hB
    refine M_seg hrows hs hfl 0 w (LastThen Q w) _ (fun listed' a' hM' hh => ⟨?_, hh⟩) seg listed L a hM hB.1 rfl h
    apply List.eq_nil_iff_forall_not_mem.2
    intro j hj
    obtain ⟨h1, o, ho, _⟩ := mem_ready.1 hj
    have h2 := allIx_spec hB.2 j _ (rows_get hrows ho)
    rw [Nat.zero_add, hasBit_spec, hM'.un h1] at h2
    cases h2
  | .one seg e fl t, listed, L, a, w, hM, hB, h => by
    unfold treeOk at hB
    simp only [Bool.and_eq_true] at hB
    obtain ⟨hB1, hB2, hB3, hB4⟩ := hB
    obtain ⟨r, fe, hr, hfe, e1, e2, e3⟩ := effOk_spec hB2
    refine M_seg hrows hs hfl (t.len + 1) w _ _ (fun listed' a' hM' hh => ?_) seg listed L a hM hB1 rfl h
    obtain ⟨hrd, hw⟩ := eff_step (Q := Q) (fuel := t.len) hrows hM' hr hfe e1 e2 e3 hh (fun a'' w'' l'' hm hk => M_of_tree hrows hs hfl t l'' _ a'' w'' hm hB4 hk)
    refine ⟨fun h0 => (by rw [h0] at hrd; cases hrd), fun j hj => ?_⟩
    obtain rfl : j = e := by
      obtain ⟨h1, o, ho, hall⟩ := mem_ready.1 hj
      have h2 := allIx_spec hB3 j _ (rows_get hrows ho)
      rw [Nat.zero_add] at h2
      simp only [Bool.or_eq_true, hasBit_spec, hM'.un h1, Bool.false_eq_true, false_or, Bool.not_eq_true'] at h2
      rcases h2 with h2 | h2
      · exact Nat.eq_of_beq_eq_true h2
      · obtain ⟨k, hk1, hk2⟩ := isIn_not h2
        obtain ⟨e', he', hb, rfl⟩ := aft_bit.1 hk1
        have := hall e' he' hb
        rw [hM'.2.1, hk2] at this
        cases this
    rw [hfe]
    exact hw
  | .two seg e1 fl1 t1 e2 fl2 t2, listed, L, a, w, hM, hB, h => by
    unfold treeOk at hB
    simp only [Bool.and_eq_true] at hB
    obtain ⟨hB1, hB2, hB2', hle, hB3, hB4, hB4'⟩ := hB
    obtain ⟨r, fe, hr, hfe, c1, c2, c3⟩ := effOk_spec hB2
    obtain ⟨r', fe', hr', hfe', d1, d2, d3⟩ := effOk_spec hB2'
    have hlen : t1.len = t2.len := Nat.eq_of_beq_eq_true hle
    refine M_seg hrows hs hfl (t1.len + 1) w _ _ (fun listed' a' hM' hh => ?_) seg listed L a hM hB1 rfl h
    obtain ⟨hrd, hw⟩ := eff_step (Q := Q) (fuel := t1.len) hrows hM' hr hfe c1 c2 c3 hh.1 (fun a'' w'' l'' hm hk => M_of_tree hrows hs hfl t1 l'' _ a'' w'' hm hB4 hk)
    obtain ⟨_, hw'⟩ := eff_step (Q := Q) (fuel := t1.len) hrows hM' hr' hfe' d1 d2 d3 hh.2 (fun a'' w'' l'' hm hk => by rw [hlen]; exact M_of_tree hrows hs hfl t2 l'' _ a'' w'' hm hB4' hk)
    refine ⟨fun h0 => (by rw [h0] at hrd; cases hrd), fun j hj => ?_⟩
    have hj2 : j = e1 ∨ j = e2 := by
      obtain ⟨h1, o, ho, hall⟩ := mem_ready.1 hj
      have h2 := allIx_spec hB3 j _ (rows_get hrows ho)
      rw [Nat.zero_add] at h2
      simp only [Bool.or_eq_true, hasBit_spec, hM'.un h1, Bool.false_eq_true, false_or, Bool.not_eq_true'] at h2
      rcases h2 with h2 | h2 | h2
      · exact .inl (Nat.eq_of_beq_eq_true h2)
      · exact .inr (Nat.eq_of_beq_eq_true h2)
      · obtain ⟨k, hk1, hk2⟩ := isIn_not h2
        obtain ⟨e', he', hb, rfl⟩ := aft_bit.1 hk1
        have := hall e' he' hb
        rw [hM'.2.1, hk2] at this
        cases this
    rcases hj2 with rfl | rfl
    · rw [hfe]; exact hw
    · rw [hfe']; exact hw'

def treeAll (l : List Oper) (rows : List MRow) (eff : List (Nat × List Nat)) (t : STree) : Bool :=
  Region.noSelect l.toArray && (rowsEq l.toArray l rows && ((eff.all fun x => x.2.all (flOkM rows x.1)) && (Nat.beq t.len l.length && treeOk rows eff t 0)))

/-- **A region that draws its order, by a tree of stages.** -/
theorem wp_region_tree {id : Nat} {Q : Exit → Act → World → Prop} {a : Act} {w : World} (rows : List MRow) (eff : List (Nat × List Nat)) (t : STree) (hm : P.follows .mixedOrders = true) (hB : treeAll l rows eff t = true)
    (h : wpTree P l Q t w a) : (Code.region id l.toArray true).wp P Q a w := by
  unfold treeAll at hB
  rw [Bool.and_eq_true, Bool.and_eq_true, Bool.and_eq_true, Bool.and_eq_true] at hB
  obtain ⟨b1, br, b2, b6, b7⟩ := hB
  have hrows := rowsEq_spec br
  have hM := M_of_tree (P := P) (Q := Q) hrows (eff := eff) b1 (fun j fl hj r hr => flOkM_spec hrows (List.all_eq_true.1 (List.all_eq_true.1 b2 (j, fl) hj) r hr)) t (Array.replicate l.length false) 0 a w
    ⟨by simp, fun j => by
      rw [Nat.zero_testBit]
      simp only [Array.getD_eq_getD_getElem?, Array.getElem?_replicate]
      split <;> rfl, fun r o _ hl => by
      exfalso
      simp [Array.getElem?_replicate] at hl
      split at hl <;> simp at hl⟩ b7 h
  rw [Nat.eq_of_beq_eq_true b6] at hM
  exact wp_region_any hm (wpAny_of_M _ _ a w (by simpa using hM) 1)
end
end Go.Proofs.YtiffpjlmgeklkaaDoor
