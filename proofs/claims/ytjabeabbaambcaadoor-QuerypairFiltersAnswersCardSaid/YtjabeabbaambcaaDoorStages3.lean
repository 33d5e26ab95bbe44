/- A region that draws its order, by stages, its order looked at by numbers: each operation's edges, the temporaries it looks at and the one it writes are bits of a number (fast where a region is long). -/
import Derived.Test.YtjabeabbaambcaaDoorStages2
namespace Go.Proofs.YtjabeabbaambcaaDoor
open Go.RowKit

def maskOf : List Nat → Nat
  | [] => 0
  | k :: l => Nat.lor (Nat.shiftLeft 1 k) (maskOf l)
theorem bit_one (k j : Nat) : (Nat.shiftLeft 1 k).testBit j = decide (j = k) := by
  show (1 <<< k).testBit j = _
  rw [Nat.one_shiftLeft, Nat.testBit_two_pow]
  by_cases h : j = k
  · subst h; simp
  · simp [h, Ne.symm h]
theorem lor_bit (a b j : Nat) : (Nat.lor a b).testBit j = (a.testBit j || b.testBit j) := Nat.testBit_or ..
theorem land_bit (a b j : Nat) : (Nat.land a b).testBit j = (a.testBit j && b.testBit j) := Nat.testBit_and ..
theorem maskOf_bit (l : List Nat) (j : Nat) : (maskOf l).testBit j = decide (j ∈ l) := by
  induction l with
  | nil => simp [maskOf]
  | cons k l ih => simp only [maskOf, lor_bit, bit_one, ih, List.mem_cons, Bool.decide_or]

def isIn (a b : Nat) : Bool := Nat.beq (Nat.land a b) a
def isOff (a b : Nat) : Bool := Nat.beq (Nat.land a b) 0
def hasBit (a k : Nat) : Bool := !isOff a (Nat.shiftLeft 1 k)
theorem isIn_spec {a b : Nat} (h : isIn a b = true) {k : Nat} (hk : a.testBit k = true) : b.testBit k = true := by
  have := Nat.eq_of_beq_eq_true h
  have h2 := land_bit a b k
  rw [this, hk] at h2
  simpa using h2.symm
theorem isIn_not {a b : Nat} (h : isIn a b = false) : ∃ k, a.testBit k = true ∧ b.testBit k = false := by
  by_cases hc : ∃ k, a.testBit k = true ∧ b.testBit k = false
  · exact hc
  · exfalso
    have : Nat.land a b = a := by
      apply Nat.eq_of_testBit_eq
      intro i
      rw [land_bit]
      cases ha : a.testBit i with
      | false => rfl
      | true =>
        cases hb : b.testBit i with
        | true => rfl
        | false => exact absurd ⟨i, ha, hb⟩ hc
    unfold isIn at h
    rw [this, Nat.beq_refl] at h
    cases h
theorem isOff_spec {a b : Nat} (h : isOff a b = true) {k : Nat} (hk : a.testBit k = true) : b.testBit k = false := by
  have := Nat.eq_of_beq_eq_true h
  have h2 := land_bit a b k
  rw [this, hk] at h2
  simpa using h2.symm
theorem hasBit_spec (a k : Nat) : hasBit a k = a.testBit k := by
  unfold hasBit
  cases h : isOff a (Nat.shiftLeft 1 k) with
  | true =>
    cases ha : a.testBit k with
    | false => rfl
    | true =>
      have := isOff_spec h ha
      rw [bit_one] at this
      simp at this
  | false =>
    cases ha : a.testBit k with
    | true => rfl
    | false =>
      exfalso
      have : Nat.land a (Nat.shiftLeft 1 k) = 0 := by
        apply Nat.eq_of_testBit_eq
        intro i
        rw [land_bit, bit_one, Nat.zero_testBit]
        by_cases hi : i = k
        · subst hi; simp [ha]
        · simp [hi]
      unfold isOff at h
      rw [this] at h
      cases h

/-- An operation's edges, what it looks at, what it writes. -/
structure MRow where
  aft : Nat
  look : Nat
  dst : Nat
def aftOf (o : Oper) : Nat := maskOf ((o.after.toList.filter fun e => Region.binds .any e).map (·.on))
def rowOf (ops : Array Oper) (o : Oper) : MRow := ⟨aftOf o, maskOf (o.looksAt ops), maskOf o.dst.toList⟩
def rowsEq (ops : Array Oper) : List Oper → List MRow → Bool
  | [], [] => true
  | o :: l, r :: rs => Nat.beq (aftOf o) r.aft && (Nat.beq (maskOf (o.looksAt ops)) r.look && (Nat.beq (maskOf o.dst.toList) r.dst && rowsEq ops l rs))
  | _, _ => false
theorem rowsEq_spec {ops : Array Oper} : ∀ {l : List Oper} {rs : List MRow}, rowsEq ops l rs = true → rs = l.map (rowOf ops)
  | [], [], _ => rfl
  | o :: l, r :: rs, h => by
    unfold rowsEq at h
    simp only [Bool.and_eq_true] at h
    obtain ⟨h1, h2, h3, h4⟩ := h
    rw [rowsEq_spec h4]
    cases r
    simp only at h1 h2 h3
    rw [List.map_cons, rowOf, Nat.eq_of_beq_eq_true h1, Nat.eq_of_beq_eq_true h2, Nat.eq_of_beq_eq_true h3]
  | [], _ :: _, h => by cases h
  | _ :: _, [], h => by cases h

def allIx (f : Nat → MRow → Bool) : Nat → List MRow → Bool
  | _, [] => true
  | k, r :: rs => f k r && allIx f (Nat.succ k) rs
theorem allIx_spec {f : Nat → MRow → Bool} : ∀ {k : Nat} {rs : List MRow}, allIx f k rs = true → ∀ j r, rs[j]? = some r → f (k + j) r = true
  | _, [], _, j, r, h => by simp at h
  | k, s :: rs, h, j, r, hj => by
    unfold allIx at h
    rw [Bool.and_eq_true] at h
    cases j with
    | zero =>
      simp only [List.getElem?_cons_zero, Option.some.injEq] at hj
      subst hj; exact h.1
    | succ j =>
      rw [List.getElem?_cons_succ] at hj
      have := allIx_spec h.2 j r hj
      rwa [Nat.succ_add, ← Nat.add_succ] at this

theorem aft_bit {o : Oper} {j : Nat} : (aftOf o).testBit j = true ↔ ∃ e ∈ o.after, Region.binds .any e = true ∧ e.on = j := by
  unfold aftOf
  rw [maskOf_bit, decide_eq_true_eq, List.mem_map]
  constructor
  · rintro ⟨e, he, rfl⟩
    rw [List.mem_filter] at he
    exact ⟨e, Array.mem_toList_iff.1 he.1, he.2, rfl⟩
  · rintro ⟨e, he, hb, rfl⟩
    exact ⟨e, List.mem_filter.2 ⟨Array.mem_toList_iff.2 he, hb⟩, rfl⟩
theorem dst_bit {o : Oper} {j : Nat} : (maskOf o.dst.toList).testBit j = true ↔ o.dst = some j := by
  rw [maskOf_bit, decide_eq_true_eq, Option.mem_toList]

/-- The marks of what does not stand behind 'i'. -/
def notBehind (i : Nat) : Nat → List MRow → Nat → Nat
  | _, [], D => D
  | k, r :: rs, D => notBehind i (Nat.succ k) rs (match Nat.beq k i || !isIn r.aft D with | true => D | false => Nat.lor D (Nat.shiftLeft 1 k))

def dOk (rows : List MRow) (eff : List (Nat × List Nat)) (i L D : Nat) : Bool :=
  !hasBit D i && (allIx (fun j s => hasBit D j || (Nat.beq j i || !isIn s.aft D)) 0 rows && ((eff.all fun x => !hasBit D x.1 || (hasBit L x.1 || x.2.contains i)) && isIn L D))

def walkOk (rows : List MRow) (eff : List (Nat × List Nat)) : List Nat → Nat → Bool
  | [], L => allIx (fun j _ => hasBit L j) 0 rows
  | i :: rest, L => (match rows[i]? with
      | none => false
      | some r => !hasBit L i && (isIn r.aft L && (match eff.lookup i with
        | some _ => allIx (fun j s => Nat.beq j i || (hasBit L j || !isIn s.aft L)) 0 rows
        | none => allIx (fun j s => Nat.beq j i || (hasBit L j || (hasBit s.aft i || (isOff r.dst s.look && (isOff r.dst s.dst && isOff s.dst r.look))))) 0 rows && dOk rows eff i L (notBehind i 0 rows 0)))) &&
    walkOk rows eff rest (Nat.lor L (Nat.shiftLeft 1 i))

def flOkM (rows : List MRow) (j r : Nat) : Bool :=
  match rows[r]? with
  | none => false
  | some o => isOff o.dst o.look && allIx (fun x s => Nat.beq x r || (hasBit o.aft x || (hasBit s.aft j || (isOff s.dst o.look && isOff s.dst o.dst)))) 0 rows

section
variable {P : Program} {l : List Oper}

theorem look_bit {ops : Array Oper} {o : Oper} {d : Nat} : (maskOf (o.looksAt ops)).testBit d = true ↔ d ∈ o.looksAt ops := by
  rw [maskOf_bit, decide_eq_true_eq]

theorem rows_get {rows : List MRow} (hr : rows = l.map (rowOf l.toArray)) {j : Nat} {o : Oper} (ho : l.toArray[j]? = some o) : rows[j]? = some (rowOf l.toArray o) := by
  subst hr
  rw [List.getElem?_toArray] at ho
  rw [List.getElem?_map, ho]; rfl

theorem flOkM_spec {rows : List MRow} (hr : rows = l.map (rowOf l.toArray)) {j r : Nat} (h : flOkM rows j r = true) : flOkE l.toArray j r = true := by
  unfold flOkM at h
  cases hrr : rows[r]? with
  | none => rw [hrr] at h; cases h
  | some ro =>
    rw [hrr] at h
    dsimp only at h
    rw [Bool.and_eq_true] at h
    have hg := hrr
    rw [hr, List.getElem?_map] at hg
    cases ho : l[r]? with
    | none => rw [ho] at hg; cases hg
    | some o =>
      rw [ho] at hg
      simp only [Option.map_some, Option.some.injEq] at hg
      subst hg
      have ho' : l.toArray[r]? = some o := by rw [List.getElem?_toArray]; exact ho
      unfold flOkE
      rw [ho']
      dsimp only
      rw [Bool.and_eq_true]
      refine ⟨?_, List.all_eq_true.2 fun x hx => ?_⟩
      · cases hd : o.dst with
        | none => rfl
        | some d =>
          have h1 := isOff_spec h.1 (dst_bit.2 hd)
          have h2 : d ∉ o.looksAt l.toArray := fun hm => by
            have h3 := look_bit.2 hm
            rw [show (rowOf l.toArray o).look = maskOf (o.looksAt l.toArray) from rfl, h3] at h1
            cases h1
          simpa using h2
      · have hx' : x < l.toArray.size := List.mem_range.1 hx
        obtain ⟨ox, hox⟩ : ∃ ox, l.toArray[x]? = some ox := ⟨_, Array.getElem?_eq_getElem hx'⟩
        have h1 := allIx_spec h.2 x _ (rows_get hr hox)
        rw [Nat.zero_add] at h1
        rw [hox]
        dsimp only
        simp only [Bool.or_eq_true, Bool.and_eq_true, hasBit_spec] at h1
        rcases h1 with h1 | h1 | h1 | h1
        · have := Nat.eq_of_beq_eq_true h1
          subst this; simp
        · obtain ⟨e, he, hb, he2⟩ := aft_bit.1 h1
          have : (o.after.any fun e => Region.binds .any e && e.on == x) = true := Array.any_eq_true'.2 ⟨e, he, by simp [hb, he2]⟩
          rw [this]; simp
        · obtain ⟨e, he, hb, he2⟩ := aft_bit.1 h1
          have : (ox.after.any fun e => Region.binds .any e && e.on == j) = true := Array.any_eq_true'.2 ⟨e, he, by simp [hb, he2]⟩
          rw [this]; simp
        · have : (match ox.dst with | some d => !(o.looksAt l.toArray).contains d && o.dst != some d | none => true) = true := by
            cases hd : ox.dst with
            | none => rfl
            | some d =>
              have k1 := isOff_spec h1.1 (dst_bit.2 hd)
              have k2 := isOff_spec h1.2 (dst_bit.2 hd)
              have q1 : d ∉ o.looksAt l.toArray := fun hm => by
                have h3 := look_bit.2 hm
                rw [show (rowOf l.toArray o).look = maskOf (o.looksAt l.toArray) from rfl, h3] at k1
                cases k1
              have q2 : o.dst ≠ some d := fun hm => by
                have h3 := dst_bit.2 hm
                rw [show (rowOf l.toArray o).dst = maskOf o.dst.toList from rfl, h3] at k2
                cases k2
              simp [q1, q2]
          refine Bool.or_eq_true_iff.2 (.inr (Bool.or_eq_true_iff.2 (.inr ?_)))
          exact this

theorem apart_of {ops : Array Oper} {x y : Oper} (h1 : isOff (rowOf ops x).dst (rowOf ops y).look = true) (h2 : isOff (rowOf ops x).dst (rowOf ops y).dst = true) (h3 : isOff (rowOf ops y).dst (rowOf ops x).look = true) : x.apart ops y = true := by
  unfold Oper.apart
  rw [Bool.and_eq_true]
  constructor
  · cases hd : x.dst with
    | none => rfl
    | some d =>
      have k1 := isOff_spec h1 (dst_bit.2 hd)
      have k2 := isOff_spec h2 (dst_bit.2 hd)
      have q1 : d ∉ y.looksAt ops := fun hm => by
        have h3 := look_bit.2 hm
        rw [show (rowOf ops y).look = maskOf (y.looksAt ops) from rfl, h3] at k1
        cases k1
      have q2 : y.dst ≠ some d := fun hm => by
        have h3 := dst_bit.2 hm
        rw [show (rowOf ops y).dst = maskOf y.dst.toList from rfl, h3] at k2
        cases k2
      simp [q1, q2]
  · cases hd : y.dst with
    | none => rfl
    | some d =>
      have k1 := isOff_spec h3 (dst_bit.2 hd)
      have q1 : d ∉ x.looksAt ops := fun hm => by
        have h3 := look_bit.2 hm
        rw [show (rowOf ops x).look = maskOf (x.looksAt ops) from rfl, h3] at k1
        cases k1
      simp [q1]

theorem M_of_lexM {rows : List MRow} (hrows : rows = l.map (rowOf l.toArray)) {eff : List (Nat × List Nat)} {Q : Exit → Act → World → Prop} (hs : Region.noSelect l.toArray = true) (hfl : ∀ j fl, (j, fl) ∈ eff → ∀ r ∈ fl, flOkE l.toArray j r = true) :
    ∀ (od : List Nat) (listed : Array Bool) (L : Nat) (a : Act) (w : World), listed.size = l.length → (∀ j, listed.getD j false = L.testBit j) → walkOk rows eff od L = true → Down l.toArray listed → wpLex P l.toArray eff Q od w a → wpAnyM P l.toArray eff Q od.length listed a w
  | [], listed, L, a, w, hsz, hL, hB, hdown, h => by
    refine ⟨?_, h⟩
    unfold walkOk at hB
    apply List.eq_nil_iff_forall_not_mem.2
    intro j hj
    obtain ⟨h1, o, ho, _⟩ := mem_ready.1 hj
    have h2 := allIx_spec hB j _ (rows_get hrows ho)
    rw [Nat.zero_add, hasBit_spec, ← hL] at h2
    have hlt : j < listed.size := by
      rcases Nat.lt_or_ge j listed.size with h' | h'
      · exact h'
      · simp [Array.getElem?_eq_none h'] at h1
    simp [hlt] at h1 h2
    rw [h1] at h2
    cases h2
  | i :: rest, listed, L, a, w, hsz, hL, hB, hdown, h => by
    unfold walkOk at hB
    rw [Bool.and_eq_true] at hB
    obtain ⟨hB, hR⟩ := hB
    cases hri : rows[i]? with
    | none => rw [hri] at hB; cases hB
    | some ri =>
    rw [hri] at hB
    dsimp only at hB
    rw [Bool.and_eq_true, Bool.and_eq_true] at hB
    obtain ⟨hBi, hBa, hB⟩ := hB
    obtain ⟨oi, hoi, rfl⟩ : ∃ oi, l.toArray[i]? = some oi ∧ ri = rowOf l.toArray oi := by
      rw [hrows, List.getElem?_map] at hri
      cases ho : l[i]? with
      | none => rw [ho] at hri; cases hri
      | some o => rw [ho] at hri; exact ⟨o, by rw [List.getElem?_toArray]; exact ho, by simpa using hri.symm⟩
    have hilt : i < listed.size := by
      have := (Array.getElem?_eq_some_iff.1 hoi).1
      simp only [List.size_toArray] at this
      omega
    have hun (j : Nat) (hj : j < listed.size) : listed.getD j true = L.testBit j := by
      rw [← hL]; simp [hj]
    have hunj (j : Nat) (hj : listed.getD j true = false) : L.testBit j = false := by
      have hlt : j < listed.size := by
        rcases Nat.lt_or_ge j listed.size with h' | h'
        · exact h'
        · simp [Array.getElem?_eq_none h'] at hj
      rw [← hun j hlt]; exact hj
    have hr' : i ∈ Region.ready .any l.toArray listed := by
      refine mem_ready.2 ⟨?_, oi, hoi, fun e he hb => ?_⟩
      · rw [hun i hilt]
        simpa [hasBit_spec] using hBi
      · rw [hL]
        exact isIn_spec hBa (aft_bit.2 ⟨e, he, hb, rfl⟩)
    have hdown' : Down l.toArray (listed.setIfInBounds i true) := by
      obtain ⟨_, oi', hoi', hall⟩ := mem_ready.1 hr'
      intro r o ho hl e he hb
      by_cases hir : i = r
      · subst hir
        have : o = oi' := Option.some.inj (ho.symm.trans hoi')
        subst this
        exact getD_set_true (hall e he hb)
      · rw [getD_set_ne false hir] at hl
        exact getD_set_true (hdown r o ho hl e he hb)
    have hL' : ∀ j, (listed.setIfInBounds i true).getD j false = (Nat.lor L (Nat.shiftLeft 1 i)).testBit j := by
      intro j
      rw [lor_bit, bit_one]
      by_cases hij : j = i
      · subst hij; simp [hilt]
      · rw [getD_set_ne false (Ne.symm hij), hL]; simp [hij]
    have hsz' : (listed.setIfInBounds i true).size = l.length := by simpa using hsz
    unfold wpLex at h
    cases he : eff.lookup i with
    | some fl =>
      rw [he] at hB h
      dsimp only at hB
      have hB' : ∀ j ∈ Region.ready .any l.toArray listed, j = i := by
        intro j hj
        obtain ⟨h1, o, ho, hall⟩ := mem_ready.1 hj
        have h2 := allIx_spec hB j _ (rows_get hrows ho)
        rw [Nat.zero_add] at h2
        simp only [Bool.or_eq_true, hasBit_spec, hunj j h1, Bool.false_eq_true, false_or, Bool.not_eq_true'] at h2
        rcases h2 with h2 | h2
        · exact Nat.eq_of_beq_eq_true h2
        · obtain ⟨k, hk1, hk2⟩ := isIn_not h2
          obtain ⟨e, he', hb, rfl⟩ := aft_bit.1 hk1
          have := hall e he' hb
          rw [hL, hk2] at this
          cases this
      refine ⟨fun h0 => (by rw [h0] at hr'; cases hr'), fun j hj => ?_⟩
      obtain rfl := hB' j hj
      rw [he]
      intro n
      exact wpOp_mono (fun a' w' hh => ⟨fun r hr _ o ho => hh.1 r hr o ho, M_of_lexM hrows hs hfl rest _ _ a' w' hsz' hL' hR hdown' hh.2⟩) (h n)
    | none =>
      rw [he] at hB h
      dsimp only at hB
      rw [Bool.and_eq_true] at hB
      obtain ⟨hf, hN⟩ := hB
      obtain ⟨v, hy, hK⟩ := yieldsIn_of_qOp hoi h
      unfold dOk at hN
      simp only [Bool.and_eq_true] at hN
      obtain ⟨n1, n2, n3, n4⟩ := hN
      refine M_firstE hoi he (Region.noSelect_spec hs) hfl (fun j => (notBehind i 0 rows 0).testBit j) (by simpa [hasBit_spec] using n1) ?_ rest.length listed a w v ?_ ?_ ?_ hdown hr' hy
        (M_of_lexM hrows hs hfl rest _ _ _ w hsz' hL' hR hdown' hK)
      · intro j oj hj hd hji
        have h2 := allIx_spec n2 j _ (rows_get hrows hj)
        rw [Nat.zero_add] at h2
        have hd' : (notBehind i 0 rows 0).testBit j = false := hd
        simp only [Bool.or_eq_true, hasBit_spec, hd', Bool.false_eq_true, false_or, Bool.not_eq_true'] at h2
        rcases h2 with h2 | h2
        · exact absurd (Nat.eq_of_beq_eq_true h2) hji
        · obtain ⟨k, hk1, hk2⟩ := isIn_not h2
          obtain ⟨e, he', hb, rfl⟩ := aft_bit.1 hk1
          exact ⟨e, he', hb, hk2⟩
      · intro j oj hj hji hu hno
        have h2 := allIx_spec hf j _ (rows_get hrows hj)
        rw [Nat.zero_add] at h2
        simp only [Bool.or_eq_true, Bool.and_eq_true, hasBit_spec, hunj j hu, Bool.false_eq_true, false_or] at h2
        rcases h2 with h2 | h2 | h2
        · exact absurd (Nat.eq_of_beq_eq_true h2) hji
        · obtain ⟨e, he', hb, he2⟩ := aft_bit.1 h2
          exact absurd he2 (hno e he' hb)
        · exact apart_of h2.1 h2.2.1 h2.2.2
      · intro j fl hj hd hu
        have h2 := List.all_eq_true.1 n3 (j, fl) hj
        have hd' : (notBehind i 0 rows 0).testBit j = true := hd
        simp only [hasBit_spec, hd', hunj j hu, Bool.not_true, Bool.false_or] at h2
        simpa using h2
      · intro j hj
        rw [hL] at hj
        exact isIn_spec n4 hj

def ltAll (n : Nat) (eff : List (Nat × List Nat)) : List Nat → Bool
  | [] => true
  | i :: is => Nat.blt i n && ((eff.lookup i).isNone && ltAll n eff is)
theorem ltAll_spec {n : Nat} {eff : List (Nat × List Nat)} : ∀ {is : List Nat}, ltAll n eff is = true → ∀ i ∈ is, i < n ∧ eff.lookup i = none
  | [], _, _, h => by cases h
  | k :: is, h, i, hi => by
    unfold ltAll at h
    simp only [Bool.and_eq_true] at h
    rcases List.mem_cons.1 hi with rfl | hi
    · exact ⟨by have := h.1; simp [Nat.blt] at this; omega, by have := h.2.1; simpa using this⟩
    · exact ltAll_spec h.2.2 i hi

def stagesOkM (l : List Oper) (rows : List MRow) (st : List (List Nat × Nat × List Nat)) (last : List Nat) : Bool :=
  Region.noSelect l.toArray && (rowsEq l.toArray l rows && (((effOf st).all fun x => x.2.all (flOkM rows x.1)) && ((st.all fun x => Nat.blt x.2.1 l.length && (((effOf st).lookup x.2.1 == some x.2.2) && ltAll l.length (effOf st) x.1)) &&
  (ltAll l.length (effOf st) last && (Nat.beq (orderOf st last).length l.length && walkOk rows (effOf st) (orderOf st last) 0)))))

/-- **A region that draws its order, by stages**, its order looked at by numbers. -/
theorem wp_region_stagesM {id : Nat} {Q : Exit → Act → World → Prop} {a : Act} {w : World} (rows : List MRow) (st : List (List Nat × Nat × List Nat)) (last : List Nat) (hm : P.follows .mixedOrders = true) (hB : stagesOkM l rows st last = true)
    (h : wpStages P l Q last st w a) : (Code.region id l.toArray true).wp P Q a w := by
  unfold stagesOkM at hB
  rw [Bool.and_eq_true, Bool.and_eq_true, Bool.and_eq_true, Bool.and_eq_true, Bool.and_eq_true, Bool.and_eq_true] at hB
  obtain ⟨b1, br, b2, b3, b4, b6, b7⟩ := hB
  have hrows := rowsEq_spec br
  have hlex := lex_of_stages (P := P) (Q := Q) (l := l) (eff := effOf st) (last := last) (fun i hi => by simpa using ltAll_spec b4 i hi) st w a (fun x hx => by
    have := List.all_eq_true.1 b3 x hx
    rw [Bool.and_eq_true, Bool.and_eq_true] at this
    obtain ⟨c1, c2, c3⟩ := this
    exact ⟨fun i hi => by simpa using ltAll_spec c3 i hi, by simp [Nat.blt] at c1; simp; omega, by simpa using c2⟩) h
  have hM := M_of_lexM (P := P) (Q := Q) hrows (eff := effOf st) b1 (fun j fl hj r hr => flOkM_spec hrows (List.all_eq_true.1 (List.all_eq_true.1 b2 (j, fl) hj) r hr)) (orderOf st last) (Array.replicate l.length false) 0 a w (by simp)
    (fun j => by
      rw [Nat.zero_testBit]
      simp only [Array.getD_eq_getD_getElem?, Array.getElem?_replicate]
      split <;> rfl) b7
    (fun r o _ hl => by
      exfalso
      simp [Array.getElem?_replicate] at hl
      split at hl <;> simp at hl) hlex
  rw [Nat.eq_of_beq_eq_true b6] at hM
  exact wp_region_any hm (wpAny_of_M _ _ a w (by simpa using hM) 1)
end
end Go.Proofs.YtjabeabbaambcaaDoor
