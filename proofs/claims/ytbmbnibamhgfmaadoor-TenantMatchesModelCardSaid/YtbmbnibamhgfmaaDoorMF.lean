/- Several texts in one: TrP, TrM, TrC, TrN, TrL, TrF, TrO, TrG. -/
import Derived.Test.YtbmbnibamhgfmaaDoorMC
import Derived.Test.YtbmbnibamhgfmaaDoorMB
import Derived.Test.YtbmbnibamhgfmaaDoorMJ
import Derived.Deep.DeepCutAuto
/- A trie, plain: keys (the family, then the bits), nodes by key; the prefix of a key. -/
namespace Go.Proofs.YtbmbnibamhgfmaaDoor
open Go.RowKit

abbrev Key := List Bool
structure ND where
  b : Nat
  q : Pfx
  pr : Bool
  x : Value
abbrev Tri := Key → Option ND
def keyA (six : Bool) (bs : List Int) (k : Nat) : Key := six :: (List.range k).map fun i => bitA bs i == 1
def keyP (p : Pfx) : Key := keyA p.1 p.2.1 p.2.2.toNat
theorem keyA_succ (six : Bool) (bs : List Int) (k : Nat) : keyA six bs (k + 1) = keyA six bs k ++ [bitA bs k == 1] := by simp [keyA, List.range_succ]
theorem keyA_len (six : Bool) (bs : List Int) (k : Nat) : (keyA six bs k).length = k + 1 := by simp [keyA]
theorem keyA_ne (six : Bool) (bs : List Int) (k : Nat) : keyA six bs k ≠ [] := by simp [keyA]
theorem trunc_idem (bs : List Int) (n : Int) : truncL (truncL bs n) n = truncL bs n := by
  refine at_ext (by rw [trunc_len]) fun i hi => ?_
  rw [trunc_len, trunc_len] at hi
  rw [trunc_at _ _ _ (by rw [trunc_len]; exact hi), trunc_at _ _ _ hi, cut_eq, hi_cut]
theorem bits_eq {a b : List Int} {k : Nat} : ((List.range k).map fun i => bitA a i == 1) = ((List.range k).map fun i => bitA b i == 1) ↔ ∀ i, i < k → bitA a i = bitA b i := by
  constructor
  · intro h i hi
    have := congrArg (fun l => l[i]?) h
    simp only [List.getElem?_map, List.getElem?_range hi, Option.map_some, Option.some.injEq] at this
    have h1 := bit_rng a i
    have h2 := bit_rng b i
    rcases h1 with h1 | h1 <;> rcases h2 with h2 | h2 <;> simp_all
  · intro h
    refine List.map_congr_left fun i hi => ?_
    rw [h i (by simpa using hi)]
/-- Two addresses have one key of length n if they are cut to the same prefix. -/
theorem keyA_iff {s t : Bool} {a b : List Int} {n : Nat} (ha : GoodA a) (hb : GoodA b) (hn : n ≤ 128) : keyA s a n = keyA t b n ↔ s = t ∧ truncL a n = truncL b n := by
  have hg := trunc_good hb n
  have hab := agree_iff (truncL b n) a n hg.1 ha.1 hg.2 ha.2 hn (trunc_idem b n)
  have hbb := (agree_iff (truncL b n) b n hg.1 hb.1 hg.2 hb.2 hn (trunc_idem b n)).1 rfl
  unfold keyA
  rw [List.cons.injEq, bits_eq, hab]
  constructor
  · rintro ⟨rfl, h⟩
    exact ⟨rfl, fun i hi => (hbb i hi).trans (h i hi).symm⟩
  · rintro ⟨rfl, h⟩
    exact ⟨rfl, fun i hi => (h i hi).symm.trans (hbb i hi)⟩
theorem keyA_trunc (s : Bool) {a : List Int} {n : Nat} (ha : GoodA a) (hn : n ≤ 128) : keyA s (truncL a n) n = keyA s a n :=
  (keyA_iff (trunc_good ha n) ha hn).2 ⟨rfl, trunc_idem a n⟩
theorem bitL_le (six : Bool) : bitL six ≤ 128 := by cases six <;> decide
structure OkP (p : Pfx) : Prop where
  g : GoodA p.2.1
  v : validP p = true
theorem OkP.rng {p : Pfx} (h : OkP p) : 0 ≤ p.2.2 ∧ p.2.2 ≤ bitL p.1 := by
  have := h.v
  simp only [validP, Bool.and_eq_true, decide_eq_true_eq] at this
  exact ⟨this.1.1.2, this.1.2⟩
theorem OkP.cut {p : Pfx} (h : OkP p) : truncL p.2.1 p.2.2 = p.2.1 := by
  have := h.v
  simp only [validP, Bool.and_eq_true, decide_eq_true_eq] at this
  exact this.2
theorem OkP.va {p : Pfx} (h : OkP p) : validA p.1 p.2.1 = true := by
  have := h.v
  simp only [validP, Bool.and_eq_true, decide_eq_true_eq] at this
  exact this.1.1.1
theorem OkP.nat {p : Pfx} (h : OkP p) : ((p.2.2.toNat : Nat) : Int) = p.2.2 ∧ p.2.2.toNat ≤ 128 := by
  have h1 := h.rng
  have h2 := bitL_le p.1
  omega
/-- A valid prefix is known by its key. -/
theorem keyP_inj {p q : Pfx} (hp : OkP p) (hq : OkP q) (h : keyP p = keyP q) : p = q := by
  have hl : p.2.2.toNat = q.2.2.toNat := by
    have := congrArg List.length h
    rw [keyP, keyP, keyA_len, keyA_len] at this
    omega
  unfold keyP at h
  rw [hl, keyA_iff hp.g hq.g hq.nat.2] at h
  have h3 : p.2.2 = q.2.2 := by rw [← hp.nat.1, ← hq.nat.1, hl]
  have h4 := h.2
  rw [hq.nat.1] at h4
  rw [hq.cut, ← h3, hp.cut] at h4
  obtain ⟨a, b, c⟩ := p
  obtain ⟨d, e, f⟩ := q
  simp only at h h3 h4
  rw [h.1, h3, h4]
theorem trunc_valid {six : Bool} {a : List Int} (ha : GoodA a) (hv : validA six a = true) (n : Int) : validA six (truncL a n) = true := by
  cases six
  · simp only [validA, Bool.false_or, List.all_eq_true, beq_iff_eq] at hv ⊢
    intro x hx
    obtain ⟨i, hi, rfl⟩ := List.getElem_of_mem hx
    rw [List.length_drop, trunc_len, ha.1] at hi
    have h1 : at_ a (4 + i) = 0 := by
      have := hv (at_ a (4 + i)) (by
        have h2 : 4 + i < a.length := by rw [ha.1]; omega
        rw [show at_ a (4 + i) = a[4 + i] by simp [at_, List.getD, h2]]
        rw [show a[4 + i] = (a.drop 4)[i]'(by rw [List.length_drop, ha.1]; omega) by rw [List.getElem_drop]]
        exact List.getElem_mem _)
      exact this
    have h3 : at_ (truncL a n) (4 + i) = 0 := by
      rw [trunc_at _ _ _ (by rw [ha.1]; omega), h1]
      unfold cutB hiB
      simp
    rw [List.getElem_drop]
    rw [← h3]
    simp [at_, List.getD, show 4 + i < (truncL a n).length by rw [trunc_len, ha.1]; omega]
  · rfl
/-- The prefix of length k of a valid address. -/
theorem okP_of {six : Bool} {a : List Int} {k : Nat} (ha : GoodA a) (hv : validA six a = true) (hk : (k : Int) ≤ bitL six) : OkP (six, truncL a k, (k : Int)) :=
  ⟨trunc_good ha k, by
    simp only [validP, Bool.and_eq_true, decide_eq_true_eq]
    exact ⟨⟨⟨trunc_valid ha hv k, by omega⟩, hk⟩, trunc_idem a k⟩⟩
theorem keyP_of {six : Bool} {a : List Int} {k : Nat} (ha : GoodA a) (hk : (k : Int) ≤ bitL six) : keyP (six, truncL a k, (k : Int)) = keyA six a k := by
  have := bitL_le six
  show keyA six (truncL a k) ((k : Int).toNat) = _
  rw [Int.toNat_natCast]
  exact keyA_trunc six ha (by omega)
/-- What is stored under a key. -/
def Tri.val (nd : Tri) (κ : Key) : Option Value := match nd κ with | some ⟨_, _, true, x⟩ => some x | _ => none
def Tri.set (nd : Tri) (κ : Key) (d : Option ND) : Tri := fun κ' => if κ' = κ then d else nd κ'
theorem Tri.set_same (nd : Tri) (κ : Key) (d : Option ND) : nd.set κ d κ = d := by simp [Tri.set]
theorem Tri.set_other (nd : Tri) {κ κ' : Key} (d : Option ND) (h : κ' ≠ κ) : nd.set κ d κ' = nd κ' := by simp [Tri.set, h]
theorem Tri.val_set_same (nd : Tri) (κ : Key) (b : Nat) (q : Pfx) (x : Value) : (nd.set κ (some ⟨b, q, true, x⟩)).val κ = some x := by simp [Tri.val, Tri.set]
theorem Tri.val_set_off (nd : Tri) (κ : Key) (b : Nat) (q : Pfx) (x : Value) : (nd.set κ (some ⟨b, q, false, x⟩)).val κ = none := by simp [Tri.val, Tri.set]
theorem Tri.val_set_other (nd : Tri) {κ κ' : Key} (d : Option ND) (h : κ' ≠ κ) : (nd.set κ d).val κ' = nd.val κ' := by simp [Tri.val, Tri.set, h]
theorem Tri.val_some {nd : Tri} {κ : Key} {x : Value} (h : nd.val κ = some x) : ∃ b q, nd κ = some ⟨b, q, true, x⟩ := by
  unfold Tri.val at h
  split at h
  · rename_i b q x' he
    obtain rfl := Option.some.inj h
    exact ⟨b, q, he⟩
  · cases h
theorem Tri.val_none {nd : Tri} {κ : Key} (h : nd.val κ = none) {d : ND} (hd : nd κ = some d) : d.pr = false := by
  unfold Tri.val at h
  rw [hd] at h
  obtain ⟨b, q, pr, x⟩ := d
  cases pr
  · rfl
  · simp at h
end Go.Proofs.YtbmbnibamhgfmaaDoor

/- A trie in memory: every node's block by its key. -/
namespace Go.Proofs.YtbmbnibamhgfmaaDoor
open Go.RowKit

def ptrV : Option ND → Value
  | none => .pointer none
  | some d => .pointer (some ⟨d.b, 0, none⟩)
def nodeC (d : ND) (l r : Option ND) : List Value := pfxC d.q ++ [.bool d.pr, d.x, ptrV l, ptrV r]
theorem nodeC_at {d : ND} (h : d.q.2.1.length = 16) (l r : Option ND) (i : Nat) : (nodeC d l r)[18 + i]? = [Value.bool d.pr, d.x, ptrV l, ptrV r][i]? := by
  unfold nodeC
  rw [List.getElem?_append_right (by rw [pfx_len h]; omega), pfx_len h, Nat.add_sub_cancel_left]
theorem nodeC_pfx {d : ND} (l r : Option ND) (j : Nat) (v : Value) (hj : (pfxC d.q)[j]? = some v) : (nodeC d l r)[0 + j]? = some v := by
  unfold nodeC
  rw [Nat.zero_add, List.getElem?_append_left (List.getElem?_eq_some_iff.1 hj).1]
  exact hj
theorem nodeC_set {d : ND} (h : d.q.2.1.length = 16) (l r : Option ND) (i : Nat) (v : Value) : (nodeC d l r).set (18 + i) v = pfxC d.q ++ [Value.bool d.pr, d.x, ptrV l, ptrV r].set i v := by
  unfold nodeC
  rw [List.set_append_right _ _ (by rw [pfx_len h]; omega), pfx_len h, Nat.add_sub_cancel_left]

structure TrI (tn tt : TypeId) (w : World) (g : Nat) (nd : Tri) (n : Int) : Prop where
  root : Blk w g tt [ptrV (nd [false]), ptrV (nd [true]), .int .i64 n]
  node : ∀ κ d, nd κ = some d → Blk w d.b tn (nodeC d (nd (κ ++ [false])) (nd (κ ++ [true])))
  inj : ∀ κ κ' d d', nd κ = some d → nd κ' = some d' → d.b = d'.b → κ = κ'
  good : ∀ κ d, nd κ = some d → OkP d.q ∧ keyP d.q = κ
  par : ∀ κ c, κ ≠ [] → nd (κ ++ [c]) ≠ none → nd κ ≠ none
inductive LinkAt (nd : Tri) (g : Nat) : Key → Addr → Prop
  | root (s : Bool) : LinkAt nd g [s] ⟨g, if s then 1 else 0, none⟩
  | child (κ : Key) (c : Bool) (d : ND) (h : nd κ = some d) : LinkAt nd g (κ ++ [c]) ⟨d.b, if c then 21 else 20, none⟩
section
variable {tn tt : TypeId} {w w' : World} {g : Nat} {nd : Tri} {n : Int}
theorem TrI.l16 (h : TrI tn tt w g nd n) {κ : Key} {d : ND} (hd : nd κ = some d) : d.q.2.1.length = 16 := (h.good κ d hd).1.g.1
theorem TrI.key (h : TrI tn tt w g nd n) {κ : Key} {d : ND} (hd : nd κ = some d) : κ ≠ [] := by
  rw [← (h.good κ d hd).2]; exact keyA_ne _ _ _
theorem TrI.ne (h : TrI tn tt w g nd n) (ht : tn ≠ tt) {κ : Key} {d : ND} (hd : nd κ = some d) : d.b ≠ g := (h.node κ d hd).ne h.root ht
theorem TrI.ch {S : List Nat} (h : TrI tn tt w g nd n) (hc : Ch S w w') (hg : g ∉ S) (hb : ∀ κ d, nd κ = some d → d.b ∉ S) : TrI tn tt w' g nd n :=
  ⟨h.root.ch hc hg, fun κ d hd => (h.node κ d hd).ch hc (hb κ d hd), h.inj, h.good, h.par⟩
theorem TrI.nil (h : TrI tn tt w g nd n) (hc : Ch [] w w') : TrI tn tt w' g nd n := h.ch hc (by simp) (by simp)
theorem snoc_ne {α : Type} (l : List α) (a : α) : l ++ [a] ≠ l := fun h => by
  have := congrArg List.length h
  simp at this
theorem snoc_inj {α : Type} {l l' : List α} {a a' : α} (h : l ++ [a] = l' ++ [a']) : l = l' ∧ a = a' := by
  have := List.append_inj' h rfl
  exact ⟨this.1, by simpa using this.2⟩
theorem LinkAt.cell (h : TrI tn tt w g nd n) {κ : Key} {la : Addr} (hl : LinkAt nd g κ la) : w.cell? la = some (ptrV (nd κ)) := by
  cases hl with
  | root s => cases s <;> exact h.root.cell _
  | child κ c d hd =>
    have hB := h.node κ d hd
    cases c
    · exact (hB.cell 20).trans (nodeC_at (h.l16 hd) _ _ 2)
    · exact (hB.cell 21).trans (nodeC_at (h.l16 hd) _ _ 3)
theorem LinkAt.frozen (h : TrI tn tt w g nd n) {κ : Key} {la : Addr} (hl : LinkAt nd g κ la) : w.frozen? la = false := by
  cases hl with
  | root s => exact h.root.frozen _
  | child κ c d hd => exact (h.node κ d hd).frozen _
/-- A link is stored into: to a new node without children, or to nil where the node had none. -/
theorem TrI.relink (h : TrI tn tt w g nd n) (ht : tn ≠ tt) {κ : Key} {la : Addr} (hl : LinkAt nd g κ la) (e : Option ND) (hk0 : nd (κ ++ [false]) = none) (hk1 : nd (κ ++ [true]) = none)
    (he : ∀ d, e = some d → Blk w d.b tn (nodeC d none none) ∧ (∀ κ' d', nd κ' = some d' → d'.b ≠ d.b) ∧ OkP d.q ∧ keyP d.q = κ) :
    TrI tn tt (w.setCell la (ptrV e)) g (nd.set κ e) n := by
  have hkids : ∀ c, nd (κ ++ [c]) = none := fun c => by cases c <;> assumption
  have hkne : κ ≠ [] := by cases hl <;> simp
  have hkc : ∀ c, (nd.set κ e) (κ ++ [c]) = none := fun c => by rw [Tri.set_other _ _ (snoc_ne κ c)]; exact hkids c
  have hroot : Blk (w.setCell la (ptrV e)) g tt [ptrV ((nd.set κ e) [false]), ptrV ((nd.set κ e) [true]), .int .i64 n] := by
    cases hl with
    | root s =>
      cases s
      · have := h.root.set 0 (ptrV e)
        simpa [Tri.set] using this
      · have := h.root.set 1 (ptrV e)
        simpa [Tri.set] using this
    | child κ c d hd =>
      have hk := h.key hd
      have hn : ∀ s : Bool, ([s] : Key) ≠ κ ++ [c] := fun s he => hk (by
        have := congrArg List.length he
        simp at this
        exact this)
      rw [Tri.set_other _ _ (hn false), Tri.set_other _ _ (hn true)]
      exact h.root.far (by simpa using fun e => h.ne ht hd e.symm) _
  have hnode : ∀ κ' d', (nd.set κ e) κ' = some d' → Blk (w.setCell la (ptrV e)) d'.b tn (nodeC d' ((nd.set κ e) (κ' ++ [false])) ((nd.set κ e) (κ' ++ [true]))) := by
    intro κ' d' hd'
    by_cases hk : κ' = κ
    · subst hk
      rw [Tri.set_same] at hd'
      rw [hkc, hkc]
      obtain ⟨h1, h2, _, _⟩ := he d' hd'
      refine h1.far ?_ _
      cases hl with
      | root s => exact (h1.ne h.root ht)
      | child κ c d hd => exact fun e => h2 _ _ hd e.symm
    · rw [Tri.set_other _ _ hk] at hd'
      have hk' := h.key hd'
      cases hl with
      | root s =>
        have hn : ∀ c : Bool, κ' ++ [c] ≠ [s] := fun c he => hk' (by
          have := congrArg List.length he
          simp at this
          exact this)
        rw [Tri.set_other _ _ (hn false), Tri.set_other _ _ (hn true)]
        exact (h.node κ' d' hd').far (h.ne ht hd') _
      | child κ0 c d0 hd0 =>
        by_cases hp : κ' = κ0
        · subst hp
          obtain rfl : d' = d0 := by rw [hd0] at hd'; exact (Option.some.inj hd').symm
          have hB := h.node _ _ hd0
          cases c
          · have := hB.set 20 (ptrV e)
            rw [show (20 : Nat) = 18 + 2 from rfl, nodeC_set (h.l16 hd0)] at this
            rw [Tri.set_same, Tri.set_other _ _ (show κ' ++ [true] ≠ κ' ++ [false] by simp)]
            exact this
          · have := hB.set 21 (ptrV e)
            rw [show (21 : Nat) = 18 + 3 from rfl, nodeC_set (h.l16 hd0)] at this
            rw [Tri.set_same, Tri.set_other _ _ (show κ' ++ [false] ≠ κ' ++ [true] by simp)]
            exact this
        · have hn : ∀ c' : Bool, κ' ++ [c'] ≠ κ0 ++ [c] := fun c' he => hp (snoc_inj he).1
          rw [Tri.set_other _ _ (hn false), Tri.set_other _ _ (hn true)]
          exact (h.node κ' d' hd').far (fun e => hp (h.inj _ _ _ _ hd' hd0 e)) _
  refine ⟨hroot, hnode, ?_, ?_, ?_⟩
  · intro κ1 κ2 d1 d2 h1 h2 hb
    by_cases k1 : κ1 = κ <;> by_cases k2 : κ2 = κ
    · rw [k1, k2]
    · subst k1
      rw [Tri.set_same] at h1
      rw [Tri.set_other _ _ k2] at h2
      exact absurd hb.symm ((he d1 h1).2.1 _ _ h2)
    · subst k2
      rw [Tri.set_same] at h2
      rw [Tri.set_other _ _ k1] at h1
      exact absurd hb ((he d2 h2).2.1 _ _ h1)
    · rw [Tri.set_other _ _ k1] at h1
      rw [Tri.set_other _ _ k2] at h2
      exact h.inj _ _ _ _ h1 h2 hb
  · intro κ' d' hd'
    by_cases hk : κ' = κ
    · subst hk
      rw [Tri.set_same] at hd'
      exact (he d' hd').2.2
    · rw [Tri.set_other _ _ hk] at hd'
      exact h.good _ _ hd'
  · intro κ' c' hne hs
    by_cases hk : κ' = κ
    · subst hk
      exact absurd (hkc c') hs
    · rw [Tri.set_other _ _ hk]
      by_cases hp : κ' ++ [c'] = κ
      · cases hl with
        | root s =>
          have := congrArg List.length hp
          simp at this
          exact absurd this hne
        | child κ0 c d0 hd0 =>
          rw [(snoc_inj hp).1, hd0]
          simp
      · rw [Tri.set_other _ _ hp] at hs
        exact h.par _ _ hne hs
/-- A node's mark and value are stored. -/
theorem TrI.put (h : TrI tn tt w g nd n) (ht : tn ≠ tt) {κ : Key} {d : ND} (hd : nd κ = some d) (pr : Bool) (x : Value) :
    TrI tn tt ((w.setCell ⟨d.b, 18, none⟩ (.bool pr)).setCell ⟨d.b, 19, none⟩ x) g (nd.set κ (some { d with pr := pr, x := x })) n := by
  have hsome : ∀ κ', (nd.set κ (some { d with pr := pr, x := x })) κ' = none ↔ nd κ' = none := fun κ' => by
    by_cases hk : κ' = κ
    · subst hk; rw [Tri.set_same, hd]; simp
    · rw [Tri.set_other _ _ hk]
  have hptr : ∀ κ', ptrV ((nd.set κ (some { d with pr := pr, x := x })) κ') = ptrV (nd κ') := fun κ' => by
    by_cases hk : κ' = κ
    · subst hk; rw [Tri.set_same, hd]; rfl
    · rw [Tri.set_other _ _ hk]
  have hnc : ∀ d' κ', nodeC d' ((nd.set κ (some { d with pr := pr, x := x })) (κ' ++ [false])) ((nd.set κ (some { d with pr := pr, x := x })) (κ' ++ [true])) = nodeC d' (nd (κ' ++ [false])) (nd (κ' ++ [true])) := fun d' κ' => by
    unfold nodeC; rw [hptr, hptr]
  have hgd := h.ne ht hd
  refine ⟨?_, ?_, ?_, ?_, ?_⟩
  · rw [hptr, hptr]
    exact (h.root.far (by simpa using hgd.symm) _).far (by simpa using hgd.symm) _
  · intro κ' d' hd'
    rw [hnc]
    by_cases hk : κ' = κ
    · subst hk
      rw [Tri.set_same] at hd'
      obtain rfl := Option.some.inj hd'
      have := ((h.node _ _ hd).set 18 (.bool pr)).set 19 x
      rw [show (18 : Nat) = 18 + 0 from rfl, nodeC_set (h.l16 hd), show (19 : Nat) = 18 + 1 from rfl] at this
      have e := nodeC_set (d := { d with pr := pr }) (show d.q.2.1.length = 16 from h.l16 hd) (nd (κ' ++ [false])) (nd (κ' ++ [true])) 1 x
      unfold nodeC at e
      simp only [List.set_cons_zero] at this
      rw [e] at this
      exact this
    · rw [Tri.set_other _ _ hk] at hd'
      have hb : d'.b ≠ d.b := fun e => hk (h.inj _ _ _ _ hd' hd e)
      exact ((h.node _ _ hd').far hb _).far hb _
  · intro κ1 κ2 d1 d2 h1 h2 hb
    have key : ∀ κ' d', (nd.set κ (some { d with pr := pr, x := x })) κ' = some d' → ∃ d0, nd κ' = some d0 ∧ d0.b = d'.b := fun κ' d' hd' => by
      by_cases hk : κ' = κ
      · subst hk
        rw [Tri.set_same] at hd'
        obtain rfl := Option.some.inj hd'
        exact ⟨d, hd, rfl⟩
      · rw [Tri.set_other _ _ hk] at hd'
        exact ⟨d', hd', rfl⟩
    obtain ⟨a, ha, ea⟩ := key _ _ h1
    obtain ⟨b, hb', eb⟩ := key _ _ h2
    exact h.inj _ _ _ _ ha hb' (by rw [ea, eb, hb])
  · intro κ' d' hd'
    by_cases hk : κ' = κ
    · subst hk
      rw [Tri.set_same] at hd'
      obtain rfl := Option.some.inj hd'
      exact (h.good _ _ hd : OkP d.q ∧ keyP d.q = κ')
    · rw [Tri.set_other _ _ hk] at hd'
      exact h.good _ _ hd'
  · intro κ' c' hne hs
    rw [Ne, hsome] at hs ⊢
    exact h.par _ _ hne hs
/-- The count is stored. -/
theorem TrI.count (h : TrI tn tt w g nd n) (ht : tn ≠ tt) (m : Int) : TrI tn tt (w.setCell ⟨g, 2, none⟩ (.int .i64 m)) g nd m :=
  ⟨h.root.set 2 _, fun κ d hd => (h.node κ d hd).far (h.ne ht hd) _, h.inj, h.good, h.par⟩
end
end Go.Proofs.YtbmbnibamhgfmaaDoor

/- ip.Bit; cidr.PrefixOf; the reference's PrefixOf (printed by mk_trc.py). -/
namespace Go.Proofs.YtbmbnibamhgfmaaDoor
open Go.RowKit

set_option maxRecDepth 20000 in
set_option maxHeartbeats 4000000 in
theorem bitP (six : Bool) (bs : List Int) (hg : GoodA bs) (i : Nat) (hi : (i : Int) < bitL six) (w : World) :
    Calls Tryd.prog 72 #[.agg (addrC six bs).toArray, .int .i64 i] w fun e w' => e = .returned (.int .i64 (bitA bs i)) ∧ Ch [] w w' := by
  have hB : Blk (w.alloc (.cells (addrC six bs).toArray 57)) w.heap.size 57 (addrC six bs) := Blk.new w _ _
  have hC : Ch [] w (w.alloc (.cells (addrC six bs).toArray 57)) := (Ch.refl _ _).alloc _
  have hL : bitL six ≤ 128 := by cases six <;> decide
  have HI := hid (addr_inf (six := six) hg.1)
  obtain ⟨q, hq⟩ : ∃ q : Nat, i / 8 = q := ⟨_, rfl⟩
  obtain ⟨r, hr⟩ : ∃ r : Nat, i % 8 = r := ⟨_, rfl⟩
  have hqi : (i : Int) / 8 = q := by omega
  have hri : (i : Int) % 8 = r := by omega
  have hq16 : q < 16 := by omega
  have hbit : bitA bs i = at_ bs q / 2 ^ (7 - r) % 2 := by unfold bitA; rw [hq, hr]
  obtain ⟨x0, x1⟩ := hg.at hq16
  have hcB : ∀ w', Blk w' w.heap.size 57 (addrC six bs) → w'.cell? ⟨w.heap.size, 1 + q, none⟩ = some (.int .u8 (at_ bs q)) := fun w' h => by rw [h.cell, addrC_byte (by rw [hg.1]; exact hq16)]
  have HCB := hid hcB
  have hr8 : r < 8 := by omega
  have h1 := bitLenP six bs
  have H1 := hid h1
  clear h1 hcB hq hr
  generalize bitL six = L at hi hL H1
  rw [hbit]
  generalize at_ bs q = x at HCB hbit x0 x1 ⊢
  clear hbit
  generalize addrC six bs = cs at hB hC HI HCB H1 ⊢
  rcases (show r = 0 ∨ r = 1 ∨ r = 2 ∨ r = 3 ∨ r = 4 ∨ r = 5 ∨ r = 6 ∨ r = 7 by omega) with rfl | rfl | rfl | rfl | rfl | rfl | rfl | rfl
  all_goals
    simp only [Nat.reduceSub, Int.reducePow, Int.ediv_one]
    have hand (y : Int) (hy : 0 ≤ y ∧ y ≤ 255) := and_one y hy
    have HAND := hid hand
    clear hand
    go_enter Tryd.func72, Tryd.ntmps72
    go_wp2_with (first
      | (refine wpList_load_want rfl 57 _ rfl w.heap.size 0 rfl cs _ hB.range Tryd.underlying57 rfl HI.out ?_)
      | (go_at_call 58; (with_reducible refine (H1.out _).mono ?_); rintro e w2 ⟨rfl, C2⟩; have hc := HCB.out _ (hB.ch C2 (by simp))))
    go_ret
    refine ⟨?_, hC.trans C2⟩
    rw [HAND.out _ (by omega)]
    exact congrArg (fun z => Ending.returned (.int .i64 z)) (w64 _ (by omega))

set_option maxRecDepth 20000 in
set_option maxHeartbeats 4000000 in
theorem pfxOfP (six : Bool) (bs : List Int) (hg : GoodA bs) (hv : validA six bs = true) (k : Nat) (hk : (k : Int) ≤ bitL six) (w : World) :
    Calls Tryd.prog 71 #[.agg (addrC six bs).toArray, .int .i64 k] w fun e w' => e = .returned (.tuple #[.agg (pfxC (six, truncL bs k, (k : Int))).toArray, .bool true]) ∧ Ch [] w w' := by
  have hL := bitL_le six
  have B0 : Blk ((w.alloc (.cells (addrC six bs).toArray 57)).alloc (.cells #[.bool false, .int .u8 0, .int .u8 0, .int .u8 0, .int .u8 0, .int .u8 0, .int .u8 0, .int .u8 0, .int .u8 0, .int .u8 0, .int .u8 0, .int .u8 0, .int .u8 0, .int .u8 0, .int .u8 0, .int .u8 0, .int .u8 0, .int .i64 0] 59)) w.heap.size 57 (addrC six bs) := (Blk.new w _ _).alloc _
  have BP : Blk ((w.alloc (.cells (addrC six bs).toArray 57)).alloc (.cells #[.bool false, .int .u8 0, .int .u8 0, .int .u8 0, .int .u8 0, .int .u8 0, .int .u8 0, .int .u8 0, .int .u8 0, .int .u8 0, .int .u8 0, .int .u8 0, .int .u8 0, .int .u8 0, .int .u8 0, .int .u8 0, .int .u8 0, .int .i64 0] 59)) (w.heap.size + 1) 59 (pfxC (false, zeros, 0)) := Blk.newAt _ _ _ (by simp)
  have CC : Ch [] w ((w.alloc (.cells (addrC six bs).toArray 57)).alloc (.cells #[.bool false, .int .u8 0, .int .u8 0, .int .u8 0, .int .u8 0, .int .u8 0, .int .u8 0, .int .u8 0, .int .u8 0, .int .u8 0, .int .u8 0, .int .u8 0, .int .u8 0, .int .u8 0, .int .u8 0, .int .u8 0, .int .u8 0, .int .i64 0] 59)) := ((Ch.refl [] w).alloc _).alloc _
  have HV := hid (ipValid six bs hg.1 hg.2)
  rw [hv] at HV
  have HB := hid (bitLenP six bs)
  have HT := hid (fun w => truncP six bs hg k (by omega) (by omega) w)
  have HI := hid (addr_inf (six := six) hg.1)
  obtain ⟨y0, y1, y2, y3, y4, y5, y6, y7, y8, y9, y10, y11, y12, y13, y14, y15, hy⟩ := len16 (trunc_good hg k).1
  rw [hy] at HT ⊢
  replace HT : Hid (∀ w, Calls Tryd.prog 59 #[.agg (addrC six bs).toArray, .int .i64 k] w fun e w' => e = .returned (.agg #[.bool six, .int .u8 y0, .int .u8 y1, .int .u8 y2, .int .u8 y3, .int .u8 y4, .int .u8 y5, .int .u8 y6, .int .u8 y7, .int .u8 y8, .int .u8 y9, .int .u8 y10, .int .u8 y11, .int .u8 y12, .int .u8 y13, .int .u8 y14, .int .u8 y15]) ∧ Ch [] w w') := HT
  have HIP := hid (pfx_inf (p := (six, [y0, y1, y2, y3, y4, y5, y6, y7, y8, y9, y10, y11, y12, y13, y14, y15], (k : Int))) rfl)
  have hk0 : ¬ (k : Int) < 0 := by omega
  have hk1 : ¬ (k : Int) > bitL six := by omega
  generalize bitL six = L at *
  clear hy hg hv
  generalize addrC six bs = cs at *
  go_enter Tryd.func71, Tryd.ntmps71
  go_wp2_with (first
    | (refine wpList_load_want rfl 57 _ rfl w.heap.size 0 rfl cs _ B0.range Tryd.underlying57 rfl HI.out ?_)
    | (go_at_call 57; (with_reducible refine (HV.out _).mono ?_); rintro e wn ⟨rfl, Cn⟩; replace B0 := B0.ch Cn (by simp); replace BP := BP.ch Cn (by simp); replace CC := CC.trans Cn; clear Cn)
    | (go_at_call 58; (with_reducible refine (HB.out _).mono ?_); rintro e wn ⟨rfl, Cn⟩; replace B0 := B0.ch Cn (by simp); replace BP := BP.ch Cn (by simp); replace CC := CC.trans Cn; clear Cn)
    | (go_at_call 59; (with_reducible refine (HT.out _).mono ?_); rintro e wn ⟨rfl, Cn⟩; replace B0 := B0.ch Cn (by simp); replace BP := BP.ch Cn (by simp); replace CC := CC.trans Cn; clear Cn)
    | (refine wpList_storeB rfl 59 _ _ rfl (w.heap.size + 1) 59 (pfxC (false, zeros, 0)) (pfxC (six, [y0, y1, y2, y3, y4, y5, y6, y7, y8, y9, y10, y11, y12, y13, y14, y15], (k : Int))) rfl rfl BP HIP.out rfl (pfx_one _) ?_; intro w5 B5 C5 Z5))
  try simp only [Exit.inBlock, Exit.then]
  refine bodyPost_ret (results_rowF2 rfl _ _ rfl B5 Tryd.underlying59 rfl HIP.out) rfl ?_
  exact ⟨rfl, CC.step C5 (fun i hi => .inr (by simp at hi; omega))⟩

/-! ### the reference: bit after bit -/
theorem clr_byte (b : Int) (hb : 0 ≤ b ∧ b ≤ 255) (r : Nat) (hr : r < 8) : (0 ≤ bits .andNot .u8 b (2 ^ (7 - r)) ∧ bits .andNot .u8 b (2 ^ (7 - r)) ≤ 255) ∧ ∀ j, j < 8 → bits .andNot .u8 b (2 ^ (7 - r)) / 2 ^ (7 - j) % 2 = if j = r then 0 else b / 2 ^ (7 - j) % 2 := by
  have hall : ∀ b : Fin 256, ∀ r : Fin 8, (0 ≤ bits .andNot .u8 (b.val : Int) (2 ^ (7 - r.val)) ∧ bits .andNot .u8 (b.val : Int) (2 ^ (7 - r.val)) ≤ 255) ∧ ∀ j : Fin 8, bits .andNot .u8 (b.val : Int) (2 ^ (7 - r.val)) / 2 ^ (7 - j.val) % 2 = if j.val = r.val then 0 else (b.val : Int) / 2 ^ (7 - j.val) % 2 := by decide +kernel
  obtain ⟨n, rfl⟩ := Int.eq_ofNat_of_zero_le hb.1
  have := hall ⟨n, by omega⟩ ⟨r, hr⟩
  exact ⟨this.1, fun j hj => this.2 ⟨j, hj⟩⟩
theorem at_set (l : List Int) (i j : Nat) (v : Int) (hi : i < l.length) : at_ (l.set i v) j = if j = i then v else at_ l j := by
  unfold at_ List.getD
  rw [List.getElem?_set]
  by_cases h : i = j
  · subst h; simp [hi]
  · simp [h, Ne.symm h]
/-- The bits from m to i are cleared. -/
def Clr (bs cs : List Int) (m i : Nat) : Prop := GoodA cs ∧ ∀ j, j < 128 → bitA cs j = if m ≤ j ∧ j < i then 0 else bitA bs j
theorem Clr.step {bs cs : List Int} {m i : Nat} (h : Clr bs cs m i) (hm : m ≤ i) (hi : i < 128) : Clr bs (cs.set (i / 8) (bits .andNot .u8 (at_ cs (i / 8)) (2 ^ (7 - i % 8)))) m (i + 1) := by
  obtain ⟨hg, hb⟩ := h
  have hq : i / 8 < 16 := by omega
  have hc := clr_byte _ (hg.at hq) (i % 8) (by omega)
  refine ⟨⟨by rw [List.length_set]; exact hg.1, fun x hx => ?_⟩, fun j hj => ?_⟩
  · rcases List.mem_or_eq_of_mem_set hx with h | h
    · exact hg.2 x h
    · rw [h]; exact hc.1
  · unfold bitA
    rw [at_set _ _ _ _ (by rw [hg.1]; exact hq)]
    by_cases hj8 : j / 8 = i / 8
    · rw [if_pos hj8, hc.2 (j % 8) (by omega)]
      by_cases hr : j % 8 = i % 8
      · obtain rfl : j = i := by omega
        rw [if_pos rfl, if_pos ⟨hm, by omega⟩]
      · rw [if_neg hr, ← hj8]
        have := hb j hj
        unfold bitA at this
        rw [this]
        have hne : j ≠ i := fun e => hr (by rw [e])
        by_cases hx : m ≤ j ∧ j < i
        · rw [if_pos hx, if_pos ⟨hx.1, by omega⟩]
        · rw [if_neg hx, if_neg (by omega)]
    · rw [if_neg hj8]
      have := hb j hj
      unfold bitA at this
      rw [this]
      have hne : j ≠ i := fun e => hj8 (by rw [e])
      by_cases hx : m ≤ j ∧ j < i
      · rw [if_pos hx, if_pos ⟨hx.1, by omega⟩]
      · rw [if_neg hx, if_neg (by omega)]
theorem Clr.done {bs cs : List Int} {m : Nat} {six : Bool} (h : Clr bs cs m (bitL six).toNat) (hg : GoodA bs) (hv : validA six bs = true) (hm : (m : Int) ≤ bitL six) : cs = truncL bs m := by
  have hL := bitL_le six
  obtain ⟨hc, hb⟩ := h
  have hz : six = false → ∀ i, 4 ≤ i → i < 16 → at_ bs i = 0 := fun e => by subst e; exact validA_zero hg.1 hv
  have hall : ∀ i, m ≤ i → i < 128 → bitA cs i = 0 := by
    intro i h1 h2
    rw [hb i h2]
    by_cases h3 : (i : Int) < bitL six
    · rw [if_pos ⟨h1, by omega⟩]
    · rw [if_neg (by omega)]
      cases six
      · have h4 : 32 ≤ i := by simp only [bitL, Bool.false_eq_true, if_false] at h3; omega
        unfold bitA
        rw [hz rfl (i / 8) (by omega) (by omega)]
        simp
      · simp only [bitL, if_true] at h3; omega
  have hcut : truncL cs m = cs := (cut_iff cs m 128 hc.1 hc.2 (by omega) (.inl rfl)).2 hall
  refine ((agree_iff cs bs m hc.1 hg.1 hc.2 hg.2 (by omega) hcut).2 fun i hi => ?_).symm
  rw [hb i (by omega), if_neg (by omega)]
set_option maxRecDepth 20000 in
set_option maxHeartbeats 8000000 in
theorem refPfxOf (six : Bool) (bs : List Int) (hg : GoodA bs) (hv : validA six bs = true) (k : Nat) (hk : (k : Int) ≤ bitL six) (w : World) :
    Calls Tryd.prog 68 #[.agg (addrC six bs).toArray, .int .i64 k] w fun e w' => e = .returned (.tuple #[.agg (pfxC (six, truncL bs k, (k : Int))).toArray, .bool true]) ∧ Ch [] w w' := by
  have hL := bitL_le six
  have B0 : Blk ((w.alloc (.cells (addrC six bs).toArray 57)).alloc (.cells #[.bool false, .int .u8 0, .int .u8 0, .int .u8 0, .int .u8 0, .int .u8 0, .int .u8 0, .int .u8 0, .int .u8 0, .int .u8 0, .int .u8 0, .int .u8 0, .int .u8 0, .int .u8 0, .int .u8 0, .int .u8 0, .int .u8 0, .int .i64 0] 59)) w.heap.size 57 (addrC six bs) := (Blk.new w _ _).alloc _
  have BP : Blk ((w.alloc (.cells (addrC six bs).toArray 57)).alloc (.cells #[.bool false, .int .u8 0, .int .u8 0, .int .u8 0, .int .u8 0, .int .u8 0, .int .u8 0, .int .u8 0, .int .u8 0, .int .u8 0, .int .u8 0, .int .u8 0, .int .u8 0, .int .u8 0, .int .u8 0, .int .u8 0, .int .u8 0, .int .i64 0] 59)) (w.heap.size + 1) 59 (pfxC (false, zeros, 0)) := Blk.newAt _ _ _ (by simp)
  have CC : Ch [] w ((w.alloc (.cells (addrC six bs).toArray 57)).alloc (.cells #[.bool false, .int .u8 0, .int .u8 0, .int .u8 0, .int .u8 0, .int .u8 0, .int .u8 0, .int .u8 0, .int .u8 0, .int .u8 0, .int .u8 0, .int .u8 0, .int .u8 0, .int .u8 0, .int .u8 0, .int .u8 0, .int .u8 0, .int .i64 0] 59)) := ((Ch.refl [] w).alloc _).alloc _
  have HV := hid (refValid six bs hg.1)
  rw [hv] at HV
  have HB : Hid (∀ cs w, Calls Tryd.prog 63 #[.agg (addrC six cs).toArray] w fun e w' => e = .returned (.int .i64 (bitL six)) ∧ Ch [] w w') := fun cs => bitLenR six cs
  have HI : Hid (∀ cs, GoodA cs → (Tryd.prog.info? 57).map (·.size) = some (addrC six cs).length) := fun cs h => addr_inf (six := six) h.1
  have H0 : Hid (Clr bs bs k k) := ⟨hg, fun j _ => by rw [if_neg (by omega)]⟩
  have HD : Hid (∀ cs, Clr bs cs k (bitL six).toNat → cs = truncL bs k) := fun cs h => h.done hg hv hk
  have hk0 : ¬ (k : Int) < 0 := by omega
  have hk1 : ¬ (k : Int) > bitL six := by omega
  have hLn : 0 ≤ bitL six := by cases six <;> decide
  have HG := hid hg
  generalize bitL six = L at *
  clear hg hv
  go_enter Tryd.func68, Tryd.ntmps68
  go_wp2_with (first
    | (refine wpList_load_want rfl 57 _ rfl w.heap.size 0 rfl (addrC six bs) _ B0.range Tryd.underlying57 rfl (HI.out _ HG.out) ?_)
    | (go_at_call 62; (with_reducible refine (HV.out _).mono ?_); rintro e wn ⟨rfl, Cn⟩; replace B0 := B0.ch Cn (by simp); replace BP := BP.ch Cn (by simp); replace CC := CC.trans Cn; clear Cn)
    | (go_at_call 63; (with_reducible refine (HB.out _ _).mono ?_); rintro e wn ⟨rfl, Cn⟩; replace B0 := B0.ch Cn (by simp); replace BP := BP.ch Cn (by simp); replace CC := CC.trans Cn; clear Cn))
  go_loopw [6] (fun i wr => ∃ (m : Nat) (cs : List Int), i = .int .i64 m ∧ k ≤ m ∧ (m : Int) ≤ L ∧ Hid (Clr bs cs k m) ∧ Blk wr w.heap.size 57 (addrC six cs) ∧ Blk wr (w.heap.size + 1) 59 (pfxC (false, zeros, 0)) ∧ Ch [] w wr) (fun i _ => (L - intOf i).toNat)
  case atStart => exact ⟨k, bs, rfl, by omega, by omega, H0, B0, BP, CC⟩
  case round =>
    clear B0 BP CC H0
    obtain ⟨m, cs, rfl, hm, hmL, HC, B0, BP, CC⟩ := hrel
    by_cases hlt : (m : Int) < L
    · have HS : Hid (Clr bs (cs.set (m / 8) (bits .andNot .u8 (at_ cs (m / 8)) (2 ^ (7 - m % 8)))) k (m + 1)) := HC.out.step hm (by omega)
      obtain ⟨q, hq⟩ : ∃ q : Nat, m / 8 = q := ⟨_, rfl⟩
      obtain ⟨r, hr⟩ : ∃ r : Nat, m % 8 = r := ⟨_, rfl⟩
      have hqi : (m : Int) / 8 = q := by omega
      have hri : (m : Int) % 8 = r := by omega
      have hq16 : q < 16 := by omega
      have hr8 : r < 8 := by omega
      rw [hq, hr] at HS
      have hgc := HC.out.1
      obtain ⟨x0, x1⟩ := hgc.at hq16
      have HIC := hid (HI.out cs hgc)
      have hcB : ∀ w', Blk w' w.heap.size 57 (addrC six cs) → w'.cell? ⟨w.heap.size, 1 + q, none⟩ = some (.int .u8 (at_ cs q)) := fun w' h => by rw [h.cell, addrC_byte (by rw [hgc.1]; exact hq16)]
      have HCB := hid hcB
      have HST : Hid (∀ w' v, Blk w' w.heap.size 57 (addrC six cs) → Blk (w'.setCell ⟨w.heap.size, 1 + q, none⟩ (.int .u8 v)) w.heap.size 57 (addrC six (cs.set q v))) := fun w' v h => by
        rw [← addr_set]; exact h.set _ _
      clear hcB hgc hq hr
      generalize at_ cs q = x at HCB HS x0 x1
      rcases (show r = 0 ∨ r = 1 ∨ r = 2 ∨ r = 3 ∨ r = 4 ∨ r = 5 ∨ r = 6 ∨ r = 7 by omega) with rfl | rfl | rfl | rfl | rfl | rfl | rfl | rfl
      all_goals
        simp only [Nat.reduceSub, Int.reducePow] at HS
        go_wp2_with (first
          | (refine wpList_load_want rfl 57 _ rfl w.heap.size 0 rfl (addrC six cs) _ B0.range Tryd.underlying57 rfl HIC.out ?_)
          | (go_at_call 63; (with_reducible refine (HB.out _ _).mono ?_); rintro e wn ⟨rfl, Cn⟩; replace B0 := B0.ch Cn (by simp); replace BP := BP.ch Cn (by simp); replace CC := CC.trans Cn; clear Cn; have hcc := HCB.out _ B0; have hff := B0.frozen (1 + q)))
        go_roundw
        case rel => exact ⟨m + 1, _, by go_num, by omega, by omega, HS, HST.out _ _ B0, BP.far (by simp) _, CC.setCell (.inr (Nat.le_refl _)) _⟩
        case measure => simp [intOf]; omega
    · obtain rfl : L = m := by omega
      obtain rfl := HD.out cs (by simpa using HC.out)
      have hgc := HC.out.1
      have HIC := hid (HI.out _ hgc)
      obtain ⟨y0, y1, y2, y3, y4, y5, y6, y7, y8, y9, y10, y11, y12, y13, y14, y15, hy⟩ := len16 hgc.1
      rw [hy] at B0 HIC
      have HY := hid hy
      have HIP := hid (pfx_inf (p := (six, [y0, y1, y2, y3, y4, y5, y6, y7, y8, y9, y10, y11, y12, y13, y14, y15], (k : Int))) rfl)
      have HB2 : Hid (∀ w, Calls Tryd.prog 63 #[.agg #[.bool six, .int .u8 y0, .int .u8 y1, .int .u8 y2, .int .u8 y3, .int .u8 y4, .int .u8 y5, .int .u8 y6, .int .u8 y7, .int .u8 y8, .int .u8 y9, .int .u8 y10, .int .u8 y11, .int .u8 y12, .int .u8 y13, .int .u8 y14, .int .u8 y15]] w fun e w' => e = .returned (.int .i64 m) ∧ Ch [] w w') := HB.out [y0, y1, y2, y3, y4, y5, y6, y7, y8, y9, y10, y11, y12, y13, y14, y15]
      clear hy hgc HC
      go_wp2_with (first
        | (refine wpList_load_want rfl 57 _ rfl w.heap.size 0 rfl [.bool six, .int .u8 y0, .int .u8 y1, .int .u8 y2, .int .u8 y3, .int .u8 y4, .int .u8 y5, .int .u8 y6, .int .u8 y7, .int .u8 y8, .int .u8 y9, .int .u8 y10, .int .u8 y11, .int .u8 y12, .int .u8 y13, .int .u8 y14, .int .u8 y15] _ B0.range Tryd.underlying57 rfl HIC.out ?_)
        | (go_at_call 63; (with_reducible refine (HB2.out _).mono ?_); rintro e wn ⟨rfl, Cn⟩; replace B0 := B0.ch Cn (by simp); replace BP := BP.ch Cn (by simp); replace CC := CC.trans Cn; clear Cn)
        | (refine wpList_storeB rfl 59 _ _ rfl (w.heap.size + 1) 59 (pfxC (false, zeros, 0)) (pfxC (six, [y0, y1, y2, y3, y4, y5, y6, y7, y8, y9, y10, y11, y12, y13, y14, y15], (k : Int))) rfl rfl BP HIP.out rfl (pfx_one _) ?_; intro w5 B5 C5 Z5))
      try simp only [Exit.inBlock, Exit.then]
      refine bodyPost_ret (results_rowF2 rfl _ _ rfl B5 Tryd.underlying59 rfl HIP.out) rfl ?_
      exact ⟨by (rw [HY.out]) <;> rfl, CC.step C5 (fun i hi => .inr (by simp at hi; omega))⟩
end Go.Proofs.YtbmbnibamhgfmaaDoor

/- Links of a trie: where they lie, behind a change. -/
namespace Go.Proofs.YtbmbnibamhgfmaaDoor
open Go.RowKit

section
variable {nd : Tri} {g : Nat} {κ : Key} {la : Addr}
theorem LinkAt.set (hl : LinkAt nd g κ la) (e : Option ND) : LinkAt (nd.set κ e) g κ la := by
  cases hl with
  | root s => exact .root s
  | child κ0 c d hd => exact .child κ0 c d (by rw [Tri.set_other _ _ (fun h => snoc_ne κ0 c h.symm)]; exact hd)
theorem LinkAt.blk {F : List Nat} {N : Nat} (hl : LinkAt nd g κ la) (hg : g ∈ F) (hB : ∀ κ d, nd κ = some d → d.b ∈ F ∨ N < d.b) : la.block ∈ F ∨ N < la.block := by
  cases hl with
  | root s => exact .inl hg
  | child κ0 c d hd => exact hB κ0 d hd
theorem LinkAt.next {six : Bool} {bs : List Int} {k : Nat} {d : ND} (hd : nd (keyA six bs k) = some d) : LinkAt nd g (keyA six bs (k + 1)) ⟨d.b, if bitA bs k == 1 then 21 else 20, none⟩ := by
  rw [keyA_succ]
  exact .child _ _ _ hd
end
section
variable {tn tt : TypeId} {w : World} {g : Nat} {nd : Tri} {n : Int}
theorem TrI.kids (h : TrI tn tt w g nd n) {κ : Key} (hne : κ ≠ []) (hk : nd κ = none) (c : Bool) : nd (κ ++ [c]) = none := by
  cases hc : nd (κ ++ [c]) with
  | none => rfl
  | some d => exact absurd hk (h.par κ c hne (by rw [hc]; simp))
/-- Behind a missing node the path is empty. -/
theorem TrI.past (h : TrI tn tt w g nd n) {six : Bool} {bs : List Int} {k : Nat} (hk : nd (keyA six bs k) = none) : ∀ j, k ≤ j → nd (keyA six bs j) = none := by
  intro j hj
  induction j with
  | zero => obtain rfl : k = 0 := by omega
            exact hk
  | succ j ih =>
    by_cases e : k = j + 1
    · subst e; exact hk
    · rw [keyA_succ]
      exact h.kids (keyA_ne _ _ _) (ih (by omega)) _
/-- A new node at a link. -/
theorem TrI.grow {w3 : World} (h : TrI tn tt w3 g nd n) (ht : tn ≠ tt) {κ : Key} {la : Addr} (hl : LinkAt nd g κ la) (hκ : nd κ = none) (q : Pfx) (z : Value) (hq : OkP q) (hqk : keyP q = κ) (cs : List Value) (hcs : cs = pfxC q ++ [.bool false, z, .pointer none, .pointer none]) (b : Nat) (hb : w3.heap.size = b) :
    TrI tn tt ((w3.alloc (.cells cs.toArray tn)).setCell la (.pointer (some ⟨b, 0, none⟩))) g (nd.set κ (some ⟨b, q, false, z⟩)) n := by
  subst hb
  have hne : κ ≠ [] := by rw [← hqk]; exact keyA_ne _ _ _
  have h2 := h.nil ((Ch.refl [] w3).alloc (.cells cs.toArray tn))
  refine h2.relink ht hl (some ⟨w3.heap.size, q, false, z⟩) (h.kids hne hκ false) (h.kids hne hκ true) fun d hd => ?_
  obtain rfl := Option.some.inj hd
  refine ⟨?_, fun κ' d' h' e => ?_, hq, hqk⟩
  · have := Blk.new w3 tn cs
    rw [hcs] at this ⊢
    exact this
  · have := (h.node κ' d' h').lt
    simp only at e
    omega
end
theorem val_grow {nd : Tri} {κ : Key} {m : Key → Option Value} (h : ∀ κ', nd.val κ' = m κ') (hκ : nd κ = none) (b : Nat) (q : Pfx) (z : Value) : ∀ κ', (nd.set κ (some ⟨b, q, false, z⟩)).val κ' = m κ' := fun κ' => by
  by_cases e : κ' = κ
  · subst e
    rw [Tri.val_set_off, ← h, Tri.val, hκ]
  · rw [Tri.val_set_other _ _ e, h]
theorem val_put {nd : Tri} {κ : Key} {m : Key → Option Value} (h : ∀ κ', nd.val κ' = m κ') (b : Nat) (q : Pfx) (x : Value) : ∀ κ', (nd.set κ (some ⟨b, q, true, x⟩)).val κ' = if κ' = κ then some x else m κ' := fun κ' => by
  by_cases e : κ' = κ
  · subst e
    rw [Tri.val_set_same, if_pos rfl]
  · rw [Tri.val_set_other _ _ e, if_neg e, h]
theorem blk_set {nd : Tri} {κ : Key} {Q : Nat → Prop} (h : ∀ κ d, nd κ = some d → Q d.b) (e : ND) (he : Q e.b) : ∀ κ' d, (nd.set κ (some e)) κ' = some d → Q d.b := fun κ' d hd => by
  by_cases ek : κ' = κ
  · subst ek
    rw [Tri.set_same] at hd
    obtain rfl := Option.some.inj hd
    exact he
  · rw [Tri.set_other _ _ ek] at hd
    exact h κ' d hd
end Go.Proofs.YtbmbnibamhgfmaaDoor

/- The stored nodes along the path of an address: plain. -/
namespace Go.Proofs.YtbmbnibamhgfmaaDoor
open Go.RowKit

def ndOn (o : Option ND) : Option ND := o.bind fun d => if d.pr then some d else none
def pathL (nd : Tri) (six : Bool) (bs : List Int) (k : Nat) : List ND := (List.range k).filterMap fun i => ndOn (nd (keyA six bs i))
def bitN (six : Bool) : Nat := if six then 128 else 32
theorem bitN_eq (six : Bool) : bitL six = (bitN six : Nat) := by cases six <;> rfl
def mchL (nd : Tri) (six : Bool) (bs : List Int) : List ND := if validA six bs then pathL nd six bs (bitN six + 1) else []
theorem pathL_succ (nd : Tri) (six : Bool) (bs : List Int) (k : Nat) : pathL nd six bs (k + 1) = pathL nd six bs k ++ (ndOn (nd (keyA six bs k))).toList := by
  unfold pathL
  rw [List.range_succ, List.filterMap_append]
  cases h : ndOn (nd (keyA six bs k)) <;> simp [h]
theorem pathL_len (nd : Tri) (six : Bool) (bs : List Int) (k : Nat) : (pathL nd six bs k).length ≤ k := by
  unfold pathL
  exact Nat.le_trans (List.length_filterMap_le _ _) (by simp)
theorem pathL_stop {nd : Tri} {six : Bool} {bs : List Int} {k n : Nat} (hkn : k ≤ n) (h : ∀ j, k ≤ j → nd (keyA six bs j) = none) : pathL nd six bs n = pathL nd six bs k := by
  induction n with
  | zero => obtain rfl : k = 0 := by omega
            rfl
  | succ n ih =>
    by_cases e : k = n + 1
    · rw [e]
    · rw [pathL_succ, ih (by omega), h n (by omega)]
      simp [ndOn]
theorem pathL_mem {nd : Tri} {six : Bool} {bs : List Int} {n : Nat} {d : ND} (h : d ∈ pathL nd six bs n) : ∃ k, k < n ∧ nd (keyA six bs k) = some d ∧ d.pr = true := by
  unfold pathL at h
  rw [List.mem_filterMap] at h
  obtain ⟨k, hk, he⟩ := h
  refine ⟨k, by simpa using hk, ?_⟩
  unfold ndOn at he
  cases hc : nd (keyA six bs k) with
  | none => rw [hc] at he; simp at he
  | some e =>
    rw [hc] at he
    simp only [Option.bind_some] at he
    split at he
    · obtain rfl := Option.some.inj he
      exact ⟨rfl, by assumption⟩
    · cases he
theorem mchL_mem {nd : Tri} {six : Bool} {bs : List Int} {d : ND} (h : d ∈ mchL nd six bs) : ∃ k, k ≤ bitN six ∧ nd (keyA six bs k) = some d ∧ d.pr = true := by
  unfold mchL at h
  split at h
  · obtain ⟨k, hk, h2⟩ := pathL_mem h
    exact ⟨k, by omega, h2⟩
  · cases h
def ndPtr (d : ND) : Value := .pointer (some ⟨d.b, 0, none⟩)
theorem ptrV_form (o : Option ND) : ∃ po, ptrV o = .pointer po := by cases o <;> exact ⟨_, rfl⟩
end Go.Proofs.YtbmbnibamhgfmaaDoor

/- A trie by what it stores: a map from keys to values, and a list of blocks. -/
namespace Go.Proofs.YtbmbnibamhgfmaaDoor
open Go.RowKit

abbrev KM := Key → Option Value
structure TrW (tn tt : TypeId) (w : World) (g : Nat) (nd : Tri) (m : KM) (n : Int) (F : List Nat) : Prop where
  t : TrI tn tt w g nd n
  g_in : g ∈ F
  b_in : ∀ κ d, nd κ = some d → d.b ∈ F
  lt : ∀ b ∈ F, b < w.heap.size
  val : ∀ κ, nd.val κ = m κ
def TrF (tn tt : TypeId) (w : World) (g : Nat) (m : KM) (n : Int) (F : List Nat) : Prop := ∃ nd, TrW tn tt w g nd m n F
section
variable {tn tt : TypeId} {w w' : World} {g : Nat} {nd : Tri} {m : KM} {n : Int} {F : List Nat}
theorem TrF.ch {S : List Nat} (h : TrF tn tt w g m n F) (hc : Ch S w w') (hS : ∀ b ∈ F, b ∉ S) : TrF tn tt w' g m n F := by
  obtain ⟨nd, h⟩ := h
  exact ⟨nd, h.t.ch hc (hS _ h.g_in) (fun κ d hd => hS _ (h.b_in κ d hd)), h.g_in, h.b_in, fun b hb => Nat.lt_of_lt_of_le (h.lt b hb) hc.size, h.val⟩
theorem TrF.nil (h : TrF tn tt w g m n F) (hc : Ch [] w w') : TrF tn tt w' g m n F := h.ch hc (by simp)
theorem TrF.lt (h : TrF tn tt w g m n F) : ∀ b ∈ F, b < w.heap.size := by
  obtain ⟨nd, h⟩ := h
  exact h.lt
theorem TrF.drewN (h : TrF tn tt w g m n F) (k : Nat) : TrF tn tt (w.drewN k) g m n F := h.nil ((Ch.refl [] w).drewN k)
def newB (w w' : World) : List Nat := (List.range (w'.heap.size - w.heap.size)).map (· + w.heap.size)
theorem newB_mem {b : Nat} (h1 : w.heap.size ≤ b) (h2 : b < w'.heap.size) : b ∈ newB w w' := by
  unfold newB
  rw [List.mem_map]
  exact ⟨b - w.heap.size, by rw [List.mem_range]; omega, by omega⟩
theorem newB_ge {b : Nat} (h : b ∈ newB w w') : w.heap.size ≤ b ∧ b < w'.heap.size := by
  unfold newB at h
  rw [List.mem_map] at h
  obtain ⟨k, hk, rfl⟩ := h
  rw [List.mem_range] at hk
  omega
/-- Behind a change of the trie's own blocks. -/
theorem TrF.mk' {nd' : Tri} {m' : KM} {n' : Int} (h : TrF tn tt w g m n F) (t : TrI tn tt w' g nd' n') (hv : ∀ κ, nd'.val κ = m' κ) (hc : Ch F w w') (hb : ∀ κ d, nd' κ = some d → d.b ∈ F ∨ w.heap.size ≤ d.b) : TrF tn tt w' g m' n' (F ++ newB w w') := by
  obtain ⟨nd, h⟩ := h
  refine ⟨nd', t, List.mem_append_left _ h.g_in, fun κ d hd => ?_, fun b hb' => ?_, hv⟩
  · rcases hb κ d hd with h1 | h1
    · exact List.mem_append_left _ h1
    · exact List.mem_append_right _ (newB_mem h1 (t.node κ d hd).lt)
  · rcases List.mem_append.1 hb' with h1 | h1
    · exact Nat.lt_of_lt_of_le (h.lt b h1) hc.size
    · exact (newB_ge h1).2
def mset (m : KM) (κ : Key) (v : Value) : KM := fun κ' => if κ' = κ then some v else m κ'
/-- What is stored along the path of an address: the lengths and the values. -/
def mK (m : KM) (six : Bool) (bs : List Int) : List (Nat × Value) := if validA six bs then (List.range (bitN six + 1)).filterMap fun k => (m (keyA six bs k)).map fun x => (k, x) else []
def kPfx (six : Bool) (bs : List Int) (e : Nat × Value) : Pfx := (six, truncL bs e.1, (e.1 : Int))
theorem filterMap_map_congr {α β γ δ : Type} {l : List α} {f : α → Option β} {f' : α → Option γ} {h : β → δ} {h' : γ → δ} (e : ∀ a ∈ l, (f a).map h = (f' a).map h') : (l.filterMap f).map h = (l.filterMap f').map h' := by
  induction l with
  | nil => rfl
  | cons a l ih =>
    have h1 := e a (List.mem_cons_self ..)
    have h2 := ih fun b hb => e b (List.mem_cons_of_mem _ hb)
    cases ha : f a <;> cases hb : f' a <;> rw [ha, hb] at h1 <;> simp_all
theorem TrW.path (h : TrW tn tt w g nd m n F) {six : Bool} {bs : List Int} (hg : GoodA bs) : (mchL nd six bs).map (fun d => (d.q, d.x)) = (mK m six bs).map fun e => (kPfx six bs e, e.2) := by
  unfold mchL mK
  cases hv : validA six bs
  · rfl
  · simp only [if_true]
    unfold pathL
    refine filterMap_map_congr fun k hk => ?_
    have hk' : k ≤ bitN six := by have := List.mem_range.1 hk; omega
    have hkL : (k : Int) ≤ bitL six := by rw [bitN_eq]; omega
    rw [← h.val]
    cases hn : nd (keyA six bs k) with
    | none => simp [ndOn, Tri.val, hn]
    | some d =>
      obtain ⟨hok, hkey⟩ := h.t.good _ _ hn
      have hq : d.q = (six, truncL bs k, (k : Int)) := keyP_inj hok (okP_of hg hv hkL) (by rw [hkey, keyP_of hg hkL])
      obtain ⟨b, q, pr, x⟩ := d
      cases pr
      · simp [ndOn, Tri.val, hn]
      · simp only at hq
        simp [ndOn, Tri.val, hn, kPfx, hq]
theorem TrW.len (h : TrW tn tt w g nd m n F) {six : Bool} {bs : List Int} (hg : GoodA bs) : (mchL nd six bs).length = (mK m six bs).length := by
  have := congrArg List.length (h.path (six := six) hg)
  simpa using this
theorem TrW.flat (h : TrW tn tt w g nd m n F) {six : Bool} {bs : List Int} (hg : GoodA bs) : ((mchL nd six bs).flatMap fun d => pfxC d.q) = (mK m six bs).flatMap fun e => pfxC (kPfx six bs e) := by
  have := congrArg (fun l => l.flatMap fun z : Pfx × Value => pfxC z.1) (h.path (six := six) hg)
  simpa [List.flatMap_map] using this
theorem TrW.none (h : TrW tn tt w g nd m n F) {six : Bool} {bs : List Int} (hg : GoodA bs) (hm : mK m six bs = []) : mchL nd six bs = [] := by
  have := h.len (six := six) hg
  rw [hm] at this
  exact List.eq_nil_of_length_eq_zero this
theorem TrW.last (h : TrW tn tt w g nd m n F) {six : Bool} {bs : List Int} (hg : GoodA bs) {l : List (Nat × Value)} {e : Nat × Value} (hm : mK m six bs = l ++ [e]) : ∃ l' d, mchL nd six bs = l' ++ [d] ∧ d.q = kPfx six bs e ∧ d.x = e.2 := by
  have hp := h.path (six := six) hg
  rw [hm, List.map_append] at hp
  rcases List.eq_nil_or_concat (mchL nd six bs) with h0 | ⟨l', d, h0⟩
  · rw [h0] at hp
    have := congrArg List.length hp
    simp at this
  · rw [h0] at hp
    simp only [List.concat_eq_append, List.map_append, List.map_cons, List.map_nil] at hp
    have := List.append_inj' hp rfl
    refine ⟨l', d, by rw [h0, List.concat_eq_append], ?_, ?_⟩
    · exact (Prod.mk.inj (List.cons.inj this.2).1).1
    · exact (Prod.mk.inj (List.cons.inj this.2).1).2
end
end Go.Proofs.YtbmbnibamhgfmaaDoor

/- The order of prefixes, and a trie's keys in order: plain. -/
namespace Go.Proofs.YtbmbnibamhgfmaaDoor
open Go.RowKit

def cmpB : List Int → List Int → Int
  | a :: l, b :: m => if a < b then -1 else if b < a then 1 else cmpB l m
  | _, _ => 0
def cmpA (s t : Bool) (a b : List Int) : Int := if s = t then cmpB a b else if t then -1 else 1
def cmpP (p q : Pfx) : Int := if cmpA p.1 q.1 p.2.1 q.2.1 ≠ 0 then cmpA p.1 q.1 p.2.1 q.2.1 else if p.2.2 < q.2.2 then -1 else if q.2.2 < p.2.2 then 1 else 0
theorem cmpB_same (a : List Int) : cmpB a a = 0 := by
  induction a with
  | nil => rfl
  | cons x l ih => simp [cmpB, ih]
theorem cmpB_anti (a b : List Int) : cmpB b a = - cmpB a b := by
  induction a generalizing b with
  | nil => cases b <;> rfl
  | cons x l ih =>
    cases b with
    | nil => rfl
    | cons y m =>
      unfold cmpB
      by_cases h1 : x < y
      · rw [if_pos h1, if_neg (by omega), if_pos h1]; rfl
      · by_cases h2 : y < x
        · rw [if_pos h2, if_neg h1, if_pos h2]
        · rw [if_neg h2, if_neg h1, if_neg h1, if_neg h2]; exact ih m
theorem cmpB_rng (a b : List Int) : cmpB a b = -1 ∨ cmpB a b = 0 ∨ cmpB a b = 1 := by
  induction a generalizing b with
  | nil => exact .inr (.inl (by cases b <;> rfl))
  | cons x l ih =>
    cases b with
    | nil => exact .inr (.inl rfl)
    | cons y m =>
      unfold cmpB
      split
      · exact .inl rfl
      · split
        · exact .inr (.inr rfl)
        · exact ih m
theorem cmpB_zero {a b : List Int} (hl : a.length = b.length) (h : cmpB a b = 0) : a = b := by
  induction a generalizing b with
  | nil => cases b with
    | nil => rfl
    | cons _ _ => simp at hl
  | cons x l ih =>
    cases b with
    | nil => simp at hl
    | cons y m =>
      unfold cmpB at h
      split at h
      · omega
      · split at h
        · omega
        · obtain rfl : x = y := by omega
          rw [ih (by simpa using hl) h]
theorem cmpB_trans {a b c : List Int} (hab : a.length = b.length) (hbc : b.length = c.length) (h1 : cmpB a b = -1) (h2 : cmpB b c = -1) : cmpB a c = -1 := by
  induction a generalizing b c with
  | nil => cases b <;> simp [cmpB] at h1
  | cons x l ih =>
    cases b with
    | nil => simp at hab
    | cons y m =>
      cases c with
      | nil => simp at hbc
      | cons z n =>
        simp only [List.length_cons, Nat.add_right_cancel_iff] at hab hbc
        unfold cmpB at h1 h2 ⊢
        by_cases hxy : x < y
        · by_cases hyz : y < z
          · rw [if_pos (by omega)]
          · rw [if_neg hyz] at h2
            by_cases hzy : z < y
            · rw [if_pos hzy] at h2; omega
            · rw [if_pos (by omega)]
        · rw [if_neg hxy] at h1
          by_cases hyx : y < x
          · rw [if_pos hyx] at h1; omega
          · rw [if_neg hyx] at h1
            obtain rfl : x = y := by omega
            by_cases hyz : x < z
            · rw [if_pos hyz]
            · rw [if_neg hyz] at h2 ⊢
              by_cases hzy : z < x
              · rw [if_pos hzy] at h2; omega
              · rw [if_neg hzy] at h2 ⊢
                exact ih hab hbc h1 h2
theorem cmpB_first {a b : List Int} {q : Nat} (ha : q < a.length) (hb : q < b.length) (he : ∀ i, i < q → at_ a i = at_ b i) (hl : at_ a q < at_ b q) : cmpB a b = -1 := by
  induction q generalizing a b with
  | zero =>
    cases a with
    | nil => simp at ha
    | cons x l =>
      cases b with
      | nil => simp at hb
      | cons y m =>
        unfold cmpB
        exact if_pos hl
  | succ q ih =>
    cases a with
    | nil => simp at ha
    | cons x l =>
      cases b with
      | nil => simp at hb
      | cons y m =>
        have h0 := he 0 (by omega)
        have hx : x = y := h0
        unfold cmpB
        rw [if_neg (by omega), if_neg (by omega)]
        exact ih (by simpa using ha) (by simpa using hb) (fun i hi => he (i + 1) (by omega)) hl
theorem byte_eq {x y : Int} (hx : 0 ≤ x ∧ x ≤ 255) (hy : 0 ≤ y ∧ y ≤ 255) (h : ∀ r : Nat, r < 8 → x / 2 ^ (7 - r) % 2 = y / 2 ^ (7 - r) % 2) : x = y := by
  have h0 := h 0 (by omega)
  have h1 := h 1 (by omega)
  have h2 := h 2 (by omega)
  have h3 := h 3 (by omega)
  have h4 := h 4 (by omega)
  have h5 := h 5 (by omega)
  have h6 := h 6 (by omega)
  have h7 := h 7 (by omega)
  simp only [Nat.reduceSub, Int.reducePow, Int.ediv_one] at h0 h1 h2 h3 h4 h5 h6 h7
  omega
theorem byte_lt {x y : Int} (hx : 0 ≤ x ∧ x ≤ 255) (hy : 0 ≤ y ∧ y ≤ 255) (j : Nat) (hj : j < 8) (h : ∀ r : Nat, r < j → x / 2 ^ (7 - r) % 2 = y / 2 ^ (7 - r) % 2) (h0 : x / 2 ^ (7 - j) % 2 = 0) (h1 : y / 2 ^ (7 - j) % 2 = 1) : x < y := by
  rcases (show j = 0 ∨ j = 1 ∨ j = 2 ∨ j = 3 ∨ j = 4 ∨ j = 5 ∨ j = 6 ∨ j = 7 by omega) with rfl | rfl | rfl | rfl | rfl | rfl | rfl | rfl
  · simp only [Nat.reduceSub, Int.reducePow] at h0 h1
    omega
  · have g0 := h 0 (by omega)
    simp only [Nat.reduceSub, Int.reducePow] at h0 h1 g0
    omega
  · have g0 := h 0 (by omega)
    have g1 := h 1 (by omega)
    simp only [Nat.reduceSub, Int.reducePow] at h0 h1 g0 g1
    omega
  · have g0 := h 0 (by omega)
    have g1 := h 1 (by omega)
    have g2 := h 2 (by omega)
    simp only [Nat.reduceSub, Int.reducePow] at h0 h1 g0 g1 g2
    omega
  · have g0 := h 0 (by omega)
    have g1 := h 1 (by omega)
    have g2 := h 2 (by omega)
    have g3 := h 3 (by omega)
    simp only [Nat.reduceSub, Int.reducePow] at h0 h1 g0 g1 g2 g3
    omega
  · have g0 := h 0 (by omega)
    have g1 := h 1 (by omega)
    have g2 := h 2 (by omega)
    have g3 := h 3 (by omega)
    have g4 := h 4 (by omega)
    simp only [Nat.reduceSub, Int.reducePow] at h0 h1 g0 g1 g2 g3 g4
    omega
  · have g0 := h 0 (by omega)
    have g1 := h 1 (by omega)
    have g2 := h 2 (by omega)
    have g3 := h 3 (by omega)
    have g4 := h 4 (by omega)
    have g5 := h 5 (by omega)
    simp only [Nat.reduceSub, Int.reducePow] at h0 h1 g0 g1 g2 g3 g4 g5
    omega
  · have g0 := h 0 (by omega)
    have g1 := h 1 (by omega)
    have g2 := h 2 (by omega)
    have g3 := h 3 (by omega)
    have g4 := h 4 (by omega)
    have g5 := h 5 (by omega)
    have g6 := h 6 (by omega)
    simp only [Nat.reduceSub, Int.reducePow, Int.ediv_one] at h0 h1 g0 g1 g2 g3 g4 g5 g6
    omega
theorem byteBit {a b : List Int} {q : Nat} {n : Nat} (h : ∀ i, i < 8 * q + n → bitA a i = bitA b i) (r : Nat) (hr : r < n) (h8 : r < 8) : at_ a q / 2 ^ (7 - r) % 2 = at_ b q / 2 ^ (7 - r) % 2 := by
  have := h (8 * q + r) (by omega)
  unfold bitA at this
  rw [show (8 * q + r) / 8 = q by omega, show (8 * q + r) % 8 = r by omega] at this
  exact this
/-- The first bit that parts two addresses decides. -/
theorem cmpB_bit {a b : List Int} (ha : GoodA a) (hb : GoodA b) {j : Nat} (hj : j < 128) (he : ∀ i, i < j → bitA a i = bitA b i) (h0 : bitA a j = 0) (h1 : bitA b j = 1) : cmpB a b = -1 := by
  have hq : j / 8 < 16 := by omega
  refine cmpB_first (q := j / 8) (by rw [ha.1]; exact hq) (by rw [hb.1]; exact hq) (fun i hi => ?_) ?_
  · exact byte_eq (ha.at (by omega)) (hb.at (by omega)) fun r hr => byteBit (q := i) (n := 8) (fun k hk => he k (by omega)) r hr hr
  · refine byte_lt (ha.at hq) (hb.at hq) (j % 8) (by omega) (fun r hr => byteBit (q := j / 8) (n := j % 8) (fun k hk => he k (by omega)) r hr (by omega)) ?_ ?_
    · exact h0
    · exact h1
theorem bits_same {a b : List Int} (ha : GoodA a) (hb : GoodA b) (he : ∀ i, i < 128 → bitA a i = bitA b i) : a = b := by
  refine at_ext (by rw [ha.1, hb.1]) fun i hi => ?_
  rw [ha.1] at hi
  exact byte_eq (ha.at hi) (hb.at hi) fun r hr => byteBit (q := i) (n := 8) (fun k hk => he k (by omega)) r hr hr
theorem first_bit {a b : List Int} : (∀ i, i < 128 → bitA a i = bitA b i) ∨ ∃ j, j < 128 ∧ (∀ i, i < j → bitA a i = bitA b i) ∧ bitA a j ≠ bitA b j := by
  have key : ∀ n, (∀ i, i < n → bitA a i = bitA b i) ∨ ∃ j, j < n ∧ (∀ i, i < j → bitA a i = bitA b i) ∧ bitA a j ≠ bitA b j := by
    intro n
    induction n with
    | zero => exact .inl fun i hi => by omega
    | succ n ih =>
      rcases ih with h | ⟨j, hj, h1, h2⟩
      · by_cases e : bitA a n = bitA b n
        · refine .inl fun i hi => ?_
          by_cases hin : i = n
          · rw [hin]; exact e
          · exact h i (by omega)
        · exact .inr ⟨n, by omega, h, e⟩
      · exact .inr ⟨j, by omega, h1, h2⟩
  exact key 128
/-! ### keys -/
def KLt (κ κ' : Key) : Prop := (∃ t, t ≠ [] ∧ κ' = κ ++ t) ∨ ∃ c l l', κ = c ++ false :: l ∧ κ' = c ++ true :: l'
theorem keyA_get (six : Bool) (bs : List Int) (k i : Nat) (hi : i < k) : (keyA six bs k)[i + 1]? = some (bitA bs i == 1) := by
  unfold keyA
  rw [List.getElem?_cons_succ, List.getElem?_map, List.getElem?_range hi]
  rfl
theorem bit_of {a b : List Int} {i : Nat} (h : (bitA a i == 1) = (bitA b i == 1)) : bitA a i = bitA b i := by
  have h1 := bit_rng a i
  have h2 := bit_rng b i
  rcases h1 with h1 | h1 <;> rcases h2 with h2 | h2 <;> simp_all
theorem KLt.cmp {p q : Pfx} (hp : OkP p) (hq : OkP q) (h : KLt (keyP p) (keyP q)) : cmpP p q = -1 := by
  obtain ⟨hpn, hp8⟩ := hp.nat
  obtain ⟨hqn, hq8⟩ := hq.nat
  unfold keyP at h
  unfold cmpP
  rcases h with ⟨t, ht, he⟩ | ⟨c, l, l', h1, h2⟩
  · have hfam : q.1 = p.1 := by unfold keyA at he; exact (List.cons.inj he).1
    have hlen : p.2.2.toNat < q.2.2.toNat := by
      have := congrArg List.length he
      rw [List.length_append, keyA_len, keyA_len] at this
      have := List.length_pos_iff.2 ht
      omega
    have hb : ∀ i, i < p.2.2.toNat → bitA p.2.1 i = bitA q.2.1 i := fun i hi => by
      have := congrArg (fun l => l[i + 1]?) he
      rw [keyA_get _ _ _ _ (by omega), List.getElem?_append_left (by rw [keyA_len]; omega), keyA_get _ _ _ _ hi] at this
      exact (bit_of (Option.some.inj this)).symm
    have hz : ∀ i, p.2.2.toNat ≤ i → i < 128 → bitA p.2.1 i = 0 := (cut_iff p.2.1 p.2.2.toNat 128 hp.g.1 hp.g.2 hp8 (.inl rfl)).1 (by rw [hpn]; exact hp.cut)
    rw [hfam]
    unfold cmpA
    rw [if_pos rfl]
    rcases first_bit (a := p.2.1) (b := q.2.1) with h | ⟨j, hj, h1, h2⟩
    · rw [bits_same hp.g hq.g h, cmpB_same, if_neg (by simp), if_pos (by omega)]
    · have hjp : p.2.2.toNat ≤ j := by
        by_cases h : p.2.2.toNat ≤ j
        · exact h
        · exact absurd (hb j (by omega)) h2
      have hc := cmpB_bit hp.g hq.g hj h1 (hz j hjp hj) (by
        rw [hz j hjp hj] at h2
        rcases bit_rng q.2.1 j with h | h
        · exact absurd h.symm h2
        · exact h)
      rw [hc, if_pos (by decide)]
  · cases c with
    | nil =>
      have hf1 : p.1 = false := by unfold keyA at h1; exact (List.cons.inj h1).1
      have hf2 : q.1 = true := by unfold keyA at h2; exact (List.cons.inj h2).1
      rw [hf1, hf2]
      have hc : cmpA false true p.2.1 q.2.1 = -1 := rfl
      rw [hc, if_pos (by decide)]
    | cons s c =>
      have hf1 : p.1 = s := by unfold keyA at h1; exact (List.cons.inj h1).1
      have hf2 : q.1 = s := by unfold keyA at h2; exact (List.cons.inj h2).1
      rw [hf1, hf2]
      have hn1 : c.length < p.2.2.toNat := by
        have := congrArg List.length h1
        rw [keyA_len] at this
        simp at this
        omega
      have hn2 : c.length < q.2.2.toNat := by
        have := congrArg List.length h2
        rw [keyA_len] at this
        simp at this
        omega
      have hg1 : ∀ i, i < p.2.2.toNat → (s :: c ++ false :: l)[i + 1]? = some (bitA p.2.1 i == 1) := fun i hi => by rw [← h1]; exact keyA_get _ _ _ _ hi
      have hg2 : ∀ i, i < q.2.2.toNat → (s :: c ++ true :: l')[i + 1]? = some (bitA q.2.1 i == 1) := fun i hi => by rw [← h2]; exact keyA_get _ _ _ _ hi
      have hc := cmpB_bit hp.g hq.g (j := c.length) (by omega) (fun i hi => by
        have e1 := hg1 i (by omega)
        have e2 := hg2 i (by omega)
        rw [List.cons_append, List.getElem?_cons_succ, List.getElem?_append_left hi] at e1 e2
        exact bit_of (Option.some.inj (e1.symm.trans e2))) (by
        have e1 := hg1 c.length hn1
        rw [List.cons_append, List.getElem?_cons_succ, List.getElem?_append_right (Nat.le_refl _), Nat.sub_self] at e1
        have := Option.some.inj e1
        rcases bit_rng p.2.1 c.length with h | h
        · exact h
        · rw [h] at this; simp at this) (by
        have e1 := hg2 c.length hn2
        rw [List.cons_append, List.getElem?_cons_succ, List.getElem?_append_right (Nat.le_refl _), Nat.sub_self] at e1
        have := Option.some.inj e1
        rcases bit_rng q.2.1 c.length with h | h
        · rw [h] at this; simp at this
        · exact h)
      unfold cmpA
      rw [if_pos rfl, hc, if_pos (by decide)]
theorem cmpA_anti (s t : Bool) (a b : List Int) : cmpA t s b a = - cmpA s t a b := by
  unfold cmpA
  cases s <;> cases t <;> simp [cmpB_anti a b]
theorem cmpP_anti (p q : Pfx) : cmpP q p = - cmpP p q := by
  unfold cmpP
  rw [cmpA_anti p.1 q.1 p.2.1 q.2.1]
  by_cases h : cmpA p.1 q.1 p.2.1 q.2.1 = 0
  · rw [h]
    simp only [Int.neg_zero, ne_eq, not_true_eq_false, if_false]
    by_cases h1 : p.2.2 < q.2.2
    · rw [if_neg (by omega), if_pos h1, if_pos h1]; rfl
    · by_cases h2 : q.2.2 < p.2.2
      · rw [if_pos h2, if_neg h1, if_pos h2]
      · rw [if_neg h2, if_neg h1, if_neg h1, if_neg h2]; rfl
  · rw [if_pos h, if_pos (by omega)]
theorem cmpP_rng (p q : Pfx) : cmpP p q = -1 ∨ cmpP p q = 0 ∨ cmpP p q = 1 := by
  unfold cmpP
  split
  · unfold cmpA
    split
    · exact cmpB_rng _ _
    · split
      · exact .inl rfl
      · exact .inr (.inr rfl)
  · split
    · exact .inl rfl
    · split
      · exact .inr (.inr rfl)
      · exact .inr (.inl rfl)
theorem cmpP_zero {p q : Pfx} (hp : p.2.1.length = 16) (hq : q.2.1.length = 16) : cmpP p q = 0 ↔ p = q := by
  constructor
  · intro h
    unfold cmpP at h
    split at h
    · rename_i hc
      exact absurd h hc
    · rename_i hc
      have hc' : cmpA p.1 q.1 p.2.1 q.2.1 = 0 := by simpa using hc
      unfold cmpA at hc'
      split at hc'
      · rename_i hs
        have hb := cmpB_zero (by rw [hp, hq]) hc'
        split at h
        · omega
        · split at h
          · omega
          · obtain ⟨a, b, c⟩ := p
            obtain ⟨d, e, f⟩ := q
            simp only at *
            rw [hs, hb, show c = f by omega]
      · split at hc' <;> omega
  · rintro rfl
    unfold cmpP cmpA
    simp [cmpB_same]
theorem cmpP_trans {p q r : Pfx} (hp : p.2.1.length = 16) (hq : q.2.1.length = 16) (hr : r.2.1.length = 16) (h1 : cmpP p q = -1) (h2 : cmpP q r = -1) : cmpP p r = -1 := by
  obtain ⟨a, b, c⟩ := p
  obtain ⟨d, e, f⟩ := q
  obtain ⟨g, h, i⟩ := r
  simp only at hp hq hr
  unfold cmpP cmpA at h1 h2 ⊢
  simp only at h1 h2 ⊢
  have t := @cmpB_trans b e h (by rw [hp, hq]) (by rw [hq, hr])
  have z1 := @cmpB_zero b e (by rw [hp, hq])
  have z2 := @cmpB_zero e h (by rw [hq, hr])
  have r1 := cmpB_rng b e
  have r2 := cmpB_rng e h
  rcases r1 with r1 | r1 | r1 <;> rcases r2 with r2 | r2 | r2
  · rw [r1] at h1; rw [r2] at h2; have t' := t r1 r2; rw [t']
    cases a <;> cases d <;> cases g <;> simp_all
  · obtain rfl := z2 r2
    rw [r1] at h1 ⊢; rw [r2] at h2
    cases a <;> cases d <;> cases g <;> simp_all
  · rw [r1] at h1; rw [r2] at h2
    cases a <;> cases d <;> cases g <;> simp_all
  · obtain rfl := z1 r1
    rw [r1] at h1; rw [r2] at h2 ⊢
    cases a <;> cases d <;> cases g <;> simp_all
  · obtain rfl := z1 r1
    obtain rfl := z2 r2
    rw [r1] at h1 h2 ⊢
    cases a <;> cases d <;> cases g <;> simp_all <;> omega
  · obtain rfl := z1 r1
    rw [r1] at h1; rw [r2] at h2 ⊢
    cases a <;> cases d <;> cases g <;> simp_all
  · rw [r1] at h1; rw [r2] at h2
    cases a <;> cases d <;> cases g <;> simp_all
  · obtain rfl := z2 r2
    rw [r1] at h1 ⊢; rw [r2] at h2
    cases a <;> cases d <;> cases g <;> simp_all
  · rw [r1] at h1; rw [r2] at h2
    cases a <;> cases d <;> cases g <;> simp_all
/-! ### a map's keys in order -/
def preK (m : KM) : Nat → Key → List (Key × Value)
  | 0, _ => []
  | f + 1, κ => ((m κ).map fun v => (κ, v)).toList ++ (preK m f (κ ++ [false]) ++ preK m f (κ ++ [true]))
theorem preK_pre {m : KM} {f : Nat} {κ : Key} {z : Key × Value} (h : z ∈ preK m f κ) : ∃ t, z.1 = κ ++ t := by
  induction f generalizing κ with
  | zero => cases h
  | succ f ih =>
    unfold preK at h
    rw [List.mem_append, List.mem_append] at h
    rcases h with h | h | h
    · cases hm : m κ with
      | none => rw [hm] at h; cases h
      | some v =>
        rw [hm] at h
        obtain rfl : z = (κ, v) := by simpa using h
        exact ⟨[], by simp⟩
    · obtain ⟨t, ht⟩ := ih h
      exact ⟨false :: t, by rw [ht]; simp⟩
    · obtain ⟨t, ht⟩ := ih h
      exact ⟨true :: t, by rw [ht]; simp⟩
theorem preK_mem {m : KM} {f : Nat} {κ : Key} {z : Key × Value} : z ∈ preK m f κ ↔ m z.1 = some z.2 ∧ ∃ t, z.1 = κ ++ t ∧ t.length < f := by
  induction f generalizing κ with
  | zero => simp [preK]
  | succ f ih =>
    unfold preK
    rw [List.mem_append, List.mem_append, ih, ih]
    constructor
    · rintro (h | ⟨h1, t, h2, h3⟩ | ⟨h1, t, h2, h3⟩)
      · cases hm : m κ with
        | none => rw [hm] at h; cases h
        | some v =>
          rw [hm] at h
          obtain rfl : z = (κ, v) := by simpa using h
          exact ⟨hm, [], by simp, by simp⟩
      · exact ⟨h1, false :: t, by rw [h2]; simp, by simp; omega⟩
      · exact ⟨h1, true :: t, by rw [h2]; simp, by simp; omega⟩
    · rintro ⟨h1, t, h2, h3⟩
      cases t with
      | nil =>
        refine .inl ?_
        have : z.1 = κ := by simpa using h2
        rw [← this, h1]
        simp
      | cons c t =>
        refine .inr ?_
        cases c
        · exact .inl ⟨h1, t, by rw [h2]; simp, by simpa using h3⟩
        · exact .inr ⟨h1, t, by rw [h2]; simp, by simpa using h3⟩
theorem preK_sorted (m : KM) (f : Nat) (κ : Key) : (preK m f κ).Pairwise fun a b => KLt a.1 b.1 := by
  induction f generalizing κ with
  | zero => exact List.Pairwise.nil
  | succ f ih =>
    unfold preK
    rw [List.pairwise_append, List.pairwise_append]
    refine ⟨?_, ⟨ih _, ih _, ?_⟩, ?_⟩
    · cases m κ <;> simp
    · intro a ha b hb
      obtain ⟨t, ht⟩ := preK_pre ha
      obtain ⟨u, hu⟩ := preK_pre hb
      exact .inr ⟨κ, t, u, by rw [ht]; simp, by rw [hu]; simp⟩
    · intro a ha b hb
      have h1 : a.1 = κ := by
        cases hm : m κ with
        | none => rw [hm] at ha; cases ha
        | some v => rw [hm] at ha; simp at ha; rw [ha]
      have h2 : ∃ t, t ≠ [] ∧ b.1 = κ ++ t := by
        rcases List.mem_append.1 hb with h | h
        · obtain ⟨t, ht⟩ := preK_pre h
          exact ⟨false :: t, by simp, by rw [ht]; simp⟩
        · obtain ⟨t, ht⟩ := preK_pre h
          exact ⟨true :: t, by simp, by rw [ht]; simp⟩
      obtain ⟨t, h3, h4⟩ := h2
      exact .inl ⟨t, h3, by rw [h4, h1]⟩
/-- Two ordered lists with the same elements are one. -/
theorem sorted_unique {α : Type} {R : α → α → Prop} (hR : ∀ a b, R a b → ¬ R b a) : ∀ {l l' : List α}, l.Pairwise R → l'.Pairwise R → (∀ a, a ∈ l ↔ a ∈ l') → l = l'
  | [], [], _, _, _ => rfl
  | [], b :: m, _, _, h => absurd ((h b).2 (List.mem_cons_self ..)) (by simp)
  | a :: l, [], _, _, h => absurd ((h a).1 (List.mem_cons_self ..)) (by simp)
  | a :: l, b :: m, h1, h2, h => by
    rw [List.pairwise_cons] at h1 h2
    have irr : ∀ a, ¬ R a a := fun a r => hR a a r r
    have hab : a = b := by
      rcases List.mem_cons.1 ((h a).1 (List.mem_cons_self ..)) with e | e
      · exact e
      · rcases List.mem_cons.1 ((h b).2 (List.mem_cons_self ..)) with e' | e'
        · exact e'.symm
        · exact absurd (h2.1 a e) (hR _ _ (h1.1 b e'))
    subst hab
    rw [sorted_unique hR h1.2 h2.2 fun x => ?_]
    constructor
    · intro hx
      rcases List.mem_cons.1 ((h x).1 (List.mem_cons_of_mem _ hx)) with e | e
      · subst e; exact absurd (h1.1 x hx) (irr x)
      · exact e
    · intro hx
      rcases List.mem_cons.1 ((h x).2 (List.mem_cons_of_mem _ hx)) with e | e
      · subst e; exact absurd (h2.1 x hx) (irr x)
      · exact e
/-! ### a sorted list of entries -/
structure Ents (m : KM) (x : List (Pfx × Value)) : Prop where
  ord : x.Pairwise fun a b => cmpP a.1 b.1 = -1
  ok : ∀ e ∈ x, OkP e.1
  mem : ∀ e ∈ x, m (keyP e.1) = some e.2
  all : ∀ κ v, m κ = some v → ∃ e ∈ x, keyP e.1 = κ
theorem Ents.nil : Ents (fun _ => none) [] := ⟨List.Pairwise.nil, by simp, by simp, fun _ _ h => by cases h⟩
def keysOf (m : KM) : List (Key × Value) := preK m 129 [false] ++ preK m 129 [true]
theorem keysOf_sorted (m : KM) : (keysOf m).Pairwise fun a b => KLt a.1 b.1 := by
  unfold keysOf
  rw [List.pairwise_append]
  refine ⟨preK_sorted _ _ _, preK_sorted _ _ _, fun a ha b hb => ?_⟩
  obtain ⟨t, ht⟩ := preK_pre ha
  obtain ⟨u, hu⟩ := preK_pre hb
  exact .inr ⟨[], t, u, by rw [ht]; rfl, by rw [hu]; rfl⟩
theorem keysOf_mem {m : KM} {z : Key × Value} (hl : z.1 ≠ [] ∧ z.1.length ≤ 129) : z ∈ keysOf m ↔ m z.1 = some z.2 := by
  unfold keysOf
  rw [List.mem_append, preK_mem, preK_mem]
  constructor
  · rintro (h | h) <;> exact h.1
  · intro h
    obtain ⟨κ, v⟩ := z
    simp only at hl h ⊢
    cases κ with
    | nil => exact absurd rfl hl.1
    | cons s t =>
      have : t.length < 129 := by have := hl.2; simp at this; omega
      cases s
      · exact .inl ⟨h, t, rfl, this⟩
      · exact .inr ⟨h, t, rfl, this⟩
theorem keyP_len {p : Pfx} (h : OkP p) : keyP p ≠ [] ∧ (keyP p).length ≤ 129 := by
  have := h.nat.2
  exact ⟨keyA_ne _ _ _, by unfold keyP; rw [keyA_len]; omega⟩
/-- The list of the prefixes whose keys are the map's, in order. -/
theorem Ents.keys {m : KM} {x : List (Pfx × Value)} (h : Ents m x) {L : List Pfx} (hL : ∀ p ∈ L, OkP p) (hk : L.map keyP = (keysOf m).map (·.1)) : L = x.map (·.1) := by
  refine sorted_unique (R := fun p q => cmpP p q = -1) (fun a b h1 h2 => by rw [cmpP_anti, h1] at h2; omega) ?_ ?_ ?_
  · have h1 := keysOf_sorted m
    have h2 : (L.map keyP).Pairwise KLt := by rw [hk, List.pairwise_map]; exact h1
    rw [List.pairwise_map] at h2
    refine List.Pairwise.imp_of_mem ?_ h2
    intro a b ha hb hab
    exact hab.cmp (hL a ha) (hL b hb)
  · rw [List.pairwise_map]; exact h.ord
  · intro p
    constructor
    · intro hp
      have h1 : keyP p ∈ (keysOf m).map (·.1) := by rw [← hk]; exact List.mem_map.2 ⟨p, hp, rfl⟩
      obtain ⟨z, hz, e⟩ := List.mem_map.1 h1
      have h2 := (keysOf_mem (m := m) (z := z) (by rw [e]; exact keyP_len (hL p hp))).1 hz
      obtain ⟨e', he', hk'⟩ := h.all _ _ h2
      have : p = e'.1 := keyP_inj (hL p hp) (h.ok e' he') (by rw [hk', e])
      rw [this]
      exact List.mem_map.2 ⟨e', he', rfl⟩
    · intro hp
      obtain ⟨e, he, rfl⟩ := List.mem_map.1 hp
      have h1 := h.mem e he
      have h2 : (keyP e.1, e.2) ∈ keysOf m := (keysOf_mem (keyP_len (h.ok e he))).2 h1
      have h3 : keyP e.1 ∈ L.map keyP := by rw [hk]; exact List.mem_map.2 ⟨_, h2, rfl⟩
      obtain ⟨q, hq, e3⟩ := List.mem_map.1 h3
      rw [← keyP_inj (hL q hq) (h.ok e he) e3]
      exact hq
def putE (x : List (Pfx × Value)) (p : Pfx) (v : Value) : List (Pfx × Value) :=
  match x with
  | [] => [(p, v)]
  | e :: l => if cmpP e.1 p = -1 then e :: putE l p v else if cmpP e.1 p = 0 then (p, v) :: l else (p, v) :: e :: l
theorem putE_mem {x : List (Pfx × Value)} {p : Pfx} {v : Value} (hx : ∀ e ∈ x, e.1.2.1.length = 16) (hp : p.2.1.length = 16) (ho : x.Pairwise fun a b => cmpP a.1 b.1 = -1) (e : Pfx × Value) : e ∈ putE x p v ↔ e = (p, v) ∨ e ∈ x ∧ e.1 ≠ p := by
  induction x with
  | nil => simp [putE]
  | cons a l ih =>
    have ih' := ih (fun e he => hx e (List.mem_cons_of_mem _ he)) (List.pairwise_cons.1 ho).2
    have ha := hx a (List.mem_cons_self ..)
    unfold putE
    by_cases h1 : cmpP a.1 p = -1
    · rw [if_pos h1, List.mem_cons, ih', List.mem_cons]
      have hne : a.1 ≠ p := fun h => by rw [(cmpP_zero ha hp).2 h] at h1; omega
      constructor
      · rintro (rfl | h | ⟨h2, h3⟩)
        · exact .inr ⟨.inl rfl, hne⟩
        · exact .inl h
        · exact .inr ⟨.inr h2, h3⟩
      · rintro (h | ⟨rfl | h2, h3⟩)
        · exact .inr (.inl h)
        · exact .inl rfl
        · exact .inr (.inr ⟨h2, h3⟩)
    · rw [if_neg h1]
      have hrest : ∀ b ∈ l, b.1 ≠ p := fun b hb h => by
        have h2 := (List.pairwise_cons.1 ho).1 b hb
        rw [h] at h2
        exact h1 h2
      by_cases h2 : cmpP a.1 p = 0
      · rw [if_pos h2, List.mem_cons, List.mem_cons]
        have hap := (cmpP_zero ha hp).1 h2
        constructor
        · rintro (h | h)
          · exact .inl h
          · exact .inr ⟨.inr h, hrest e h⟩
        · rintro (h | ⟨rfl | h3, h4⟩)
          · exact .inl h
          · exact absurd hap h4
          · exact .inr h3
      · rw [if_neg h2, List.mem_cons, List.mem_cons]
        have hne : a.1 ≠ p := fun h => h2 ((cmpP_zero ha hp).2 h)
        constructor
        · rintro (h | rfl | h)
          · exact .inl h
          · exact .inr ⟨.inl rfl, hne⟩
          · exact .inr ⟨.inr h, hrest e h⟩
        · rintro (h | ⟨h3, _⟩)
          · exact .inl h
          · exact .inr h3
theorem putE_ord {x : List (Pfx × Value)} {p : Pfx} {v : Value} (hx : ∀ e ∈ x, e.1.2.1.length = 16) (hp : p.2.1.length = 16) (ho : x.Pairwise fun a b => cmpP a.1 b.1 = -1) : (putE x p v).Pairwise fun a b => cmpP a.1 b.1 = -1 := by
  induction x with
  | nil => simp [putE]
  | cons a l ih =>
    have hxl : ∀ e ∈ l, e.1.2.1.length = 16 := fun e he => hx e (List.mem_cons_of_mem _ he)
    have hol := (List.pairwise_cons.1 ho).2
    have ih' := ih hxl hol
    have ha := hx a (List.mem_cons_self ..)
    unfold putE
    by_cases h1 : cmpP a.1 p = -1
    · rw [if_pos h1, List.pairwise_cons]
      refine ⟨fun b hb => ?_, ih'⟩
      rcases (putE_mem hxl hp hol b).1 hb with rfl | ⟨h, _⟩
      · exact h1
      · exact (List.pairwise_cons.1 ho).1 b h
    · rw [if_neg h1]
      by_cases h2 : cmpP a.1 p = 0
      · rw [if_pos h2, List.pairwise_cons]
        have hap := (cmpP_zero ha hp).1 h2
        exact ⟨fun b hb => by rw [← hap]; exact (List.pairwise_cons.1 ho).1 b hb, hol⟩
      · rw [if_neg h2, List.pairwise_cons]
        have h3 : cmpP p a.1 = -1 := by
          have := cmpP_rng a.1 p
          have h4 := cmpP_anti a.1 p
          omega
        refine ⟨fun b hb => ?_, ho⟩
        rcases List.mem_cons.1 hb with rfl | hb
        · exact h3
        · exact cmpP_trans hp ha (hxl b hb) h3 ((List.pairwise_cons.1 ho).1 b hb)
theorem Ents.put {m : KM} {x : List (Pfx × Value)} (h : Ents m x) {p : Pfx} (hp : OkP p) (v : Value) : Ents (mset m (keyP p) v) (putE x p v) := by
  have hx : ∀ e ∈ x, e.1.2.1.length = 16 := fun e he => (h.ok e he).g.1
  have hm := putE_mem hx hp.g.1 h.ord (v := v)
  refine ⟨putE_ord hx hp.g.1 h.ord, fun e he => ?_, fun e he => ?_, fun κ u hu => ?_⟩
  · rcases (hm e).1 he with rfl | ⟨h1, _⟩
    · exact hp
    · exact h.ok e h1
  · rcases (hm e).1 he with rfl | ⟨h1, h2⟩
    · simp [mset]
    · have : keyP e.1 ≠ keyP p := fun hk => h2 (keyP_inj (h.ok e h1) hp hk)
      simp [mset, this, h.mem e h1]
  · by_cases hk : κ = keyP p
    · exact ⟨(p, v), (hm _).2 (.inl rfl), hk.symm⟩
    · simp only [mset, if_neg hk] at hu
      obtain ⟨e, he, hek⟩ := h.all κ u hu
      exact ⟨e, (hm e).2 (.inr ⟨he, fun h2 => hk (by rw [← hek, h2])⟩), hek⟩
theorem Ents.look {m : KM} {x : List (Pfx × Value)} (h : Ents m x) {p : Pfx} (hp : OkP p) : m (keyP p) = none ↔ ∀ e ∈ x, e.1 ≠ p := by
  constructor
  · intro h1 e he h2
    have := h.mem e he
    rw [h2, h1] at this
    cases this
  · intro h1
    cases hm : m (keyP p) with
    | none => rfl
    | some v =>
      obtain ⟨e, he, hk⟩ := h.all _ _ hm
      exact absurd (keyP_inj (h.ok e he) hp hk) (h1 e he)
theorem putE_len {x : List (Pfx × Value)} {p : Pfx} {v : Value} (hx : ∀ e ∈ x, e.1.2.1.length = 16) (hp : p.2.1.length = 16) (ho : x.Pairwise fun a b => cmpP a.1 b.1 = -1) : (putE x p v).length = if (∀ e ∈ x, e.1 ≠ p) then x.length + 1 else x.length := by
  induction x with
  | nil => simp [putE]
  | cons a l ih =>
    have ih' := ih (fun e he => hx e (List.mem_cons_of_mem _ he)) (List.pairwise_cons.1 ho).2
    have ha := hx a (List.mem_cons_self ..)
    unfold putE
    by_cases h1 : cmpP a.1 p = -1
    · have hne : a.1 ≠ p := fun h => by rw [(cmpP_zero ha hp).2 h] at h1; omega
      rw [if_pos h1, List.length_cons, ih']
      by_cases h2 : ∀ e ∈ l, e.1 ≠ p
      · rw [if_pos h2, if_pos (by simpa [hne] using h2)]; simp
      · rw [if_neg h2, if_neg (fun h3 => h2 fun e he => h3 e (List.mem_cons_of_mem _ he))]; simp
    · rw [if_neg h1]
      by_cases h2 : cmpP a.1 p = 0
      · rw [if_pos h2, if_neg (fun h3 => h3 a (List.mem_cons_self ..) ((cmpP_zero ha hp).1 h2))]; simp
      · have hrest : ∀ b ∈ l, b.1 ≠ p := fun b hb h => by
          have h3 := (List.pairwise_cons.1 ho).1 b hb
          rw [h] at h3
          exact h1 h3
        have hne : a.1 ≠ p := fun h => h2 ((cmpP_zero ha hp).2 h)
        rw [if_neg h2, if_pos (by simpa [hne] using hrest)]; simp
theorem Ents.put_len {m : KM} {x : List (Pfx × Value)} (h : Ents m x) {p : Pfx} (hp : OkP p) (v : Value) {n : Int} (hn : n = x.length) : (if m (keyP p) = none then n + 1 else n) = (putE x p v).length := by
  rw [putE_len (fun e he => (h.ok e he).g.1) hp.g.1 h.ord]
  by_cases hm : m (keyP p) = none
  · rw [if_pos hm, if_pos ((h.look hp).1 hm), hn]; simp
  · rw [if_neg hm, if_neg (fun h1 => hm ((h.look hp).2 h1)), hn]
end Go.Proofs.YtbmbnibamhgfmaaDoor

/- What is stored under exactly one prefix; a map without one key: plain. -/
namespace Go.Proofs.YtbmbnibamhgfmaaDoor
open Go.RowKit

def mget (m : KM) (p : Pfx) : Option Value := if validP p then m (keyP p) else none
def mdel (m : KM) (κ : Key) : KM := fun κ' => if κ' = κ then none else m κ'
theorem TrF.glt {tn tt : TypeId} {w : World} {g : Nat} {m : KM} {n : Int} {F : List Nat} (h : TrF tn tt w g m n F) : g < w.heap.size := by
  obtain ⟨nd, W⟩ := h
  exact W.t.root.lt
/-- What Lookup gives. -/
def lookP (six : Bool) (bs : List Int) (l : List (Nat × Value)) : Pfx := match l.getLast? with | none => (false, zeros, 0) | some e => kPfx six bs e
def lookV (z : Value) (l : List (Nat × Value)) : Value := match l.getLast? with | none => z | some e => e.2
theorem mget_ok {m : KM} {p : Pfx} (h : OkP p) : mget m p = m (keyP p) := by unfold mget; rw [h.v, if_pos rfl]
theorem mget_bad {m : KM} {p : Pfx} (h : validP p = false) : mget m p = none := by unfold mget; rw [h]; rfl
theorem Ents.get {m : KM} {x : List (Pfx × Value)} (h : Ents m x) {e : Pfx × Value} (he : e ∈ x) : mget m e.1 = some e.2 := by
  rw [mget_ok (h.ok e he)]; exact h.mem e he
theorem Ents.get_none {m : KM} {x : List (Pfx × Value)} (h : Ents m x) {p : Pfx} (hg : GoodA p.2.1) : mget m p = none ↔ ∀ e ∈ x, e.1 ≠ p := by
  cases hv : validP p with
  | false =>
    rw [mget_bad hv]
    refine ⟨fun _ e he h2 => ?_, fun _ => rfl⟩
    have := (h.ok e he).v
    rw [h2, hv] at this
    cases this
  | true => rw [mget_ok ⟨hg, hv⟩]; exact h.look ⟨hg, hv⟩
/-- One entry is taken out. -/
theorem Ents.del {m : KM} {x y : List (Pfx × Value)} {e : Pfx × Value} (h : Ents m (x ++ e :: y)) : Ents (mdel m (keyP e.1)) (x ++ y) := by
  have ho := h.ord
  rw [List.pairwise_append, List.pairwise_cons] at ho
  have hmem : ∀ e', e' ∈ x ++ y → e' ∈ x ++ e :: y := fun e' he => by
    rcases List.mem_append.1 he with h | h
    · exact List.mem_append_left _ h
    · exact List.mem_append_right _ (List.mem_cons_of_mem _ h)
  have hirr : ∀ p q : Pfx, cmpP p q = -1 → p ≠ q := fun p q h1 h2 => by
    subst h2
    have := cmpP_anti p p
    omega
  have hne : ∀ e', e' ∈ x ++ y → e'.1 ≠ e.1 := fun e' he => by
    rcases List.mem_append.1 he with h | h
    · exact hirr _ _ (ho.2.2 e' h e (List.mem_cons_self ..))
    · exact (hirr _ _ (ho.2.1.1 e' h)).symm
  refine ⟨?_, fun e' he => h.ok e' (hmem e' he), fun e' he => ?_, fun κ v hv => ?_⟩
  · rw [List.pairwise_append]
    exact ⟨ho.1, ho.2.1.2, fun a ha b hb => ho.2.2 a ha b (List.mem_cons_of_mem _ hb)⟩
  · have hk : keyP e'.1 ≠ keyP e.1 := fun hk => hne e' he (keyP_inj (h.ok e' (hmem e' he)) (h.ok e (by simp)) hk)
    simp [mdel, hk, h.mem e' (hmem e' he)]
  · by_cases hk : κ = keyP e.1
    · simp [mdel, hk] at hv
    · simp only [mdel, if_neg hk] at hv
      obtain ⟨e', he, hk'⟩ := h.all κ v hv
      refine ⟨e', ?_, hk'⟩
      rcases List.mem_append.1 he with h2 | h2
      · exact List.mem_append_left _ h2
      · rcases List.mem_cons.1 h2 with h3 | h3
        · subst h3; exact absurd hk'.symm hk
        · exact List.mem_append_right _ h3
/-- A map that holds the two families' whole prefixes alone. -/
theorem mK_root {m : KM} (h : ∀ κ, κ.length ≠ 1 → m κ = none) (six : Bool) (bs : List Int) : mK m six bs = if validA six bs then ((m [six]).map fun v => (0, v)).toList else [] := by
  unfold mK
  congr 1
  rw [List.range_succ_eq_map, List.filterMap_cons]
  have h0 : (List.map Nat.succ (List.range (bitN six))).filterMap (fun k => (m (keyA six bs k)).map fun x => (k, x)) = [] := by
    rw [List.filterMap_eq_nil_iff]
    intro k hk
    obtain ⟨j, _, rfl⟩ := List.mem_map.1 hk
    rw [h _ (by rw [keyA_len]; omega)]
    rfl
  rw [h0]
  have hk : keyA six bs 0 = [six] := rfl
  rw [hk]
  cases m [six] <;> rfl
end Go.Proofs.YtbmbnibamhgfmaaDoor
