/- A trie in memory: every node's block by its key. -/
import Derived.Test.YtjpiekljjhgmoaaDoorTrP
import Derived.Test.YtjpiekljjhgmoaaDoorMC
namespace Go.Proofs.YtjpiekljjhgmoaaDoor
open Go.RowKit

def ptrV : Option ND → Value
  | none => .pointer none
  | some d => .pointer (some ⟨d.b, 0, none⟩)
def nodeC (d : ND) (l r : Option ND) : List Value := pfxC d.q ++ [.bool d.pr, d.x, ptrV l, ptrV r]
theorem nodeC_at {d : ND} (h : d.q.2.1.length = 16) (l r : Option ND) (i : Nat) : (nodeC d l r)[18 + i]? = [Value.bool d.pr, d.x, ptrV l, ptrV r][i]? := by
  unfold nodeC
  rw [List.getElem?_append_right (by rw [pfx_len h]; omega), pfx_len h, Nat.add_sub_cancel_left]
theorem nodeC_pfx {d : ND} (l r : Option ND) (j : Nat) (v : Value) (hj : (pfxC d.q)[j]? = some v) : (nodeC d l r)[0 + j]? = some v := by
  unfold nodeC
  rw [Nat.zero_add, List.getElem?_append_left (List.getElem?_eq_some_iff.1 hj).1]
  exact hj
theorem nodeC_set {d : ND} (h : d.q.2.1.length = 16) (l r : Option ND) (i : Nat) (v : Value) : (nodeC d l r).set (18 + i) v = pfxC d.q ++ [Value.bool d.pr, d.x, ptrV l, ptrV r].set i v := by
  unfold nodeC
  rw [List.set_append_right _ _ (by rw [pfx_len h]; omega), pfx_len h, Nat.add_sub_cancel_left]

structure TrI (tn tt : TypeId) (w : World) (g : Nat) (nd : Tri) (n : Int) : Prop where
  root : Blk w g tt [ptrV (nd [false]), ptrV (nd [true]), .int .i64 n]
  node : ∀ κ d, nd κ = some d → Blk w d.b tn (nodeC d (nd (κ ++ [false])) (nd (κ ++ [true])))
  inj : ∀ κ κ' d d', nd κ = some d → nd κ' = some d' → d.b = d'.b → κ = κ'
  good : ∀ κ d, nd κ = some d → OkP d.q ∧ keyP d.q = κ
  par : ∀ κ c, κ ≠ [] → nd (κ ++ [c]) ≠ none → nd κ ≠ none
inductive LinkAt (nd : Tri) (g : Nat) : Key → Addr → Prop
  | root (s : Bool) : LinkAt nd g [s] ⟨g, if s then 1 else 0, none⟩
  | child (κ : Key) (c : Bool) (d : ND) (h : nd κ = some d) : LinkAt nd g (κ ++ [c]) ⟨d.b, if c then 21 else 20, none⟩
section
variable {tn tt : TypeId} {w w' : World} {g : Nat} {nd : Tri} {n : Int}
theorem TrI.l16 (h : TrI tn tt w g nd n) {κ : Key} {d : ND} (hd : nd κ = some d) : d.q.2.1.length = 16 := (h.good κ d hd).1.g.1
theorem TrI.key (h : TrI tn tt w g nd n) {κ : Key} {d : ND} (hd : nd κ = some d) : κ ≠ [] := by
  rw [← (h.good κ d hd).2]; exact keyA_ne _ _ _
theorem TrI.ne (h : TrI tn tt w g nd n) (ht : tn ≠ tt) {κ : Key} {d : ND} (hd : nd κ = some d) : d.b ≠ g := (h.node κ d hd).ne h.root ht
theorem TrI.ch {S : List Nat} (h : TrI tn tt w g nd n) (hc : Ch S w w') (hg : g ∉ S) (hb : ∀ κ d, nd κ = some d → d.b ∉ S) : TrI tn tt w' g nd n :=
  ⟨h.root.ch hc hg, fun κ d hd => (h.node κ d hd).ch hc (hb κ d hd), h.inj, h.good, h.par⟩
theorem TrI.nil (h : TrI tn tt w g nd n) (hc : Ch [] w w') : TrI tn tt w' g nd n := h.ch hc (by simp) (by simp)
theorem snoc_ne {α : Type} (l : List α) (a : α) : l ++ [a] ≠ l := fun h => by
  have := congrArg List.length h
  simp at this
theorem snoc_inj {α : Type} {l l' : List α} {a a' : α} (h : l ++ [a] = l' ++ [a']) : l = l' ∧ a = a' := by
  have := List.append_inj' h rfl
  exact ⟨this.1, by simpa using this.2⟩
theorem LinkAt.cell (h : TrI tn tt w g nd n) {κ : Key} {la : Addr} (hl : LinkAt nd g κ la) : w.cell? la = some (ptrV (nd κ)) := by
  cases hl with
  | root s => cases s <;> exact h.root.cell _
  | child κ c d hd =>
    have hB := h.node κ d hd
    cases c
    · exact (hB.cell 20).trans (nodeC_at (h.l16 hd) _ _ 2)
    · exact (hB.cell 21).trans (nodeC_at (h.l16 hd) _ _ 3)
theorem LinkAt.frozen (h : TrI tn tt w g nd n) {κ : Key} {la : Addr} (hl : LinkAt nd g κ la) : w.frozen? la = false := by
  cases hl with
  | root s => exact h.root.frozen _
  | child κ c d hd => exact (h.node κ d hd).frozen _
/-- A link is stored into: to a new node without children, or to nil where the node had none. -/
theorem TrI.relink (h : TrI tn tt w g nd n) (ht : tn ≠ tt) {κ : Key} {la : Addr} (hl : LinkAt nd g κ la) (e : Option ND) (hk0 : nd (κ ++ [false]) = none) (hk1 : nd (κ ++ [true]) = none)
    (he : ∀ d, e = some d → Blk w d.b tn (nodeC d none none) ∧ (∀ κ' d', nd κ' = some d' → d'.b ≠ d.b) ∧ OkP d.q ∧ keyP d.q = κ) :
    TrI tn tt (w.setCell la (ptrV e)) g (nd.set κ e) n := by
  have hkids : ∀ c, nd (κ ++ [c]) = none := fun c => by cases c <;> assumption
  have hkne : κ ≠ [] := by cases hl <;> simp
  have hkc : ∀ c, (nd.set κ e) (κ ++ [c]) = none := fun c => by rw [Tri.set_other _ _ (snoc_ne κ c)]; exact hkids c
  have hroot : Blk (w.setCell la (ptrV e)) g tt [ptrV ((nd.set κ e) [false]), ptrV ((nd.set κ e) [true]), .int .i64 n] := by
    cases hl with
    | root s =>
      cases s
      · have := h.root.set 0 (ptrV e)
        simpa [Tri.set] using this
      · have := h.root.set 1 (ptrV e)
        simpa [Tri.set] using this
    | child κ c d hd =>
      have hk := h.key hd
      have hn : ∀ s : Bool, ([s] : Key) ≠ κ ++ [c] := fun s he => hk (by
        have := congrArg List.length he
        simp at this
        exact this)
      rw [Tri.set_other _ _ (hn false), Tri.set_other _ _ (hn true)]
      exact h.root.far (by simpa using fun e => h.ne ht hd e.symm) _
  have hnode : ∀ κ' d', (nd.set κ e) κ' = some d' → Blk (w.setCell la (ptrV e)) d'.b tn (nodeC d' ((nd.set κ e) (κ' ++ [false])) ((nd.set κ e) (κ' ++ [true]))) := by
    intro κ' d' hd'
    by_cases hk : κ' = κ
    · subst hk
      rw [Tri.set_same] at hd'
      rw [hkc, hkc]
      obtain ⟨h1, h2, _, _⟩ := he d' hd'
      refine h1.far ?_ _
      cases hl with
      | root s => exact (h1.ne h.root ht)
      | child κ c d hd => exact fun e => h2 _ _ hd e.symm
    · rw [Tri.set_other _ _ hk] at hd'
      have hk' := h.key hd'
      cases hl with
      | root s =>
        have hn : ∀ c : Bool, κ' ++ [c] ≠ [s] := fun c he => hk' (by
          have := congrArg List.length he
          simp at this
          exact this)
        rw [Tri.set_other _ _ (hn false), Tri.set_other _ _ (hn true)]
        exact (h.node κ' d' hd').far (h.ne ht hd') _
      | child κ0 c d0 hd0 =>
        by_cases hp : κ' = κ0
        · subst hp
          obtain rfl : d' = d0 := by rw [hd0] at hd'; exact (Option.some.inj hd').symm
          have hB := h.node _ _ hd0
          cases c
          · have := hB.set 20 (ptrV e)
            rw [show (20 : Nat) = 18 + 2 from rfl, nodeC_set (h.l16 hd0)] at this
            rw [Tri.set_same, Tri.set_other _ _ (show κ' ++ [true] ≠ κ' ++ [false] by simp)]
            exact this
          · have := hB.set 21 (ptrV e)
            rw [show (21 : Nat) = 18 + 3 from rfl, nodeC_set (h.l16 hd0)] at this
            rw [Tri.set_same, Tri.set_other _ _ (show κ' ++ [false] ≠ κ' ++ [true] by simp)]
            exact this
        · have hn : ∀ c' : Bool, κ' ++ [c'] ≠ κ0 ++ [c] := fun c' he => hp (snoc_inj he).1
          rw [Tri.set_other _ _ (hn false), Tri.set_other _ _ (hn true)]
          exact (h.node κ' d' hd').far (fun e => hp (h.inj _ _ _ _ hd' hd0 e)) _
  refine ⟨hroot, hnode, ?_, ?_, ?_⟩
  · intro κ1 κ2 d1 d2 h1 h2 hb
    by_cases k1 : κ1 = κ <;> by_cases k2 : κ2 = κ
    · rw [k1, k2]
    · subst k1
      rw [Tri.set_same] at h1
      rw [Tri.set_other _ _ k2] at h2
      exact absurd hb.symm ((he d1 h1).2.1 _ _ h2)
    · subst k2
      rw [Tri.set_same] at h2
      rw [Tri.set_other _ _ k1] at h1
      exact absurd hb ((he d2 h2).2.1 _ _ h1)
    · rw [Tri.set_other _ _ k1] at h1
      rw [Tri.set_other _ _ k2] at h2
      exact h.inj _ _ _ _ h1 h2 hb
  · intro κ' d' hd'
    by_cases hk : κ' = κ
    · subst hk
      rw [Tri.set_same] at hd'
      exact (he d' hd').2.2
    · rw [Tri.set_other _ _ hk] at hd'
      exact h.good _ _ hd'
  · intro κ' c' hne hs
    by_cases hk : κ' = κ
    · subst hk
      exact absurd (hkc c') hs
    · rw [Tri.set_other _ _ hk]
      by_cases hp : κ' ++ [c'] = κ
      · cases hl with
        | root s =>
          have := congrArg List.length hp
          simp at this
          exact absurd this hne
        | child κ0 c d0 hd0 =>
          rw [(snoc_inj hp).1, hd0]
          simp
      · rw [Tri.set_other _ _ hp] at hs
        exact h.par _ _ hne hs
/-- A node's mark and value are stored. -/
theorem TrI.put (h : TrI tn tt w g nd n) (ht : tn ≠ tt) {κ : Key} {d : ND} (hd : nd κ = some d) (pr : Bool) (x : Value) :
    TrI tn tt ((w.setCell ⟨d.b, 18, none⟩ (.bool pr)).setCell ⟨d.b, 19, none⟩ x) g (nd.set κ (some { d with pr := pr, x := x })) n := by
  have hsome : ∀ κ', (nd.set κ (some { d with pr := pr, x := x })) κ' = none ↔ nd κ' = none := fun κ' => by
    by_cases hk : κ' = κ
    · subst hk; rw [Tri.set_same, hd]; simp
    · rw [Tri.set_other _ _ hk]
  have hptr : ∀ κ', ptrV ((nd.set κ (some { d with pr := pr, x := x })) κ') = ptrV (nd κ') := fun κ' => by
    by_cases hk : κ' = κ
    · subst hk; rw [Tri.set_same, hd]; rfl
    · rw [Tri.set_other _ _ hk]
  have hnc : ∀ d' κ', nodeC d' ((nd.set κ (some { d with pr := pr, x := x })) (κ' ++ [false])) ((nd.set κ (some { d with pr := pr, x := x })) (κ' ++ [true])) = nodeC d' (nd (κ' ++ [false])) (nd (κ' ++ [true])) := fun d' κ' => by
    unfold nodeC; rw [hptr, hptr]
  have hgd := h.ne ht hd
  refine ⟨?_, ?_, ?_, ?_, ?_⟩
  · rw [hptr, hptr]
    exact (h.root.far (by simpa using hgd.symm) _).far (by simpa using hgd.symm) _
  · intro κ' d' hd'
    rw [hnc]
    by_cases hk : κ' = κ
    · subst hk
      rw [Tri.set_same] at hd'
      obtain rfl := Option.some.inj hd'
      have := ((h.node _ _ hd).set 18 (.bool pr)).set 19 x
      rw [show (18 : Nat) = 18 + 0 from rfl, nodeC_set (h.l16 hd), show (19 : Nat) = 18 + 1 from rfl] at this
      have e := nodeC_set (d := { d with pr := pr }) (show d.q.2.1.length = 16 from h.l16 hd) (nd (κ' ++ [false])) (nd (κ' ++ [true])) 1 x
      unfold nodeC at e
      simp only [List.set_cons_zero] at this
      rw [e] at this
      exact this
    · rw [Tri.set_other _ _ hk] at hd'
      have hb : d'.b ≠ d.b := fun e => hk (h.inj _ _ _ _ hd' hd e)
      exact ((h.node _ _ hd').far hb _).far hb _
  · intro κ1 κ2 d1 d2 h1 h2 hb
    have key : ∀ κ' d', (nd.set κ (some { d with pr := pr, x := x })) κ' = some d' → ∃ d0, nd κ' = some d0 ∧ d0.b = d'.b := fun κ' d' hd' => by
      by_cases hk : κ' = κ
      · subst hk
        rw [Tri.set_same] at hd'
        obtain rfl := Option.some.inj hd'
        exact ⟨d, hd, rfl⟩
      · rw [Tri.set_other _ _ hk] at hd'
        exact ⟨d', hd', rfl⟩
    obtain ⟨a, ha, ea⟩ := key _ _ h1
    obtain ⟨b, hb', eb⟩ := key _ _ h2
    exact h.inj _ _ _ _ ha hb' (by rw [ea, eb, hb])
  · intro κ' d' hd'
    by_cases hk : κ' = κ
    · subst hk
      rw [Tri.set_same] at hd'
      obtain rfl := Option.some.inj hd'
      exact (h.good _ _ hd : OkP d.q ∧ keyP d.q = κ')
    · rw [Tri.set_other _ _ hk] at hd'
      exact h.good _ _ hd'
  · intro κ' c' hne hs
    rw [Ne, hsome] at hs ⊢
    exact h.par _ _ hne hs
/-- The count is stored. -/
theorem TrI.count (h : TrI tn tt w g nd n) (ht : tn ≠ tt) (m : Int) : TrI tn tt (w.setCell ⟨g, 2, none⟩ (.int .i64 m)) g nd m :=
  ⟨h.root.set 2 _, fun κ d hd => (h.node κ d hd).far (h.ne ht hd) _, h.inj, h.good, h.par⟩
end
end Go.Proofs.YtjpiekljjhgmoaaDoor
