/- A trie, plain: keys (the family, then the bits), nodes by key; the prefix of a key. -/
import Derived.Test.YtjpiekljjhgmoaaDoorMC
namespace Go.Proofs.YtjpiekljjhgmoaaDoor
open Go.RowKit

abbrev Key := List Bool
structure ND where
  b : Nat
  q : Pfx
  pr : Bool
  x : Value
abbrev Tri := Key → Option ND
def keyA (six : Bool) (bs : List Int) (k : Nat) : Key := six :: (List.range k).map fun i => bitA bs i == 1
def keyP (p : Pfx) : Key := keyA p.1 p.2.1 p.2.2.toNat
theorem keyA_succ (six : Bool) (bs : List Int) (k : Nat) : keyA six bs (k + 1) = keyA six bs k ++ [bitA bs k == 1] := by simp [keyA, List.range_succ]
theorem keyA_len (six : Bool) (bs : List Int) (k : Nat) : (keyA six bs k).length = k + 1 := by simp [keyA]
theorem keyA_ne (six : Bool) (bs : List Int) (k : Nat) : keyA six bs k ≠ [] := by simp [keyA]
theorem trunc_idem (bs : List Int) (n : Int) : truncL (truncL bs n) n = truncL bs n := by
  refine at_ext (by rw [trunc_len]) fun i hi => ?_
  rw [trunc_len, trunc_len] at hi
  rw [trunc_at _ _ _ (by rw [trunc_len]; exact hi), trunc_at _ _ _ hi, cut_eq, hi_cut]
theorem bits_eq {a b : List Int} {k : Nat} : ((List.range k).map fun i => bitA a i == 1) = ((List.range k).map fun i => bitA b i == 1) ↔ ∀ i, i < k → bitA a i = bitA b i := by
  constructor
  · intro h i hi
    have := congrArg (fun l => l[i]?) h
    simp only [List.getElem?_map, List.getElem?_range hi, Option.map_some, Option.some.injEq] at this
    have h1 := bit_rng a i
    have h2 := bit_rng b i
    rcases h1 with h1 | h1 <;> rcases h2 with h2 | h2 <;> simp_all
  · intro h
    refine List.map_congr_left fun i hi => ?_
    rw [h i (by simpa using hi)]
/-- Two addresses have one key of length n if they are cut to the same prefix. -/
theorem keyA_iff {s t : Bool} {a b : List Int} {n : Nat} (ha : GoodA a) (hb : GoodA b) (hn : n ≤ 128) : keyA s a n = keyA t b n ↔ s = t ∧ truncL a n = truncL b n := by
  have hg := trunc_good hb n
  have hab := agree_iff (truncL b n) a n hg.1 ha.1 hg.2 ha.2 hn (trunc_idem b n)
  have hbb := (agree_iff (truncL b n) b n hg.1 hb.1 hg.2 hb.2 hn (trunc_idem b n)).1 rfl
  unfold keyA
  rw [List.cons.injEq, bits_eq, hab]
  constructor
  · rintro ⟨rfl, h⟩
    exact ⟨rfl, fun i hi => (hbb i hi).trans (h i hi).symm⟩
  · rintro ⟨rfl, h⟩
    exact ⟨rfl, fun i hi => (h i hi).symm.trans (hbb i hi)⟩
theorem keyA_trunc (s : Bool) {a : List Int} {n : Nat} (ha : GoodA a) (hn : n ≤ 128) : keyA s (truncL a n) n = keyA s a n :=
  (keyA_iff (trunc_good ha n) ha hn).2 ⟨rfl, trunc_idem a n⟩
theorem bitL_le (six : Bool) : bitL six ≤ 128 := by cases six <;> decide
structure OkP (p : Pfx) : Prop where
  g : GoodA p.2.1
  v : validP p = true
theorem OkP.rng {p : Pfx} (h : OkP p) : 0 ≤ p.2.2 ∧ p.2.2 ≤ bitL p.1 := by
  have := h.v
  simp only [validP, Bool.and_eq_true, decide_eq_true_eq] at this
  exact ⟨this.1.1.2, this.1.2⟩
theorem OkP.cut {p : Pfx} (h : OkP p) : truncL p.2.1 p.2.2 = p.2.1 := by
  have := h.v
  simp only [validP, Bool.and_eq_true, decide_eq_true_eq] at this
  exact this.2
theorem OkP.va {p : Pfx} (h : OkP p) : validA p.1 p.2.1 = true := by
  have := h.v
  simp only [validP, Bool.and_eq_true, decide_eq_true_eq] at this
  exact this.1.1.1
theorem OkP.nat {p : Pfx} (h : OkP p) : ((p.2.2.toNat : Nat) : Int) = p.2.2 ∧ p.2.2.toNat ≤ 128 := by
  have h1 := h.rng
  have h2 := bitL_le p.1
  omega
/-- A valid prefix is known by its key. -/
theorem keyP_inj {p q : Pfx} (hp : OkP p) (hq : OkP q) (h : keyP p = keyP q) : p = q := by
  have hl : p.2.2.toNat = q.2.2.toNat := by
    have := congrArg List.length h
    rw [keyP, keyP, keyA_len, keyA_len] at this
    omega
  unfold keyP at h
  rw [hl, keyA_iff hp.g hq.g hq.nat.2] at h
  have h3 : p.2.2 = q.2.2 := by rw [← hp.nat.1, ← hq.nat.1, hl]
  have h4 := h.2
  rw [hq.nat.1] at h4
  rw [hq.cut, ← h3, hp.cut] at h4
  obtain ⟨a, b, c⟩ := p
  obtain ⟨d, e, f⟩ := q
  simp only at h h3 h4
  rw [h.1, h3, h4]
theorem trunc_valid {six : Bool} {a : List Int} (ha : GoodA a) (hv : validA six a = true) (n : Int) : validA six (truncL a n) = true := by
  cases six
  · simp only [validA, Bool.false_or, List.all_eq_true, beq_iff_eq] at hv ⊢
    intro x hx
    obtain ⟨i, hi, rfl⟩ := List.getElem_of_mem hx
    rw [List.length_drop, trunc_len, ha.1] at hi
    have h1 : at_ a (4 + i) = 0 := by
      have := hv (at_ a (4 + i)) (by
        have h2 : 4 + i < a.length := by rw [ha.1]; omega
        rw [show at_ a (4 + i) = a[4 + i] by simp [at_, List.getD, h2]]
        rw [show a[4 + i] = (a.drop 4)[i]'(by rw [List.length_drop, ha.1]; omega) by rw [List.getElem_drop]]
        exact List.getElem_mem _)
      exact this
    have h3 : at_ (truncL a n) (4 + i) = 0 := by
      rw [trunc_at _ _ _ (by rw [ha.1]; omega), h1]
      unfold cutB hiB
      simp
    rw [List.getElem_drop]
    rw [← h3]
    simp [at_, List.getD, show 4 + i < (truncL a n).length by rw [trunc_len, ha.1]; omega]
  · rfl
/-- The prefix of length k of a valid address. -/
theorem okP_of {six : Bool} {a : List Int} {k : Nat} (ha : GoodA a) (hv : validA six a = true) (hk : (k : Int) ≤ bitL six) : OkP (six, truncL a k, (k : Int)) :=
  ⟨trunc_good ha k, by
    simp only [validP, Bool.and_eq_true, decide_eq_true_eq]
    exact ⟨⟨⟨trunc_valid ha hv k, by omega⟩, hk⟩, trunc_idem a k⟩⟩
theorem keyP_of {six : Bool} {a : List Int} {k : Nat} (ha : GoodA a) (hk : (k : Int) ≤ bitL six) : keyP (six, truncL a k, (k : Int)) = keyA six a k := by
  have := bitL_le six
  show keyA six (truncL a k) ((k : Int).toNat) = _
  rw [Int.toNat_natCast]
  exact keyA_trunc six ha (by omega)
/-- What is stored under a key. -/
def Tri.val (nd : Tri) (κ : Key) : Option Value := match nd κ with | some ⟨_, _, true, x⟩ => some x | _ => none
def Tri.set (nd : Tri) (κ : Key) (d : Option ND) : Tri := fun κ' => if κ' = κ then d else nd κ'
theorem Tri.set_same (nd : Tri) (κ : Key) (d : Option ND) : nd.set κ d κ = d := by simp [Tri.set]
theorem Tri.set_other (nd : Tri) {κ κ' : Key} (d : Option ND) (h : κ' ≠ κ) : nd.set κ d κ' = nd κ' := by simp [Tri.set, h]
theorem Tri.val_set_same (nd : Tri) (κ : Key) (b : Nat) (q : Pfx) (x : Value) : (nd.set κ (some ⟨b, q, true, x⟩)).val κ = some x := by simp [Tri.val, Tri.set]
theorem Tri.val_set_off (nd : Tri) (κ : Key) (b : Nat) (q : Pfx) (x : Value) : (nd.set κ (some ⟨b, q, false, x⟩)).val κ = none := by simp [Tri.val, Tri.set]
theorem Tri.val_set_other (nd : Tri) {κ κ' : Key} (d : Option ND) (h : κ' ≠ κ) : (nd.set κ d).val κ' = nd.val κ' := by simp [Tri.val, Tri.set, h]
theorem Tri.val_some {nd : Tri} {κ : Key} {x : Value} (h : nd.val κ = some x) : ∃ b q, nd κ = some ⟨b, q, true, x⟩ := by
  unfold Tri.val at h
  split at h
  · rename_i b q x' he
    obtain rfl := Option.some.inj h
    exact ⟨b, q, he⟩
  · cases h
theorem Tri.val_none {nd : Tri} {κ : Key} (h : nd.val κ = none) {d : ND} (hd : nd κ = some d) : d.pr = false := by
  unfold Tri.val at h
  rw [hd] at h
  obtain ⟨b, q, pr, x⟩ := d
  cases pr
  · rfl
  · simp at h
end Go.Proofs.YtjpiekljjhgmoaaDoor
