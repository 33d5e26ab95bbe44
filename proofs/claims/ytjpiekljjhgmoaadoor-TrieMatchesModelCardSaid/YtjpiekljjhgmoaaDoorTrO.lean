/- The order of prefixes, and a trie's keys in order: plain. -/
import Derived.Test.YtjpiekljjhgmoaaDoorTrF
namespace Go.Proofs.YtjpiekljjhgmoaaDoor
open Go.RowKit

def cmpB : List Int → List Int → Int
  | a :: l, b :: m => if a < b then -1 else if b < a then 1 else cmpB l m
  | _, _ => 0
def cmpA (s t : Bool) (a b : List Int) : Int := if s = t then cmpB a b else if t then -1 else 1
def cmpP (p q : Pfx) : Int := if cmpA p.1 q.1 p.2.1 q.2.1 ≠ 0 then cmpA p.1 q.1 p.2.1 q.2.1 else if p.2.2 < q.2.2 then -1 else if q.2.2 < p.2.2 then 1 else 0
theorem cmpB_same (a : List Int) : cmpB a a = 0 := by
  induction a with
  | nil => rfl
  | cons x l ih => simp [cmpB, ih]
theorem cmpB_anti (a b : List Int) : cmpB b a = - cmpB a b := by
  induction a generalizing b with
  | nil => cases b <;> rfl
  | cons x l ih =>
    cases b with
    | nil => rfl
    | cons y m =>
      unfold cmpB
      by_cases h1 : x < y
      · rw [if_pos h1, if_neg (by omega), if_pos h1]; rfl
      · by_cases h2 : y < x
        · rw [if_pos h2, if_neg h1, if_pos h2]
        · rw [if_neg h2, if_neg h1, if_neg h1, if_neg h2]; exact ih m
theorem cmpB_rng (a b : List Int) : cmpB a b = -1 ∨ cmpB a b = 0 ∨ cmpB a b = 1 := by
  induction a generalizing b with
  | nil => exact .inr (.inl (by cases b <;> rfl))
  | cons x l ih =>
    cases b with
    | nil => exact .inr (.inl rfl)
    | cons y m =>
      unfold cmpB
      split
      · exact .inl rfl
      · split
        · exact .inr (.inr rfl)
        · exact ih m
theorem cmpB_zero {a b : List Int} (hl : a.length = b.length) (h : cmpB a b = 0) : a = b := by
  induction a generalizing b with
  | nil => cases b with
    | nil => rfl
    | cons _ _ => simp at hl
  | cons x l ih =>
    cases b with
    | nil => simp at hl
    | cons y m =>
      unfold cmpB at h
      split at h
      · omega
      · split at h
        · omega
        · obtain rfl : x = y := by omega
          rw [ih (by simpa using hl) h]
theorem cmpB_trans {a b c : List Int} (hab : a.length = b.length) (hbc : b.length = c.length) (h1 : cmpB a b = -1) (h2 : cmpB b c = -1) : cmpB a c = -1 := by
  induction a generalizing b c with
  | nil => cases b <;> simp [cmpB] at h1
  | cons x l ih =>
    cases b with
    | nil => simp at hab
    | cons y m =>
      cases c with
      | nil => simp at hbc
      | cons z n =>
        simp only [List.length_cons, Nat.add_right_cancel_iff] at hab hbc
        unfold cmpB at h1 h2 ⊢
        by_cases hxy : x < y
        · by_cases hyz : y < z
          · rw [if_pos (by omega)]
          · rw [if_neg hyz] at h2
            by_cases hzy : z < y
            · rw [if_pos hzy] at h2; omega
            · rw [if_pos (by omega)]
        · rw [if_neg hxy] at h1
          by_cases hyx : y < x
          · rw [if_pos hyx] at h1; omega
          · rw [if_neg hyx] at h1
            obtain rfl : x = y := by omega
            by_cases hyz : x < z
            · rw [if_pos hyz]
            · rw [if_neg hyz] at h2 ⊢
              by_cases hzy : z < x
              · rw [if_pos hzy] at h2; omega
              · rw [if_neg hzy] at h2 ⊢
                exact ih hab hbc h1 h2
theorem cmpB_first {a b : List Int} {q : Nat} (ha : q < a.length) (hb : q < b.length) (he : ∀ i, i < q → at_ a i = at_ b i) (hl : at_ a q < at_ b q) : cmpB a b = -1 := by
  induction q generalizing a b with
  | zero =>
    cases a with
    | nil => simp at ha
    | cons x l =>
      cases b with
      | nil => simp at hb
      | cons y m =>
        unfold cmpB
        exact if_pos hl
  | succ q ih =>
    cases a with
    | nil => simp at ha
    | cons x l =>
      cases b with
      | nil => simp at hb
      | cons y m =>
        have h0 := he 0 (by omega)
        have hx : x = y := h0
        unfold cmpB
        rw [if_neg (by omega), if_neg (by omega)]
        exact ih (by simpa using ha) (by simpa using hb) (fun i hi => he (i + 1) (by omega)) hl
theorem byte_eq {x y : Int} (hx : 0 ≤ x ∧ x ≤ 255) (hy : 0 ≤ y ∧ y ≤ 255) (h : ∀ r : Nat, r < 8 → x / 2 ^ (7 - r) % 2 = y / 2 ^ (7 - r) % 2) : x = y := by
  have h0 := h 0 (by omega)
  have h1 := h 1 (by omega)
  have h2 := h 2 (by omega)
  have h3 := h 3 (by omega)
  have h4 := h 4 (by omega)
  have h5 := h 5 (by omega)
  have h6 := h 6 (by omega)
  have h7 := h 7 (by omega)
  simp only [Nat.reduceSub, Int.reducePow, Int.ediv_one] at h0 h1 h2 h3 h4 h5 h6 h7
  omega
theorem byte_lt {x y : Int} (hx : 0 ≤ x ∧ x ≤ 255) (hy : 0 ≤ y ∧ y ≤ 255) (j : Nat) (hj : j < 8) (h : ∀ r : Nat, r < j → x / 2 ^ (7 - r) % 2 = y / 2 ^ (7 - r) % 2) (h0 : x / 2 ^ (7 - j) % 2 = 0) (h1 : y / 2 ^ (7 - j) % 2 = 1) : x < y := by
  rcases (show j = 0 ∨ j = 1 ∨ j = 2 ∨ j = 3 ∨ j = 4 ∨ j = 5 ∨ j = 6 ∨ j = 7 by omega) with rfl | rfl | rfl | rfl | rfl | rfl | rfl | rfl
  · simp only [Nat.reduceSub, Int.reducePow] at h0 h1
    omega
  · have g0 := h 0 (by omega)
    simp only [Nat.reduceSub, Int.reducePow] at h0 h1 g0
    omega
  · have g0 := h 0 (by omega)
    have g1 := h 1 (by omega)
    simp only [Nat.reduceSub, Int.reducePow] at h0 h1 g0 g1
    omega
  · have g0 := h 0 (by omega)
    have g1 := h 1 (by omega)
    have g2 := h 2 (by omega)
    simp only [Nat.reduceSub, Int.reducePow] at h0 h1 g0 g1 g2
    omega
  · have g0 := h 0 (by omega)
    have g1 := h 1 (by omega)
    have g2 := h 2 (by omega)
    have g3 := h 3 (by omega)
    simp only [Nat.reduceSub, Int.reducePow] at h0 h1 g0 g1 g2 g3
    omega
  · have g0 := h 0 (by omega)
    have g1 := h 1 (by omega)
    have g2 := h 2 (by omega)
    have g3 := h 3 (by omega)
    have g4 := h 4 (by omega)
    simp only [Nat.reduceSub, Int.reducePow] at h0 h1 g0 g1 g2 g3 g4
    omega
  · have g0 := h 0 (by omega)
    have g1 := h 1 (by omega)
    have g2 := h 2 (by omega)
    have g3 := h 3 (by omega)
    have g4 := h 4 (by omega)
    have g5 := h 5 (by omega)
    simp only [Nat.reduceSub, Int.reducePow] at h0 h1 g0 g1 g2 g3 g4 g5
    omega
  · have g0 := h 0 (by omega)
    have g1 := h 1 (by omega)
    have g2 := h 2 (by omega)
    have g3 := h 3 (by omega)
    have g4 := h 4 (by omega)
    have g5 := h 5 (by omega)
    have g6 := h 6 (by omega)
    simp only [Nat.reduceSub, Int.reducePow, Int.ediv_one] at h0 h1 g0 g1 g2 g3 g4 g5 g6
    omega
theorem byteBit {a b : List Int} {q : Nat} {n : Nat} (h : ∀ i, i < 8 * q + n → bitA a i = bitA b i) (r : Nat) (hr : r < n) (h8 : r < 8) : at_ a q / 2 ^ (7 - r) % 2 = at_ b q / 2 ^ (7 - r) % 2 := by
  have := h (8 * q + r) (by omega)
  unfold bitA at this
  rw [show (8 * q + r) / 8 = q by omega, show (8 * q + r) % 8 = r by omega] at this
  exact this
/-- The first bit that parts two addresses decides. -/
theorem cmpB_bit {a b : List Int} (ha : GoodA a) (hb : GoodA b) {j : Nat} (hj : j < 128) (he : ∀ i, i < j → bitA a i = bitA b i) (h0 : bitA a j = 0) (h1 : bitA b j = 1) : cmpB a b = -1 := by
  have hq : j / 8 < 16 := by omega
  refine cmpB_first (q := j / 8) (by rw [ha.1]; exact hq) (by rw [hb.1]; exact hq) (fun i hi => ?_) ?_
  · exact byte_eq (ha.at (by omega)) (hb.at (by omega)) fun r hr => byteBit (q := i) (n := 8) (fun k hk => he k (by omega)) r hr hr
  · refine byte_lt (ha.at hq) (hb.at hq) (j % 8) (by omega) (fun r hr => byteBit (q := j / 8) (n := j % 8) (fun k hk => he k (by omega)) r hr (by omega)) ?_ ?_
    · exact h0
    · exact h1
theorem bits_same {a b : List Int} (ha : GoodA a) (hb : GoodA b) (he : ∀ i, i < 128 → bitA a i = bitA b i) : a = b := by
  refine at_ext (by rw [ha.1, hb.1]) fun i hi => ?_
  rw [ha.1] at hi
  exact byte_eq (ha.at hi) (hb.at hi) fun r hr => byteBit (q := i) (n := 8) (fun k hk => he k (by omega)) r hr hr
theorem first_bit {a b : List Int} : (∀ i, i < 128 → bitA a i = bitA b i) ∨ ∃ j, j < 128 ∧ (∀ i, i < j → bitA a i = bitA b i) ∧ bitA a j ≠ bitA b j := by
  have key : ∀ n, (∀ i, i < n → bitA a i = bitA b i) ∨ ∃ j, j < n ∧ (∀ i, i < j → bitA a i = bitA b i) ∧ bitA a j ≠ bitA b j := by
    intro n
    induction n with
    | zero => exact .inl fun i hi => by omega
    | succ n ih =>
      rcases ih with h | ⟨j, hj, h1, h2⟩
      · by_cases e : bitA a n = bitA b n
        · refine .inl fun i hi => ?_
          by_cases hin : i = n
          · rw [hin]; exact e
          · exact h i (by omega)
        · exact .inr ⟨n, by omega, h, e⟩
      · exact .inr ⟨j, by omega, h1, h2⟩
  exact key 128
/-! ### keys -/
def KLt (κ κ' : Key) : Prop := (∃ t, t ≠ [] ∧ κ' = κ ++ t) ∨ ∃ c l l', κ = c ++ false :: l ∧ κ' = c ++ true :: l'
theorem keyA_get (six : Bool) (bs : List Int) (k i : Nat) (hi : i < k) : (keyA six bs k)[i + 1]? = some (bitA bs i == 1) := by
  unfold keyA
  rw [List.getElem?_cons_succ, List.getElem?_map, List.getElem?_range hi]
  rfl
theorem bit_of {a b : List Int} {i : Nat} (h : (bitA a i == 1) = (bitA b i == 1)) : bitA a i = bitA b i := by
  have h1 := bit_rng a i
  have h2 := bit_rng b i
  rcases h1 with h1 | h1 <;> rcases h2 with h2 | h2 <;> simp_all
theorem KLt.cmp {p q : Pfx} (hp : OkP p) (hq : OkP q) (h : KLt (keyP p) (keyP q)) : cmpP p q = -1 := by
  obtain ⟨hpn, hp8⟩ := hp.nat
  obtain ⟨hqn, hq8⟩ := hq.nat
  unfold keyP at h
  unfold cmpP
  rcases h with ⟨t, ht, he⟩ | ⟨c, l, l', h1, h2⟩
  · have hfam : q.1 = p.1 := by unfold keyA at he; exact (List.cons.inj he).1
    have hlen : p.2.2.toNat < q.2.2.toNat := by
      have := congrArg List.length he
      rw [List.length_append, keyA_len, keyA_len] at this
      have := List.length_pos_iff.2 ht
      omega
    have hb : ∀ i, i < p.2.2.toNat → bitA p.2.1 i = bitA q.2.1 i := fun i hi => by
      have := congrArg (fun l => l[i + 1]?) he
      rw [keyA_get _ _ _ _ (by omega), List.getElem?_append_left (by rw [keyA_len]; omega), keyA_get _ _ _ _ hi] at this
      exact (bit_of (Option.some.inj this)).symm
    have hz : ∀ i, p.2.2.toNat ≤ i → i < 128 → bitA p.2.1 i = 0 := (cut_iff p.2.1 p.2.2.toNat 128 hp.g.1 hp.g.2 hp8 (.inl rfl)).1 (by rw [hpn]; exact hp.cut)
    rw [hfam]
    unfold cmpA
    rw [if_pos rfl]
    rcases first_bit (a := p.2.1) (b := q.2.1) with h | ⟨j, hj, h1, h2⟩
    · rw [bits_same hp.g hq.g h, cmpB_same, if_neg (by simp), if_pos (by omega)]
    · have hjp : p.2.2.toNat ≤ j := by
        by_cases h : p.2.2.toNat ≤ j
        · exact h
        · exact absurd (hb j (by omega)) h2
      have hc := cmpB_bit hp.g hq.g hj h1 (hz j hjp hj) (by
        rw [hz j hjp hj] at h2
        rcases bit_rng q.2.1 j with h | h
        · exact absurd h.symm h2
        · exact h)
      rw [hc, if_pos (by decide)]
  · cases c with
    | nil =>
      have hf1 : p.1 = false := by unfold keyA at h1; exact (List.cons.inj h1).1
      have hf2 : q.1 = true := by unfold keyA at h2; exact (List.cons.inj h2).1
      rw [hf1, hf2]
      have hc : cmpA false true p.2.1 q.2.1 = -1 := rfl
      rw [hc, if_pos (by decide)]
    | cons s c =>
      have hf1 : p.1 = s := by unfold keyA at h1; exact (List.cons.inj h1).1
      have hf2 : q.1 = s := by unfold keyA at h2; exact (List.cons.inj h2).1
      rw [hf1, hf2]
      have hn1 : c.length < p.2.2.toNat := by
        have := congrArg List.length h1
        rw [keyA_len] at this
        simp at this
        omega
      have hn2 : c.length < q.2.2.toNat := by
        have := congrArg List.length h2
        rw [keyA_len] at this
        simp at this
        omega
      have hg1 : ∀ i, i < p.2.2.toNat → (s :: c ++ false :: l)[i + 1]? = some (bitA p.2.1 i == 1) := fun i hi => by rw [← h1]; exact keyA_get _ _ _ _ hi
      have hg2 : ∀ i, i < q.2.2.toNat → (s :: c ++ true :: l')[i + 1]? = some (bitA q.2.1 i == 1) := fun i hi => by rw [← h2]; exact keyA_get _ _ _ _ hi
      have hc := cmpB_bit hp.g hq.g (j := c.length) (by omega) (fun i hi => by
        have e1 := hg1 i (by omega)
        have e2 := hg2 i (by omega)
        rw [List.cons_append, List.getElem?_cons_succ, List.getElem?_append_left hi] at e1 e2
        exact bit_of (Option.some.inj (e1.symm.trans e2))) (by
        have e1 := hg1 c.length hn1
        rw [List.cons_append, List.getElem?_cons_succ, List.getElem?_append_right (Nat.le_refl _), Nat.sub_self] at e1
        have := Option.some.inj e1
        rcases bit_rng p.2.1 c.length with h | h
        · exact h
        · rw [h] at this; simp at this) (by
        have e1 := hg2 c.length hn2
        rw [List.cons_append, List.getElem?_cons_succ, List.getElem?_append_right (Nat.le_refl _), Nat.sub_self] at e1
        have := Option.some.inj e1
        rcases bit_rng q.2.1 c.length with h | h
        · rw [h] at this; simp at this
        · exact h)
      unfold cmpA
      rw [if_pos rfl, hc, if_pos (by decide)]
theorem cmpA_anti (s t : Bool) (a b : List Int) : cmpA t s b a = - cmpA s t a b := by
  unfold cmpA
  cases s <;> cases t <;> simp [cmpB_anti a b]
theorem cmpP_anti (p q : Pfx) : cmpP q p = - cmpP p q := by
  unfold cmpP
  rw [cmpA_anti p.1 q.1 p.2.1 q.2.1]
  by_cases h : cmpA p.1 q.1 p.2.1 q.2.1 = 0
  · rw [h]
    simp only [Int.neg_zero, ne_eq, not_true_eq_false, if_false]
    by_cases h1 : p.2.2 < q.2.2
    · rw [if_neg (by omega), if_pos h1, if_pos h1]; rfl
    · by_cases h2 : q.2.2 < p.2.2
      · rw [if_pos h2, if_neg h1, if_pos h2]
      · rw [if_neg h2, if_neg h1, if_neg h1, if_neg h2]; rfl
  · rw [if_pos h, if_pos (by omega)]
theorem cmpP_rng (p q : Pfx) : cmpP p q = -1 ∨ cmpP p q = 0 ∨ cmpP p q = 1 := by
  unfold cmpP
  split
  · unfold cmpA
    split
    · exact cmpB_rng _ _
    · split
      · exact .inl rfl
      · exact .inr (.inr rfl)
  · split
    · exact .inl rfl
    · split
      · exact .inr (.inr rfl)
      · exact .inr (.inl rfl)
theorem cmpP_zero {p q : Pfx} (hp : p.2.1.length = 16) (hq : q.2.1.length = 16) : cmpP p q = 0 ↔ p = q := by
  constructor
  · intro h
    unfold cmpP at h
    split at h
    · rename_i hc
      exact absurd h hc
    · rename_i hc
      have hc' : cmpA p.1 q.1 p.2.1 q.2.1 = 0 := by simpa using hc
      unfold cmpA at hc'
      split at hc'
      · rename_i hs
        have hb := cmpB_zero (by rw [hp, hq]) hc'
        split at h
        · omega
        · split at h
          · omega
          · obtain ⟨a, b, c⟩ := p
            obtain ⟨d, e, f⟩ := q
            simp only at *
            rw [hs, hb, show c = f by omega]
      · split at hc' <;> omega
  · rintro rfl
    unfold cmpP cmpA
    simp [cmpB_same]
theorem cmpP_trans {p q r : Pfx} (hp : p.2.1.length = 16) (hq : q.2.1.length = 16) (hr : r.2.1.length = 16) (h1 : cmpP p q = -1) (h2 : cmpP q r = -1) : cmpP p r = -1 := by
  obtain ⟨a, b, c⟩ := p
  obtain ⟨d, e, f⟩ := q
  obtain ⟨g, h, i⟩ := r
  simp only at hp hq hr
  unfold cmpP cmpA at h1 h2 ⊢
  simp only at h1 h2 ⊢
  have t := @cmpB_trans b e h (by rw [hp, hq]) (by rw [hq, hr])
  have z1 := @cmpB_zero b e (by rw [hp, hq])
  have z2 := @cmpB_zero e h (by rw [hq, hr])
  have r1 := cmpB_rng b e
  have r2 := cmpB_rng e h
  rcases r1 with r1 | r1 | r1 <;> rcases r2 with r2 | r2 | r2
  · rw [r1] at h1; rw [r2] at h2; have t' := t r1 r2; rw [t']
    cases a <;> cases d <;> cases g <;> simp_all
  · obtain rfl := z2 r2
    rw [r1] at h1 ⊢; rw [r2] at h2
    cases a <;> cases d <;> cases g <;> simp_all
  · rw [r1] at h1; rw [r2] at h2
    cases a <;> cases d <;> cases g <;> simp_all
  · obtain rfl := z1 r1
    rw [r1] at h1; rw [r2] at h2 ⊢
    cases a <;> cases d <;> cases g <;> simp_all
  · obtain rfl := z1 r1
    obtain rfl := z2 r2
    rw [r1] at h1 h2 ⊢
    cases a <;> cases d <;> cases g <;> simp_all <;> omega
  · obtain rfl := z1 r1
    rw [r1] at h1; rw [r2] at h2 ⊢
    cases a <;> cases d <;> cases g <;> simp_all
  · rw [r1] at h1; rw [r2] at h2
    cases a <;> cases d <;> cases g <;> simp_all
  · obtain rfl := z2 r2
    rw [r1] at h1 ⊢; rw [r2] at h2
    cases a <;> cases d <;> cases g <;> simp_all
  · rw [r1] at h1; rw [r2] at h2
    cases a <;> cases d <;> cases g <;> simp_all
/-! ### a map's keys in order -/
def preK (m : KM) : Nat → Key → List (Key × Value)
  | 0, _ => []
  | f + 1, κ => ((m κ).map fun v => (κ, v)).toList ++ (preK m f (κ ++ [false]) ++ preK m f (κ ++ [true]))
theorem preK_pre {m : KM} {f : Nat} {κ : Key} {z : Key × Value} (h : z ∈ preK m f κ) : ∃ t, z.1 = κ ++ t := by
  induction f generalizing κ with
  | zero => cases h
  | succ f ih =>
    unfold preK at h
    rw [List.mem_append, List.mem_append] at h
    rcases h with h | h | h
    · cases hm : m κ with
      | none => rw [hm] at h; cases h
      | some v =>
        rw [hm] at h
        obtain rfl : z = (κ, v) := by simpa using h
        exact ⟨[], by simp⟩
    · obtain ⟨t, ht⟩ := ih h
      exact ⟨false :: t, by rw [ht]; simp⟩
    · obtain ⟨t, ht⟩ := ih h
      exact ⟨true :: t, by rw [ht]; simp⟩
theorem preK_mem {m : KM} {f : Nat} {κ : Key} {z : Key × Value} : z ∈ preK m f κ ↔ m z.1 = some z.2 ∧ ∃ t, z.1 = κ ++ t ∧ t.length < f := by
  induction f generalizing κ with
  | zero => simp [preK]
  | succ f ih =>
    unfold preK
    rw [List.mem_append, List.mem_append, ih, ih]
    constructor
    · rintro (h | ⟨h1, t, h2, h3⟩ | ⟨h1, t, h2, h3⟩)
      · cases hm : m κ with
        | none => rw [hm] at h; cases h
        | some v =>
          rw [hm] at h
          obtain rfl : z = (κ, v) := by simpa using h
          exact ⟨hm, [], by simp, by simp⟩
      · exact ⟨h1, false :: t, by rw [h2]; simp, by simp; omega⟩
      · exact ⟨h1, true :: t, by rw [h2]; simp, by simp; omega⟩
    · rintro ⟨h1, t, h2, h3⟩
      cases t with
      | nil =>
        refine .inl ?_
        have : z.1 = κ := by simpa using h2
        rw [← this, h1]
        simp
      | cons c t =>
        refine .inr ?_
        cases c
        · exact .inl ⟨h1, t, by rw [h2]; simp, by simpa using h3⟩
        · exact .inr ⟨h1, t, by rw [h2]; simp, by simpa using h3⟩
theorem preK_sorted (m : KM) (f : Nat) (κ : Key) : (preK m f κ).Pairwise fun a b => KLt a.1 b.1 := by
  induction f generalizing κ with
  | zero => exact List.Pairwise.nil
  | succ f ih =>
    unfold preK
    rw [List.pairwise_append, List.pairwise_append]
    refine ⟨?_, ⟨ih _, ih _, ?_⟩, ?_⟩
    · cases m κ <;> simp
    · intro a ha b hb
      obtain ⟨t, ht⟩ := preK_pre ha
      obtain ⟨u, hu⟩ := preK_pre hb
      exact .inr ⟨κ, t, u, by rw [ht]; simp, by rw [hu]; simp⟩
    · intro a ha b hb
      have h1 : a.1 = κ := by
        cases hm : m κ with
        | none => rw [hm] at ha; cases ha
        | some v => rw [hm] at ha; simp at ha; rw [ha]
      have h2 : ∃ t, t ≠ [] ∧ b.1 = κ ++ t := by
        rcases List.mem_append.1 hb with h | h
        · obtain ⟨t, ht⟩ := preK_pre h
          exact ⟨false :: t, by simp, by rw [ht]; simp⟩
        · obtain ⟨t, ht⟩ := preK_pre h
          exact ⟨true :: t, by simp, by rw [ht]; simp⟩
      obtain ⟨t, h3, h4⟩ := h2
      exact .inl ⟨t, h3, by rw [h4, h1]⟩
/-- Two ordered lists with the same elements are one. -/
theorem sorted_unique {α : Type} {R : α → α → Prop} (hR : ∀ a b, R a b → ¬ R b a) : ∀ {l l' : List α}, l.Pairwise R → l'.Pairwise R → (∀ a, a ∈ l ↔ a ∈ l') → l = l'
  | [], [], _, _, _ => rfl
  | [], b :: m, _, _, h => absurd ((h b).2 (List.mem_cons_self ..)) (by simp)
  | a :: l, [], _, _, h => absurd ((h a).1 (List.mem_cons_self ..)) (by simp)
  | a :: l, b :: m, h1, h2, h => by
    rw [List.pairwise_cons] at h1 h2
    have irr : ∀ a, ¬ R a a := fun a r => hR a a r r
    have hab : a = b := by
      rcases List.mem_cons.1 ((h a).1 (List.mem_cons_self ..)) with e | e
      · exact e
      · rcases List.mem_cons.1 ((h b).2 (List.mem_cons_self ..)) with e' | e'
        · exact e'.symm
        · exact absurd (h2.1 a e) (hR _ _ (h1.1 b e'))
    subst hab
    rw [sorted_unique hR h1.2 h2.2 fun x => ?_]
    constructor
    · intro hx
      rcases List.mem_cons.1 ((h x).1 (List.mem_cons_of_mem _ hx)) with e | e
      · subst e; exact absurd (h1.1 x hx) (irr x)
      · exact e
    · intro hx
      rcases List.mem_cons.1 ((h x).2 (List.mem_cons_of_mem _ hx)) with e | e
      · subst e; exact absurd (h2.1 x hx) (irr x)
      · exact e
/-! ### a sorted list of entries -/
structure Ents (m : KM) (x : List (Pfx × Value)) : Prop where
  ord : x.Pairwise fun a b => cmpP a.1 b.1 = -1
  ok : ∀ e ∈ x, OkP e.1
  mem : ∀ e ∈ x, m (keyP e.1) = some e.2
  all : ∀ κ v, m κ = some v → ∃ e ∈ x, keyP e.1 = κ
theorem Ents.nil : Ents (fun _ => none) [] := ⟨List.Pairwise.nil, by simp, by simp, fun _ _ h => by cases h⟩
def keysOf (m : KM) : List (Key × Value) := preK m 129 [false] ++ preK m 129 [true]
theorem keysOf_sorted (m : KM) : (keysOf m).Pairwise fun a b => KLt a.1 b.1 := by
  unfold keysOf
  rw [List.pairwise_append]
  refine ⟨preK_sorted _ _ _, preK_sorted _ _ _, fun a ha b hb => ?_⟩
  obtain ⟨t, ht⟩ := preK_pre ha
  obtain ⟨u, hu⟩ := preK_pre hb
  exact .inr ⟨[], t, u, by rw [ht]; rfl, by rw [hu]; rfl⟩
theorem keysOf_mem {m : KM} {z : Key × Value} (hl : z.1 ≠ [] ∧ z.1.length ≤ 129) : z ∈ keysOf m ↔ m z.1 = some z.2 := by
  unfold keysOf
  rw [List.mem_append, preK_mem, preK_mem]
  constructor
  · rintro (h | h) <;> exact h.1
  · intro h
    obtain ⟨κ, v⟩ := z
    simp only at hl h ⊢
    cases κ with
    | nil => exact absurd rfl hl.1
    | cons s t =>
      have : t.length < 129 := by have := hl.2; simp at this; omega
      cases s
      · exact .inl ⟨h, t, rfl, this⟩
      · exact .inr ⟨h, t, rfl, this⟩
theorem keyP_len {p : Pfx} (h : OkP p) : keyP p ≠ [] ∧ (keyP p).length ≤ 129 := by
  have := h.nat.2
  exact ⟨keyA_ne _ _ _, by unfold keyP; rw [keyA_len]; omega⟩
/-- The list of the prefixes whose keys are the map's, in order. -/
theorem Ents.keys {m : KM} {x : List (Pfx × Value)} (h : Ents m x) {L : List Pfx} (hL : ∀ p ∈ L, OkP p) (hk : L.map keyP = (keysOf m).map (·.1)) : L = x.map (·.1) := by
  refine sorted_unique (R := fun p q => cmpP p q = -1) (fun a b h1 h2 => by rw [cmpP_anti, h1] at h2; omega) ?_ ?_ ?_
  · have h1 := keysOf_sorted m
    have h2 : (L.map keyP).Pairwise KLt := by rw [hk, List.pairwise_map]; exact h1
    rw [List.pairwise_map] at h2
    refine List.Pairwise.imp_of_mem ?_ h2
    intro a b ha hb hab
    exact hab.cmp (hL a ha) (hL b hb)
  · rw [List.pairwise_map]; exact h.ord
  · intro p
    constructor
    · intro hp
      have h1 : keyP p ∈ (keysOf m).map (·.1) := by rw [← hk]; exact List.mem_map.2 ⟨p, hp, rfl⟩
      obtain ⟨z, hz, e⟩ := List.mem_map.1 h1
      have h2 := (keysOf_mem (m := m) (z := z) (by rw [e]; exact keyP_len (hL p hp))).1 hz
      obtain ⟨e', he', hk'⟩ := h.all _ _ h2
      have : p = e'.1 := keyP_inj (hL p hp) (h.ok e' he') (by rw [hk', e])
      rw [this]
      exact List.mem_map.2 ⟨e', he', rfl⟩
    · intro hp
      obtain ⟨e, he, rfl⟩ := List.mem_map.1 hp
      have h1 := h.mem e he
      have h2 : (keyP e.1, e.2) ∈ keysOf m := (keysOf_mem (keyP_len (h.ok e he))).2 h1
      have h3 : keyP e.1 ∈ L.map keyP := by rw [hk]; exact List.mem_map.2 ⟨_, h2, rfl⟩
      obtain ⟨q, hq, e3⟩ := List.mem_map.1 h3
      rw [← keyP_inj (hL q hq) (h.ok e he) e3]
      exact hq
def putE (x : List (Pfx × Value)) (p : Pfx) (v : Value) : List (Pfx × Value) :=
  match x with
  | [] => [(p, v)]
  | e :: l => if cmpP e.1 p = -1 then e :: putE l p v else if cmpP e.1 p = 0 then (p, v) :: l else (p, v) :: e :: l
theorem putE_mem {x : List (Pfx × Value)} {p : Pfx} {v : Value} (hx : ∀ e ∈ x, e.1.2.1.length = 16) (hp : p.2.1.length = 16) (ho : x.Pairwise fun a b => cmpP a.1 b.1 = -1) (e : Pfx × Value) : e ∈ putE x p v ↔ e = (p, v) ∨ e ∈ x ∧ e.1 ≠ p := by
  induction x with
  | nil => simp [putE]
  | cons a l ih =>
    have ih' := ih (fun e he => hx e (List.mem_cons_of_mem _ he)) (List.pairwise_cons.1 ho).2
    have ha := hx a (List.mem_cons_self ..)
    unfold putE
    by_cases h1 : cmpP a.1 p = -1
    · rw [if_pos h1, List.mem_cons, ih', List.mem_cons]
      have hne : a.1 ≠ p := fun h => by rw [(cmpP_zero ha hp).2 h] at h1; omega
      constructor
      · rintro (rfl | h | ⟨h2, h3⟩)
        · exact .inr ⟨.inl rfl, hne⟩
        · exact .inl h
        · exact .inr ⟨.inr h2, h3⟩
      · rintro (h | ⟨rfl | h2, h3⟩)
        · exact .inr (.inl h)
        · exact .inl rfl
        · exact .inr (.inr ⟨h2, h3⟩)
    · rw [if_neg h1]
      have hrest : ∀ b ∈ l, b.1 ≠ p := fun b hb h => by
        have h2 := (List.pairwise_cons.1 ho).1 b hb
        rw [h] at h2
        exact h1 h2
      by_cases h2 : cmpP a.1 p = 0
      · rw [if_pos h2, List.mem_cons, List.mem_cons]
        have hap := (cmpP_zero ha hp).1 h2
        constructor
        · rintro (h | h)
          · exact .inl h
          · exact .inr ⟨.inr h, hrest e h⟩
        · rintro (h | ⟨rfl | h3, h4⟩)
          · exact .inl h
          · exact absurd hap h4
          · exact .inr h3
      · rw [if_neg h2, List.mem_cons, List.mem_cons]
        have hne : a.1 ≠ p := fun h => h2 ((cmpP_zero ha hp).2 h)
        constructor
        · rintro (h | rfl | h)
          · exact .inl h
          · exact .inr ⟨.inl rfl, hne⟩
          · exact .inr ⟨.inr h, hrest e h⟩
        · rintro (h | ⟨h3, _⟩)
          · exact .inl h
          · exact .inr h3
theorem putE_ord {x : List (Pfx × Value)} {p : Pfx} {v : Value} (hx : ∀ e ∈ x, e.1.2.1.length = 16) (hp : p.2.1.length = 16) (ho : x.Pairwise fun a b => cmpP a.1 b.1 = -1) : (putE x p v).Pairwise fun a b => cmpP a.1 b.1 = -1 := by
  induction x with
  | nil => simp [putE]
  | cons a l ih =>
    have hxl : ∀ e ∈ l, e.1.2.1.length = 16 := fun e he => hx e (List.mem_cons_of_mem _ he)
    have hol := (List.pairwise_cons.1 ho).2
    have ih' := ih hxl hol
    have ha := hx a (List.mem_cons_self ..)
    unfold putE
    by_cases h1 : cmpP a.1 p = -1
    · rw [if_pos h1, List.pairwise_cons]
      refine ⟨fun b hb => ?_, ih'⟩
      rcases (putE_mem hxl hp hol b).1 hb with rfl | ⟨h, _⟩
      · exact h1
      · exact (List.pairwise_cons.1 ho).1 b h
    · rw [if_neg h1]
      by_cases h2 : cmpP a.1 p = 0
      · rw [if_pos h2, List.pairwise_cons]
        have hap := (cmpP_zero ha hp).1 h2
        exact ⟨fun b hb => by rw [← hap]; exact (List.pairwise_cons.1 ho).1 b hb, hol⟩
      · rw [if_neg h2, List.pairwise_cons]
        have h3 : cmpP p a.1 = -1 := by
          have := cmpP_rng a.1 p
          have h4 := cmpP_anti a.1 p
          omega
        refine ⟨fun b hb => ?_, ho⟩
        rcases List.mem_cons.1 hb with rfl | hb
        · exact h3
        · exact cmpP_trans hp ha (hxl b hb) h3 ((List.pairwise_cons.1 ho).1 b hb)
theorem Ents.put {m : KM} {x : List (Pfx × Value)} (h : Ents m x) {p : Pfx} (hp : OkP p) (v : Value) : Ents (mset m (keyP p) v) (putE x p v) := by
  have hx : ∀ e ∈ x, e.1.2.1.length = 16 := fun e he => (h.ok e he).g.1
  have hm := putE_mem hx hp.g.1 h.ord (v := v)
  refine ⟨putE_ord hx hp.g.1 h.ord, fun e he => ?_, fun e he => ?_, fun κ u hu => ?_⟩
  · rcases (hm e).1 he with rfl | ⟨h1, _⟩
    · exact hp
    · exact h.ok e h1
  · rcases (hm e).1 he with rfl | ⟨h1, h2⟩
    · simp [mset]
    · have : keyP e.1 ≠ keyP p := fun hk => h2 (keyP_inj (h.ok e h1) hp hk)
      simp [mset, this, h.mem e h1]
  · by_cases hk : κ = keyP p
    · exact ⟨(p, v), (hm _).2 (.inl rfl), hk.symm⟩
    · simp only [mset, if_neg hk] at hu
      obtain ⟨e, he, hek⟩ := h.all κ u hu
      exact ⟨e, (hm e).2 (.inr ⟨he, fun h2 => hk (by rw [← hek, h2])⟩), hek⟩
theorem Ents.look {m : KM} {x : List (Pfx × Value)} (h : Ents m x) {p : Pfx} (hp : OkP p) : m (keyP p) = none ↔ ∀ e ∈ x, e.1 ≠ p := by
  constructor
  · intro h1 e he h2
    have := h.mem e he
    rw [h2, h1] at this
    cases this
  · intro h1
    cases hm : m (keyP p) with
    | none => rfl
    | some v =>
      obtain ⟨e, he, hk⟩ := h.all _ _ hm
      exact absurd (keyP_inj (h.ok e he) hp hk) (h1 e he)
theorem putE_len {x : List (Pfx × Value)} {p : Pfx} {v : Value} (hx : ∀ e ∈ x, e.1.2.1.length = 16) (hp : p.2.1.length = 16) (ho : x.Pairwise fun a b => cmpP a.1 b.1 = -1) : (putE x p v).length = if (∀ e ∈ x, e.1 ≠ p) then x.length + 1 else x.length := by
  induction x with
  | nil => simp [putE]
  | cons a l ih =>
    have ih' := ih (fun e he => hx e (List.mem_cons_of_mem _ he)) (List.pairwise_cons.1 ho).2
    have ha := hx a (List.mem_cons_self ..)
    unfold putE
    by_cases h1 : cmpP a.1 p = -1
    · have hne : a.1 ≠ p := fun h => by rw [(cmpP_zero ha hp).2 h] at h1; omega
      rw [if_pos h1, List.length_cons, ih']
      by_cases h2 : ∀ e ∈ l, e.1 ≠ p
      · rw [if_pos h2, if_pos (by simpa [hne] using h2)]; simp
      · rw [if_neg h2, if_neg (fun h3 => h2 fun e he => h3 e (List.mem_cons_of_mem _ he))]; simp
    · rw [if_neg h1]
      by_cases h2 : cmpP a.1 p = 0
      · rw [if_pos h2, if_neg (fun h3 => h3 a (List.mem_cons_self ..) ((cmpP_zero ha hp).1 h2))]; simp
      · have hrest : ∀ b ∈ l, b.1 ≠ p := fun b hb h => by
          have h3 := (List.pairwise_cons.1 ho).1 b hb
          rw [h] at h3
          exact h1 h3
        have hne : a.1 ≠ p := fun h => h2 ((cmpP_zero ha hp).2 h)
        rw [if_neg h2, if_pos (by simpa [hne] using hrest)]; simp
theorem Ents.put_len {m : KM} {x : List (Pfx × Value)} (h : Ents m x) {p : Pfx} (hp : OkP p) (v : Value) {n : Int} (hn : n = x.length) : (if m (keyP p) = none then n + 1 else n) = (putE x p v).length := by
  rw [putE_len (fun e he => (h.ok e he).g.1) hp.g.1 h.ord]
  by_cases hm : m (keyP p) = none
  · rw [if_pos hm, if_pos ((h.look hp).1 hm), hn]; simp
  · rw [if_neg hm, if_neg (fun h1 => hm ((h.look hp).2 h1)), hn]
end Go.Proofs.YtjpiekljjhgmoaaDoor
