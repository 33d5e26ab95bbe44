/- Several texts in one: AclF, AclM, AclP, AclN, Wide, AclB, AclT. -/
import Derived.Test.YtbmbnibamhgfmaaDoorME
import Derived.Test.YtbmbnibamhgfmaaDoorMG
import Derived.Test.YtbmbnibamhgfmaaDoorMC
import Derived.Test.YtbmbnibamhgfmaaDoorMF
import Derived.WalkSpells
import Derived.Deep.DeepCutAuto
import Derived.Deep.CutRange
import Derived.RangeFuncNested
import Derived.RangeFuncBound
import Derived.RangeFuncCalls
import Derived.RangeFuncLeaves
import Derived.WalkKit
import Derived.OwnWalkIn
import Derived.TacticsInMore
import Derived.LoopNIn
import Derived.LoopIn
/- The choice of a rule: the first of the highest rank among those that fit. -/
namespace Go.Proofs.YtbmbnibamhgfmaaDoor
open Go.RowKit

def dR : Rl := (false, ⟨#[]⟩, zeroP, 0, 0)
def bestB (L : List Rl) (p : Rl → Bool) (rk : Rl → Int) : Nat → Option Nat
  | 0 => none
  | k + 1 => match L[k]? with
    | none => bestB L p rk k
    | some r => if p r then (match bestB L p rk k with | none => some k | some j => if rk (L.getD j dR) < rk r then some k else some j) else bestB L p rk k
def optI : Option Nat → Int | none => -1 | some j => (j : Int)
section
variable {L : List Rl} {p : Rl → Bool} {rk : Rl → Int} {k j : Nat} {r s : Rl}
theorem bestB_succ (L : List Rl) (p : Rl → Bool) (rk : Rl → Int) (k : Nat) : bestB L p rk (k + 1) = match L[k]? with
    | none => bestB L p rk k
    | some r => if p r then (match bestB L p rk k with | none => some k | some j => if rk (L.getD j dR) < rk r then some k else some j) else bestB L p rk k := rfl
theorem best_no (h : L[k]? = some r) (hp : p r = false) : bestB L p rk (k + 1) = bestB L p rk k := by
  rw [bestB_succ, h]; simp only [hp, Bool.false_eq_true, if_false]
theorem best_new (h : L[k]? = some r) (hp : p r = true) (hb : bestB L p rk k = none) : bestB L p rk (k + 1) = some k := by
  rw [bestB_succ, h, hb]; simp only [hp, if_true]
theorem best_up (h : L[k]? = some r) (hp : p r = true) (hb : bestB L p rk k = some j) (hj : L[j]? = some s) (hr : rk s < rk r) : bestB L p rk (k + 1) = some k := by
  rw [bestB_succ, h, hb]
  simp only [hp, if_true]
  rw [List.getD_eq_getElem?_getD, hj, Option.getD_some, if_pos hr]
theorem best_keep (h : L[k]? = some r) (hp : p r = true) (hb : bestB L p rk k = some j) (hj : L[j]? = some s) (hr : ¬ rk s < rk r) : bestB L p rk (k + 1) = some j := by
  rw [bestB_succ, h, hb]
  simp only [hp, if_true]
  rw [List.getD_eq_getElem?_getD, hj, Option.getD_some, if_neg hr]
theorem best_spec : ∀ {k j : Nat}, bestB L p rk k = some j → ∃ s, L[j]? = some s ∧ p s = true ∧ j < k
  | 0, j, h => by cases h
  | k + 1, j, h => by
    rw [bestB_succ] at h
    cases hk : L[k]? with
    | none =>
      rw [hk] at h
      obtain ⟨s, h1, h2, h3⟩ := best_spec h
      exact ⟨s, h1, h2, by omega⟩
    | some r =>
      rw [hk] at h
      simp only at h
      cases hp : p r with
      | false =>
        rw [hp] at h
        obtain ⟨s, h1, h2, h3⟩ := best_spec (k := k) (j := j) (by simpa using h)
        exact ⟨s, h1, h2, by omega⟩
      | true =>
        rw [hp] at h
        simp only [if_true] at h
        cases hb : bestB L p rk k with
        | none =>
          rw [hb] at h
          obtain rfl : k = j := by simpa using h
          exact ⟨r, hk, hp, by omega⟩
        | some i =>
          rw [hb] at h
          simp only at h
          split at h
          · obtain rfl : k = j := by simpa using h
            exact ⟨r, hk, hp, by omega⟩
          · obtain rfl : i = j := by simpa using h
            obtain ⟨s, h1, h2, h3⟩ := best_spec hb
            exact ⟨s, h1, h2, by omega⟩
end
/-- The rule is one for addresses, and fits this address and port. -/
def pA (six : Bool) (bs : List Int) (port : Int) (r : Rl) : Bool := decide (r.2.1.size = 0) && decide (r.2.2.2.1 ≤ port) && decide (port ≤ r.2.2.2.2) && contP r.2.2.1 six bs
def rkA (r : Rl) : Int := r.2.2.1.2.2
/-- The rule is one for names, and fits this name and port. -/
def pN (name : ByteArray) (port : Int) (r : Rl) : Bool := !decide (r.2.1.size = 0) && decide (r.2.2.2.1 ≤ port) && decide (port ≤ r.2.2.2.2) && subS name r.2.1
def rkN (r : Rl) : Int := labN (numsOf r.2.1)
end Go.Proofs.YtbmbnibamhgfmaaDoor

/- The lists of rule numbers that a trie stores; slices.Clone over rules. -/
namespace Go.Proofs.YtbmbnibamhgfmaaDoor
open Go.RowKit

/-- The numbers, below k, of the rules for addresses whose prefix has this key. -/
def ixK (L : List Rl) (κ : Key) : Nat → List Int
  | 0 => []
  | k + 1 => ixK L κ k ++ (match L[k]? with | some r => if r.2.1.size = 0 ∧ keyP r.2.2.1 = κ then [(k : Int)] else [] | none => [])
theorem ixK_succ (L : List Rl) (κ : Key) (k : Nat) : ixK L κ (k + 1) = ixK L κ k ++ (match L[k]? with | some r => if r.2.1.size = 0 ∧ keyP r.2.2.1 = κ then [(k : Int)] else [] | none => []) := rfl
theorem ixK_step {L : List Rl} {k : Nat} {r : Rl} (h : L[k]? = some r) (hs : r.2.1.size = 0) (κ : Key) : ixK L κ (k + 1) = if κ = keyP r.2.2.1 then ixK L (keyP r.2.2.1) k ++ [(k : Int)] else ixK L κ k := by
  rw [ixK_succ, h]
  by_cases hk : κ = keyP r.2.2.1
  · subst hk
    simp only [hs, and_self, if_true]
  · rw [if_neg hk]
    simp only [hs, true_and, if_neg (Ne.symm hk), List.append_nil]
theorem ixK_skip {L : List Rl} {k : Nat} {r : Rl} (h : L[k]? = some r) (hs : r.2.1.size ≠ 0) (κ : Key) : ixK L κ (k + 1) = ixK L κ k := by
  rw [ixK_succ, h]
  simp only [hs, false_and, if_false, List.append_nil]
theorem ixK_le (L : List Rl) (κ : Key) : ∀ k : Nat, (ixK L κ k).length ≤ k
  | 0 => by simp [ixK]
  | k + 1 => by
    have := ixK_le L κ k
    rw [ixK_succ, List.length_append]
    split
    · split <;> simp <;> omega
    · simp; omega
theorem int_infoM : (Tryd.prog.info? 3).map (fun i => (i.zero, i.size, i.bytes)) = some (some (.int .i64 0), 1, 8) := by kernel_rfl
/-- The map m holds under each key the list X of it, each in a block of its own, apart from the blocks F. -/
structure Sl (w : World) (B : Nat) (m : KM) (X : Key → List Int) (F : List Nat) : Prop where
  non : ∀ κ, m κ = none → X κ = []
  own : ∀ κ v, m κ = some v → ∃ A c, v = .slice A (X κ).length c ∧ Own w B 3 1 A (X κ).length c ((X κ).map (Value.int .i64)) ∧ ∀ b ∈ blkOf A, b ∉ F
  apart : ∀ κ κ' A n c A' n' c', κ ≠ κ' → m κ = some (.slice A n c) → m κ' = some (.slice A' n' c') → ∀ b ∈ blkOf A, b ∉ blkOf A'
section
variable {w w' : World} {B : Nat} {m : KM} {X : Key → List Int} {F S : List Nat}
theorem Sl.lt (h : Sl w B m X F) {κ : Key} {A : Option Addr} {n c : Nat} (hm : m κ = some (.slice A n c)) : ∀ b ∈ blkOf A, B ≤ b ∧ b < w.heap.size ∧ b ∉ F := fun b hb => by
  obtain ⟨A', c', hv, ho, hf⟩ := h.own κ _ hm
  simp only [Value.slice.injEq] at hv
  obtain ⟨rfl, rfl, rfl⟩ := hv
  exact ⟨(ho.blks b hb).1, (ho.blks b hb).2, hf b hb⟩
theorem Sl.empty (w : World) (B : Nat) (F : List Nat) : Sl w B (fun _ => none) (fun _ => []) F := ⟨fun _ _ => rfl, fun _ _ h => (by cases h), fun _ _ _ _ _ _ _ _ _ h => (by cases h)⟩
theorem Sl.ch (h : Sl w B m X F) (hc : Ch S w w') (hS : ∀ b, B ≤ b → b < w.heap.size → b ∉ F → b ∉ S) : Sl w' B m X F :=
  ⟨h.non, fun κ v hv => by
    obtain ⟨A, c, e, ho, hf⟩ := h.own κ v hv
    exact ⟨A, c, e, ho.ch hc (fun b hb => hS b (ho.blks b hb).1 (ho.blks b hb).2 (hf b hb)), hf⟩, h.apart⟩
theorem Sl.nil (h : Sl w B m X F) (hc : Ch [] w w') : Sl w' B m X F := h.ch hc (fun _ _ _ _ => by simp)
theorem Sl.congr {X' : Key → List Int} (h : Sl w B m X F) (e : ∀ κ, X' κ = X κ) : Sl w B m X' F := by
  have : X' = X := funext e
  rw [this]; exact h
/-- What lies under a key, the empty list where nothing does. -/
theorem Sl.get (h : Sl w B m X F) (κ0 : Key) : ∃ A c, (m κ0).getD (.slice none 0 0) = .slice A (X κ0).length c ∧ Own w B 3 1 A (X κ0).length c ((X κ0).map (Value.int .i64)) ∧ (∀ b ∈ blkOf A, b ∉ F) ∧
    ∀ κ A' n' c', κ ≠ κ0 → m κ = some (.slice A' n' c') → ∀ b ∈ blkOf A', b ∉ blkOf A := by
  cases hm : m κ0 with
  | none =>
    rw [h.non κ0 hm]
    exact ⟨none, 0, rfl, Own.nil _ _ _ _, by simp [blkOf], fun _ _ _ _ _ _ _ _ => by simp [blkOf]⟩
  | some v =>
    obtain ⟨A, c, rfl, ho, hf⟩ := h.own κ0 v hm
    exact ⟨A, c, rfl, ho, hf, fun κ A' n' c' hk hk' => h.apart κ κ0 A' n' c' A _ c hk hk' hm⟩
/-- One list has grown by one number: behind the append (from wa to wb) and the insertion (to wc). -/
theorem Sl.put {wa wb wc : World} {F' : List Nat} {κ0 : Key} {A A4 : Option Addr} {c4 : Nat} {i : Int} (h : Sl wa B m X F) (hF : ∀ b ∈ F, b < wa.heap.size)
    (hA : ∀ b ∈ blkOf A, b ∉ F) (hap : ∀ κ A' n' c', κ ≠ κ0 → m κ = some (.slice A' n' c') → ∀ b ∈ blkOf A', b ∉ blkOf A)
    (ho : Own wb B 3 1 A4 ((X κ0).length + 1) c4 ((X κ0 ++ [i]).map (Value.int .i64))) (ch : Ch (blkOf A) wa wb) (at4 : ∀ g ∈ blkOf A4, g ∈ blkOf A ∨ wa.heap.size ≤ g)
    (ch2 : Ch F wb wc) (hF' : ∀ b ∈ F', b ∈ F ∨ wb.heap.size ≤ b) :
    Sl wc B (mset m κ0 (.slice A4 ((X κ0).length + 1) c4)) (fun κ => if κ = κ0 then X κ0 ++ [i] else X κ) F' := by
  have h4F : ∀ b ∈ blkOf A4, b ∉ F := fun b hb hf => by
    rcases at4 b hb with h1 | h1
    · exact hA b h1 hf
    · have := hF b hf; omega
  have h4F' : ∀ b ∈ blkOf A4, b ∉ F' := fun b hb hf => by
    rcases hF' b hf with h1 | h1
    · exact h4F b hb h1
    · have := (ho.blks b hb).2; omega
  have key : ∀ κ, κ ≠ κ0 → ∀ v, m κ = some v → ∃ A' c', v = .slice A' (X κ).length c' ∧ Own wc B 3 1 A' (X κ).length c' ((X κ).map (Value.int .i64)) ∧ (∀ b ∈ blkOf A', b ∉ F') ∧ (∀ b ∈ blkOf A', b ∉ blkOf A4) := fun κ hk v hv => by
    obtain ⟨A', c', rfl, ho', hf'⟩ := h.own κ v hv
    have hlt := ho'.blks
    have hA' := hap κ A' _ c' hk hv
    refine ⟨A', c', rfl, (ho'.ch ch hA').ch ch2 hf', fun b hb hf => ?_, fun b hb hb4 => ?_⟩
    · rcases hF' b hf with h1 | h1
      · exact hf' b hb h1
      · have := (hlt b hb).2; have := ch.size; omega
    · rcases at4 b hb4 with h1 | h1
      · exact hA' b hb h1
      · have := (hlt b hb).2; omega
  refine ⟨fun κ hn => ?_, fun κ v hv => ?_, fun κ κ' B1 n1 c1 B2 n2 c2 hne h1 h2 => ?_⟩
  · unfold mset at hn
    by_cases hk : κ = κ0
    · rw [if_pos hk] at hn; cases hn
    · rw [if_neg hk] at hn ⊢
      exact h.non κ hn
  · unfold mset at hv
    by_cases hk : κ = κ0
    · rw [if_pos hk] at hv
      simp only [if_pos hk]
      obtain rfl := Option.some.inj hv
      refine ⟨A4, c4, by rw [List.length_append]; rfl, ?_, h4F'⟩
      rw [List.length_append]
      exact ho.ch ch2 h4F
    · rw [if_neg hk] at hv
      simp only [if_neg hk]
      obtain ⟨A', c', e, ho', hf', _⟩ := key κ hk v hv
      exact ⟨A', c', e, ho', hf'⟩
  · unfold mset at h1 h2
    by_cases hk : κ = κ0
    · rw [if_pos hk] at h1
      have hk' : κ' ≠ κ0 := fun e => hne (hk.trans e.symm)
      rw [if_neg hk'] at h2
      simp only [Option.some.injEq, Value.slice.injEq] at h1
      obtain ⟨rfl, _, _⟩ := h1
      obtain ⟨A', c', e, _, _, hd⟩ := key κ' hk' _ h2
      simp only [Value.slice.injEq] at e
      obtain ⟨rfl, _, _⟩ := e
      exact fun b hb hb' => hd b hb' hb
    · rw [if_neg hk] at h1
      obtain ⟨A', c', e, _, _, hd⟩ := key κ hk _ h1
      simp only [Value.slice.injEq] at e
      obtain ⟨rfl, _, _⟩ := e
      by_cases hk' : κ' = κ0
      · rw [if_pos hk'] at h2
        simp only [Option.some.injEq, Value.slice.injEq] at h2
        obtain ⟨rfl, _, _⟩ := h2
        exact hd
      · rw [if_neg hk'] at h2
        exact h.apart κ κ' B1 n1 c1 B2 n2 c2 hne h1 h2
end
theorem flatR_one (L : List Rl) : ∀ u ∈ L.flatMap rulC, u.oneCell' = true := flat_one L (fun r _ => rul_one r)
set_option maxRecDepth 20000 in
set_option maxHeartbeats 4000000 in
theorem slCloneR (w : World) (A : Option Addr) (n cap B : Nat) (L : List Rl) (h : Rd w B 22 A n (L.flatMap rulC)) (hB : B ≤ w.heap.size) (hl : n ≤ 1000000) :
    Calls Tryd.prog 42 #[.slice A n cap] w fun e w' => ∃ A' c', e = .returned (.slice A' n c') ∧ Own w' w.heap.size 61 22 A' n c' (L.flatMap rulC) ∧ Ch [] w w' := by
  have HR := hid h
  cases A with
  | none =>
    have h0 : n = 0 := by
      rcases Nat.eq_zero_or_pos n with h0 | hp
      · exact h0
      · obtain ⟨b, off, e, _⟩ := h.2 hp
        cases e
    subst h0
    have hL : L.flatMap rulC = [] := List.eq_nil_of_length_eq_zero (by rw [h.1, Nat.zero_mul])
    rw [hL]
    have hq : ∀ w, (binOp .eql 44 (.slice none 0 cap) (.slice none 0 0)).run Tryd.prog w = .ok (.bool true) w := fun w => by
      have := Lib.run_eql_slice_nil (P := Tryd.prog) w 44 61 none 0 cap 0 0 Tryd.underlying44
      exact this
    clear h HR hL
    go_enter Tryd.func42, Tryd.ntmps42
    go_wp2_with fail
    go_ret
    exact ⟨none, 0, rfl, Own.nil _ _ _ _, Ch.refl _ _⟩
  | some ad =>
    have hq : ∀ w, (binOp .eql 44 (.slice (some ad) n cap) (.slice none 0 0)).run Tryd.prog w = .ok (.bool false) w := fun w => by
      have := Lib.run_eql_slice_nil (P := Tryd.prog) w 44 61 (some ad) n cap 0 0 Tryd.underlying44
      exact this
    clear h
    go_enter Tryd.func42, Tryd.ntmps42
    have own0 : Own (w.alloc (.cells #[] 61)) w.heap.size 61 22 (some ⟨w.heap.size, 0, none⟩) 0 0 [] := Own.new w w.heap.size 61 22 [] 0 (Nat.le_refl _) (by unfold maxLen; omega) rfl
    have CC : Ch [] w (w.alloc (.cells #[] 61)) := (Ch.refl _ _).alloc _
    have HO : Hid (∀ u ∈ L.flatMap rulC, u.oneCell' = true) := flatR_one L
    go_wp2_with (at_builtin; (refine wpList_app _ rfl (.tmp 5) (.tmp 6) _ rfl w.heap.size 61 _ 22 72 Tryd.underlying44 rul_infoZ rfl (by omega) _ _ _ _ rfl own0 _ _ _ _ (L.flatMap rulC) rfl (HR.out.ch CC hB (by simp)) HO.out (by unfold maxLen; omega) (by omega) (by simp) ?_; intro A4 c4 w4 own4 ch4 at4))
    go_ret
    rw [Nat.zero_add, List.nil_append] at own4
    exact ⟨A4, c4, rfl, own4, CC.step ch4 (fun g hg => .inr (by simp [blkOf] at hg; omega))⟩
end Go.Proofs.YtbmbnibamhgfmaaDoor

/- The program's choice of a rule for an address is the reference's: the plain law. -/
namespace Go.Proofs.YtbmbnibamhgfmaaDoor
open Go.RowKit

def portR (r : Rl) (port : Int) : Bool := decide (r.2.2.2.1 ≤ port) && decide (port ≤ r.2.2.2.2)
def portI (L : List Rl) (port : Int) (i : Int) : Bool := match L[i.toNat]? with | some r => portR r port | none => false
theorem ixK_mem {L : List Rl} {κ : Key} : ∀ {n : Nat} {i : Int}, i ∈ ixK L κ n ↔ ∃ j : Nat, j < n ∧ i = j ∧ ∃ r, L[j]? = some r ∧ r.2.1.size = 0 ∧ keyP r.2.2.1 = κ
  | 0, i => by simp [ixK]
  | n + 1, i => by
    rw [ixK_succ, List.mem_append, ixK_mem]
    constructor
    · rintro (⟨j, hj, rfl, r, h1, h2, h3⟩ | h)
      · exact ⟨j, by omega, rfl, r, h1, h2, h3⟩
      · cases hL : L[n]? with
        | none => rw [hL] at h; simp at h
        | some r =>
          rw [hL] at h
          simp only at h
          split at h
          · rename_i hc
            rw [List.mem_singleton] at h
            exact ⟨n, by omega, h, r, hL, hc.1, hc.2⟩
          · cases h
    · rintro ⟨j, hj, rfl, r, h1, h2, h3⟩
      by_cases hjn : j = n
      · subst hjn
        right
        rw [h1]
        simp only [h2, h3, and_self, if_true, List.mem_singleton]
      · exact .inl ⟨j, by omega, rfl, r, h1, h2, h3⟩
theorem ixK_sorted (L : List Rl) (κ : Key) : ∀ n : Nat, (ixK L κ n).Pairwise (· < ·)
  | 0 => List.Pairwise.nil
  | n + 1 => by
    rw [ixK_succ, List.pairwise_append]
    refine ⟨ixK_sorted L κ n, ?_, fun a ha b hb => ?_⟩
    · split
      · split <;> simp
      · simp
    · obtain ⟨j, hj, rfl, _⟩ := ixK_mem.1 ha
      cases hL : L[n]? with
      | none => rw [hL] at hb; simp at hb
      | some r =>
        rw [hL] at hb
        simp only at hb
        split at hb
        · rw [List.mem_singleton] at hb; subst hb; omega
        · cases hb
theorem find_le {q : Int → Bool} : ∀ {l : List Int} {i i' : Int}, l.Pairwise (· < ·) → l.find? q = some i → i' ∈ l → q i' = true → i ≤ i'
  | [], _, _, _, h, _, _ => by cases h
  | a :: l, i, i', hp, h, hm, hq => by
    rw [List.find?_cons] at h
    rw [List.pairwise_cons] at hp
    split at h
    · obtain rfl := Option.some.inj h
      rcases List.mem_cons.1 hm with rfl | hm
      · exact Int.le_refl _
      · exact Int.le_of_lt (hp.1 _ hm)
    · rename_i hqa
      rcases List.mem_cons.1 hm with rfl | hm
      · rw [hq] at hqa; cases hqa
      · exact find_le hp.2 h hm hq
theorem mK_mem {m : KM} {six : Bool} {bs : List Int} {k : Nat} {v : Value} : (k, v) ∈ mK m six bs ↔ validA six bs = true ∧ k ≤ bitN six ∧ m (keyA six bs k) = some v := by
  unfold mK
  cases hv : validA six bs
  · simp
  · simp only [if_true, List.mem_filterMap, List.mem_range, true_and]
    constructor
    · rintro ⟨a, ha, h⟩
      cases hm : m (keyA six bs a) with
      | none => rw [hm] at h; cases h
      | some x =>
        rw [hm] at h
        simp only [Option.map_some, Option.some.injEq, Prod.mk.injEq] at h
        obtain ⟨rfl, rfl⟩ := h
        exact ⟨by omega, hm⟩
    · rintro ⟨hk, hm⟩
      exact ⟨k, by omega, by rw [hm]; rfl⟩
theorem mK_sorted (m : KM) (six : Bool) (bs : List Int) : (mK m six bs).Pairwise fun a b => a.1 < b.1 := by
  unfold mK
  split
  · rw [List.pairwise_filterMap]
    refine List.Pairwise.imp ?_ List.pairwise_lt_range
    intro a b hab x hx y hy
    cases ha : m (keyA six bs a) with
    | none => rw [ha] at hx; cases hx
    | some u =>
      cases hb : m (keyA six bs b) with
      | none => rw [hb] at hy; cases hy
      | some v =>
        rw [ha] at hx
        rw [hb] at hy
        simp only [Option.map_some, Option.some.injEq] at hx hy
        subst hx hy
        exact hab
  · exact List.Pairwise.nil
section
variable {L : List Rl} {p : Rl → Bool} {rk : Rl → Int}
theorem best_none : ∀ {n : Nat}, bestB L p rk n = none → ∀ i r, i < n → L[i]? = some r → p r = false
  | 0, _, i, r, hi, _ => by omega
  | n + 1, h, i, r, hi, hr => by
    rw [bestB_succ] at h
    cases hn : L[n]? with
    | none =>
      rw [hn] at h
      by_cases e : i = n
      · subst e; rw [hn] at hr; cases hr
      · exact best_none h i r (by omega) hr
    | some s =>
      rw [hn] at h
      simp only at h
      cases hp : p s with
      | true =>
        rw [hp] at h
        simp only [if_true] at h
        split at h
        · cases h
        · split at h <;> cases h
      | false =>
        rw [hp] at h
        simp only [Bool.false_eq_true, if_false] at h
        by_cases e : i = n
        · subst e; rw [hn] at hr; cases hr; exact hp
        · exact best_none h i r (by omega) hr
theorem best_prop : ∀ {n j : Nat} {s : Rl}, bestB L p rk n = some j → L[j]? = some s → ∀ i r, i < n → L[i]? = some r → p r = true → rk r < rk s ∨ rk r = rk s ∧ j ≤ i
  | 0, _, _, h, _, _, _, _, _, _ => by cases h
  | n + 1, j, s, h, hs, i, r, hi, hr, hpr => by
    rw [bestB_succ] at h
    cases hn : L[n]? with
    | none =>
      rw [hn] at h
      by_cases e : i = n
      · subst e; rw [hn] at hr; cases hr
      · exact best_prop h hs i r (by omega) hr hpr
    | some t =>
      rw [hn] at h
      simp only at h
      cases hp : p t with
      | false =>
        rw [hp] at h
        simp only [Bool.false_eq_true, if_false] at h
        by_cases e : i = n
        · subst e; rw [hn] at hr; cases hr; rw [hp] at hpr; cases hpr
        · exact best_prop h hs i r (by omega) hr hpr
      | true =>
        rw [hp] at h
        simp only [if_true] at h
        cases hb : bestB L p rk n with
        | none =>
          rw [hb] at h
          obtain rfl : n = j := by simpa using h
          by_cases e : i = n
          · subst e; rw [hs] at hr; cases hr; exact .inr ⟨rfl, Nat.le_refl _⟩
          · have := best_none hb i r (by omega) hr
            rw [this] at hpr; cases hpr
        | some j0 =>
          rw [hb] at h
          obtain ⟨u, hu, _, hj0⟩ := best_spec hb
          simp only [List.getD_eq_getElem?_getD, hu, Option.getD_some] at h
          split at h
          · rename_i hlt
            obtain rfl : n = j := by simpa using h
            rw [hn] at hs
            obtain rfl := Option.some.inj hs
            by_cases e : i = n
            · subst e; rw [hn] at hr; cases hr; exact .inr ⟨rfl, Nat.le_refl _⟩
            · rcases best_prop hb hu i r (by omega) hr hpr with h1 | h1 <;> exact .inl (by omega)
          · rename_i hlt
            obtain rfl : j0 = j := by simpa using h
            rw [hu] at hs
            obtain rfl := Option.some.inj hs
            by_cases e : i = n
            · subst e; rw [hn] at hr; cases hr
              by_cases he : rk r = rk u
              · exact .inr ⟨he, by omega⟩
              · exact .inl (by omega)
            · exact best_prop hb hu i r (by omega) hr hpr
theorem best_of {n j : Nat} {s : Rl} (hj : j < n) (hs : L[j]? = some s) (hp : p s = true) (h : ∀ i r, i < n → L[i]? = some r → p r = true → rk r < rk s ∨ rk r = rk s ∧ j ≤ i) : bestB L p rk n = some j := by
  cases hb : bestB L p rk n with
  | none =>
    have := best_none hb j s hj hs
    rw [this] at hp; cases hp
  | some j' =>
    obtain ⟨s', hs', hp', hj'⟩ := best_spec hb
    have h1 := h j' s' hj' hs' hp'
    have h2 := best_prop hb hs' j s hj hs hp
    congr 1
    omega
end
/-- A rule for addresses covers an address if its prefix lies on the address's path. -/
theorem cover {r : Rl} (hr : validR r = true) (hgr : GoodR r) (hs : r.2.1.size = 0) {six : Bool} {bs : List Int} (hg : GoodA bs) (hva : validA six bs = true) :
    contP r.2.2.1 six bs = true ↔ ∃ k : Nat, k ≤ bitN six ∧ keyP r.2.2.1 = keyA six bs k ∧ r.2.2.1.2.2 = k := by
  have hok : OkP r.2.2.1 := by
    unfold validR at hr
    rw [if_pos hs] at hr
    simp only [Bool.and_eq_true] at hr
    exact ⟨hgr.1, hr.2⟩
  constructor
  · intro h
    unfold contP at h
    simp only [Bool.and_eq_true, beq_iff_eq, decide_eq_true_eq] at h
    obtain ⟨⟨⟨_, _⟩, h6⟩, h4⟩ := h
    have hn := hok.nat.1
    have hrg := hok.rng
    have hb := bitN_eq r.2.2.1.1
    refine ⟨r.2.2.1.2.2.toNat, by rw [← h6]; omega, ?_, hn.symm⟩
    show keyA r.2.2.1.1 r.2.2.1.2.1 _ = _
    rw [h6, ← h4]
    have hn2 : truncL bs r.2.2.1.2.2 = truncL bs ((r.2.2.1.2.2.toNat : Nat) : Int) := by rw [hn]
    rw [hn2]
    exact keyA_trunc six hg hok.nat.2
  · rintro ⟨k, hk, hkey, hbits⟩
    have hkL : (k : Int) ≤ bitL six := by rw [bitN_eq]; omega
    have hk2 := okP_of hg hva hkL
    have := keyP_inj hok hk2 (hkey.trans (keyP_of hg hkL).symm)
    unfold contP
    rw [this]
    simp [hk2.v, hva]
section
variable {L : List Rl} {six : Bool} {bs : List Int} {port : Int} {m : KM}
theorem pA_iff {r : Rl} : pA six bs port r = true ↔ r.2.1.size = 0 ∧ portR r port = true ∧ contP r.2.2.1 six bs = true := by
  unfold pA portR
  simp only [Bool.and_eq_true, decide_eq_true_eq]
  constructor
  · rintro ⟨⟨⟨a, b⟩, c⟩, d⟩; exact ⟨a, ⟨b, c⟩, d⟩
  · rintro ⟨a, ⟨b, c⟩, d⟩; exact ⟨⟨⟨a, b⟩, c⟩, d⟩
/-- Each fitting rule stands in the list under some prefix on the address's path. -/
theorem fit_at (hL : ∀ r ∈ L, validR r = true ∧ GoodR r) (hg : GoodA bs) (hm : ∀ κ, m κ = none → ixK L κ L.length = []) {i : Nat} {r : Rl} (hi : L[i]? = some r) (hp : pA six bs port r = true) :
    ∃ k v, (k, v) ∈ mK m six bs ∧ (i : Int) ∈ ixK L (keyA six bs k) L.length ∧ portI L port i = true ∧ rkA r = k := by
  obtain ⟨h1, h2, h3⟩ := pA_iff.1 hp
  obtain ⟨hv, hgr⟩ := hL r (List.mem_of_getElem? hi)
  have hva : validA six bs = true := by
    unfold contP at h3
    simp only [Bool.and_eq_true] at h3
    exact h3.1.1.2
  obtain ⟨k, hk, hkey, hb⟩ := (cover hv hgr h1 hg hva).1 h3
  have hmem : (i : Int) ∈ ixK L (keyA six bs k) L.length := ixK_mem.2 ⟨i, (List.getElem?_eq_some_iff.1 hi).1, rfl, r, hi, h1, hkey⟩
  cases hmk : m (keyA six bs k) with
  | none => rw [hm _ hmk] at hmem; cases hmem
  | some v => exact ⟨k, v, mK_mem.2 ⟨hva, hk, hmk⟩, hmem, by unfold portI; rw [Int.toNat_natCast, hi]; exact h2, hb⟩
theorem miss_best (hL : ∀ r ∈ L, validR r = true ∧ GoodR r) (hg : GoodA bs) (hm : ∀ κ, m κ = none → ixK L κ L.length = []) (h : ∀ x ∈ mK m six bs, (ixK L (keyA six bs x.1) L.length).find? (portI L port) = none) :
    bestB L (pA six bs port) rkA L.length = none := by
  cases hb : bestB L (pA six bs port) rkA L.length with
  | none => rfl
  | some j =>
    obtain ⟨s, hs, hp, _⟩ := best_spec hb
    obtain ⟨k, v, h1, h2, h3, _⟩ := fit_at hL hg hm hs hp
    have := List.find?_eq_none.1 (h _ h1) _ h2
    exact absurd h3 this
theorem hit_best (hL : ∀ r ∈ L, validR r = true ∧ GoodR r) (hg : GoodA bs) (hm : ∀ κ, m κ = none → ixK L κ L.length = []) {l1 l2 : List (Nat × Value)} {e : Nat × Value} (hmk : mK m six bs = l1 ++ e :: l2)
    (h2 : ∀ x ∈ l2, (ixK L (keyA six bs x.1) L.length).find? (portI L port) = none) {i : Int} (hi : (ixK L (keyA six bs e.1) L.length).find? (portI L port) = some i) :
    optI (bestB L (pA six bs port) rkA L.length) = i := by
  have hmem := List.mem_of_find?_eq_some hi
  have hq := List.find?_some hi
  obtain ⟨j, hj, rfl, r, hr, hs, hkey⟩ := ixK_mem.1 hmem
  obtain ⟨hv, hgr⟩ := hL r (List.mem_of_getElem? hr)
  obtain ⟨hva, hke, _⟩ := mK_mem.1 (show (e.1, e.2) ∈ mK m six bs by rw [hmk]; simp)
  have hport : portR r port = true := by
    unfold portI at hq
    rwa [Int.toNat_natCast, hr] at hq
  have hbits : r.2.2.1.2.2 = e.1 := by
    have hkL : (e.1 : Int) ≤ bitL six := by rw [bitN_eq]; omega
    have := keyP_inj (by
      have hv' := hv
      unfold validR at hv'
      rw [if_pos hs] at hv'
      simp only [Bool.and_eq_true] at hv'
      exact ⟨hgr.1, hv'.2⟩) (okP_of hg hva hkL) (hkey.trans (keyP_of hg hkL).symm)
    rw [this]
  have hp : pA six bs port r = true := pA_iff.2 ⟨hs, hport, (cover hv hgr hs hg hva).2 ⟨e.1, hke, hkey, hbits⟩⟩
  have hsort := mK_sorted m six bs
  rw [hmk, List.pairwise_append] at hsort
  rw [best_of hj hr hp fun i' r' hi' hr' hp' => ?_]
  · rfl
  · obtain ⟨k', v', hm', hx', hq', hrk⟩ := fit_at hL hg hm hr' hp'
    have hre : rkA r = e.1 := hbits
    rw [hrk, hre]
    rcases Nat.lt_trichotomy k' e.1 with hlt | rfl | hgt
    · exact .inl (by omega)
    · refine .inr ⟨rfl, ?_⟩
      have := find_le (ixK_sorted L _ _) hi hx' hq'
      omega
    · exfalso
      rw [hmk, List.mem_append, List.mem_cons] at hm'
      have hin : (k', v') ∈ l2 := by
        rcases hm' with h1 | rfl | h1
        · have := hsort.2.2 _ h1 e (by simp)
          simp only at this
          omega
        · omega
        · exact h1
      exact absurd hq' (List.find?_eq_none.1 (h2 _ hin) _ hx')
end
end Go.Proofs.YtbmbnibamhgfmaaDoor

/- acl.New (printed by mk_acln.py). -/
namespace Go.Proofs.YtbmbnibamhgfmaaDoor
open Go.RowKit

/-- An access control list in memory: its rules, and its trie of rule numbers; FF: the blocks that it takes. -/
def AclM (w : World) (g : Nat) (L : List Rl) (FF : List Nat) : Prop := ∃ (A : Option Addr) (c gt : Nat) (m : KM) (nE : Int) (F : List Nat),
  Blk w g 94 [.slice A L.length c, .pointer (some ⟨gt, 0, none⟩)] ∧ Rd w w.heap.size 22 A L.length (L.flatMap rulC) ∧ TrML w gt m nE F ∧ (∀ κ, m κ = none → ixK L κ L.length = []) ∧
  (∀ κ v, m κ = some v → ∃ A' c', v = .slice A' (ixK L κ L.length).length c' ∧ Rd w w.heap.size 1 A' (ixK L κ L.length).length ((ixK L κ L.length).map (Value.int .i64)) ∧ ∀ b ∈ blkOf A', b ∈ FF) ∧
  g ∈ FF ∧ (∀ b ∈ blkOf A, b ∈ FF) ∧ (∀ b ∈ F, b ∈ FF) ∧ ∀ b ∈ FF, b < w.heap.size
theorem AclM.ch {w w' : World} {g : Nat} {L : List Rl} {FF S : List Nat} (h : AclM w g L FF) (hc : Ch S w w') (hS : ∀ b ∈ FF, b ∉ S) : AclM w' g L FF := by
  obtain ⟨A, c, gt, m, nE, F, h1, h2, h3, h4, h5, h6, h7, h8, h9⟩ := h
  refine ⟨A, c, gt, m, nE, F, h1.ch hc (hS _ h6), (h2.ch hc (Nat.le_refl _) (fun b hb => hS b (h7 b hb))).more hc.size, h3.ch hc (fun b hb => hS b (h8 b hb)), h4, fun κ v hv => ?_, h6, h7, h8, fun b hb => Nat.lt_of_lt_of_le (h9 b hb) hc.size⟩
  obtain ⟨A', c', e, r, hb⟩ := h5 κ v hv
  exact ⟨A', c', e, (r.ch hc (Nat.le_refl _) (fun b h => hS b (hb b h))).more hc.size, hb⟩
theorem AclM.nil {w w' : World} {g : Nat} {L : List Rl} {FF : List Nat} (h : AclM w g L FF) (hc : Ch [] w w') : AclM w' g L FF := h.ch hc (by simp)
theorem AclM.lt {w : World} {g : Nat} {L : List Rl} {FF : List Nat} (h : AclM w g L FF) : ∀ b ∈ FF, b < w.heap.size := by
  obtain ⟨_, _, _, _, _, _, _, _, _, _, _, _, _, _, h9⟩ := h
  exact h9
/-- What acl.New answers. -/
def AclRes (L : List Rl) (w : World) (e : Ending) (w' : World) : Prop :=
  (((L.length ≤ 32 ∧ L.all validR = true) ∧ ∃ g, e = .returned (.tuple #[.pointer (some ⟨g, 0, none⟩), .int .i64 0]) ∧ AclM w' g L (newB w w')) ∨
   (¬ (L.length ≤ 32 ∧ L.all validR = true) ∧ e = .returned (.tuple #[.pointer none, .int .i64 1]))) ∧ Ch [] w w'
theorem AclRes.bad {L : List Rl} {w w' : World} (h : ¬ (L.length ≤ 32 ∧ L.all validR = true)) (hc : Ch [] w w') : AclRes L w (.returned (.tuple #[.pointer none, .int .i64 1])) w' := ⟨.inr ⟨h, rfl⟩, hc⟩
theorem validR_pfx {r : Rl} (hg : GoodR r) (h : validR r = true) (hs : r.2.1.size = 0) : OkP r.2.2.1 := by
  unfold validR at h
  rw [if_pos hs] at h
  simp only [Bool.and_eq_true] at h
  exact ⟨hg.1, h.2⟩
theorem pfx_zeroC : rulC (false, ⟨#[]⟩, zeroP, 0, 0) = [.bool false, .string ⟨#[]⟩, .bool false, .int .u8 0, .int .u8 0, .int .u8 0, .int .u8 0, .int .u8 0, .int .u8 0, .int .u8 0, .int .u8 0, .int .u8 0, .int .u8 0, .int .u8 0, .int .u8 0, .int .u8 0, .int .u8 0, .int .u8 0, .int .u8 0, .int .i64 0, .int .i64 0, .int .i64 0] := rfl
set_option maxRecDepth 100000 in
set_option maxHeartbeats 16000000 in
theorem aclNew (w : World) (A : Option Addr) (n cap B : Nat) (L : List Rl) (h : Rd w B 22 A n (L.flatMap rulC)) (hB : B ≤ w.heap.size) (hl : n ≤ 140737488351232) (hG : ∀ r ∈ L, GoodR r) :
    Calls Tryd.prog 27 #[.slice A n cap] w (AclRes L w) := by
  have hn : L.length = n := h.count (fun r hr => rul_len (hG r hr).1.1) (by omega)
  by_cases h32 : n ≤ 32
  · have hnp : ¬ (n : Int) > 32 := by omega
    have HCL := hid (slCloneR w A n cap B L h hB (by omega))
    have HG := hid hG
    have HN := hid hn
    clear h hG hn
    go_enter Tryd.func27, Tryd.ntmps27
    go_upto_region 4 with (first
      | go_big_skip
      | (go_at_call 42; (with_reducible refine (HCL.out).mono ?_); rintro e w1 ⟨A1, c1, rfl, own, C1⟩; have ob1 := own.blks)
      | (go_at_call 43; (with_reducible refine (trNewFL _).mono ?_); rintro e w2 ⟨rfl, TX, C2⟩; have glt := TX.glt))
    have BG : Blk (w2.alloc (.cells #[.slice A1 n c1, .pointer (some ⟨w1.heap.size, 0, none⟩)] 94)) w2.heap.size 94 [.slice A1 n c1, .pointer (some ⟨w1.heap.size, 0, none⟩)] := Blk.new _ _ _
    have Ca : Ch [] w2 (w2.alloc (.cells #[.slice A1 n c1, .pointer (some ⟨w1.heap.size, 0, none⟩)] 94)) := (Ch.refl _ _).alloc _
    replace TX := TX.nil Ca
    replace own := (own.ch C2 (by simp)).ch Ca (by simp)
    have CX := (C1.trans C2).trans Ca
    have hsz : w2.heap.size + 1 ≤ (w2.alloc (.cells #[.slice A1 n c1, .pointer (some ⟨w1.heap.size, 0, none⟩)] 94)).heap.size := by simp
    have HD : Hid (w.heap.size ≤ w1.heap.size ∧ w1.heap.size < w2.heap.size ∧ ∀ b ∈ blkOf A1, w.heap.size ≤ b ∧ b < w1.heap.size) := ⟨C1.size, glt, ob1⟩
    clear C1 C2 Ca glt ob1 HCL
    generalize hw3 : w2.alloc (.cells #[.slice A1 n c1, .pointer (some ⟨w1.heap.size, 0, none⟩)] 94) = w3 at BG TX own CX hsz ⊢
    clear hw3
    have HDT : Hid (w2.heap.size + 1 ≤ w3.heap.size) := hsz
    clear hsz
    generalize w1.heap.size = gt at TX BG HD ⊢
    generalize w2.heap.size = gA at BG HD HDT ⊢
    have e0 := BG.cell 0
    have SL : Sl w3 (gA + 1) (fun _ => none) (fun κ => ixK L κ 0) [gt] := Sl.empty _ _ _
    go_wp2_with fail
    go_loopw [22] (fun i wr => ∃ (k : Nat) (m : KM) (nE : Int) (F : List Nat), i = .int .i64 k ∧ k ≤ n ∧ 0 ≤ nE ∧ nE ≤ k ∧ TrML wr gt m nE F ∧ Sl wr (gA + 1) m (fun κ => ixK L κ k) F ∧ Hid (∀ b ∈ F, b = gt ∨ gA + 1 ≤ b) ∧ Hid (gA + 1 ≤ wr.heap.size) ∧ Blk wr gA 94 [.slice A1 n c1, .pointer (some ⟨gt, 0, none⟩)] ∧ Own wr w.heap.size 61 22 A1 n c1 (L.flatMap rulC) ∧ Hid (∀ r ∈ L.take k, validR r = true) ∧ Ch [] w wr) (fun i _ => n - (intOf i).toNat)
    case atStart => exact ⟨0, _, 0, [gt], rfl, by omega, by omega, by omega, TX, SL, fun b hb => .inl (List.mem_singleton.1 hb), HDT, BG, own, fun r hr => (by simp at hr), CX⟩
    case round =>
      clear TX SL HDT BG own CX e0
      obtain ⟨k, m, nE, F, rfl, hk, hE0, hE1, TX, SL, HF, HSZ, BG, own, HVK, CX⟩ := hrel
      by_cases hlt : k < n
      · obtain ⟨r, hr⟩ : ∃ r, L[k]? = some r := ⟨_, List.getElem?_eq_getElem (by rw [HN.out]; exact hlt)⟩
        have hgr := HG.out r (List.mem_of_getElem? hr)
        obtain ⟨_, hrx⟩ := own.rd.rangeE (fun x hx => rul_len (HG.out x hx).1.1) (by omega)
        obtain ⟨b, off, rfl, hb, hrx⟩ := hrx (by omega)
        have HR := hid (hrx k r hr)
        have HIR := hid (rul_inf (r := r) hgr.1.1)
        have HLR : Hid ((rulC (false, ⟨#[]⟩, zeroP, 0, 0)).length = (rulC r).length) := by show _ = _; rw [rul_len hgr.1.1]; rfl
        have HRO := hid (rul_one r)
        have HV := hid (aclValid r hgr)
        have hki : (k : Int) < n := by omega
        have hk0 : (0 : Int) ≤ k := by omega
        have HRK := hid hr
        have HGR := hid hgr
        clear hr hgr hrx hb
        have HPC : Hid (∀ j v, (pfxC r.2.2.1)[j]? = some v → (rulC r)[2 + j]? = some v) := fun j v hj => rul_pfx hj
        have HIPC := hid (pfx_inf (p := r.2.2.1) HGR.out.1.1)
        have HSX : Hid ((rulC r)[1]? = some (.string r.2.1)) := rfl
        have HGT : Hid (OkP r.2.2.1 → ∀ (w' : World) (A5 : Option Addr) (n5 c5 : Nat), (m (keyP r.2.2.1)).getD (.slice none 0 0) = .slice A5 n5 c5 → TrML w' gt m nE F → Calls Tryd.prog 44 #[.pointer (some ⟨gt, 0, none⟩), .agg (pfxC r.2.2.1).toArray] w' fun e w'' => e = .returned (.tuple #[.slice A5 n5 c5, .bool (m (keyP r.2.2.1)).isSome]) ∧ Ch [] w' w'') := fun ok w' A5 n5 c5 hg h => by
          have := trGetFL h r.2.2.1 ok.g (mget_ok ok)
          rw [hg] at this
          exact this
        have HIN : Hid (OkP r.2.2.1 → ∀ (w' : World) (xa : Option Addr) (xn xc : Nat), TrML w' gt m nE F → Calls Tryd.prog 45 #[.pointer (some ⟨gt, 0, none⟩), .agg (pfxC r.2.2.1).toArray, .slice xa xn xc] w' fun e w'' => e = .returned (.bool true) ∧ ∃ F', TrML w'' gt (mset m (keyP r.2.2.1) (.slice xa xn xc)) (if m (keyP r.2.2.1) = none then nE + 1 else nE) F' ∧ Ch F w' w'' ∧ ∀ b ∈ F', b ∈ F ∨ w'.heap.size ≤ b) := fun ok w' xa xn xc h => trInsFL h (by omega) r.2.2.1 ok xa xn xc
        generalize rulC r = rc at HR HIR HLR HRO HV HPC HSX
        generalize pfxC r.2.2.1 = pc at HPC HIPC HGT HIN
        cases hv : validR r
        · rw [hv] at HV
          have HBAD : Hid (¬ (L.length ≤ 32 ∧ L.all validR = true)) := fun hh => by
            have := List.all_eq_true.1 hh.2 r (List.mem_of_getElem? HRK.out)
            rw [hv] at this; cases this
          clear hv HVK HPC HIPC HGT HIN
          go_wp2_with (first
            | go_big_skip
            | (refine wpList_load_want rfl 61 _ rfl b (off + k * 22) rfl rc _ HR.out Tryd.underlying61 rfl HIR.out ?_)
            | (refine wpList_storeB rfl 61 _ _ rfl wr.heap.size 61 (rulC (false, ⟨#[]⟩, zeroP, 0, 0)) rc rfl rfl (Blk.new _ _ _) HIR.out HLR.out HRO.out ?_; intro w4 PB D Z; clear Z; have D2 := ((Ch.refl [] wr).alloc _).step D (fun i hi => .inr (by simp at hi; omega)); clear D; replace TX := TX.nil D2; replace SL := SL.nil D2; replace BG := BG.ch D2 (by simp); replace own := own.ch D2 (by simp); replace CX := CX.trans D2; replace HSZ := hid (Nat.le_trans HSZ.out D2.size); clear D2)
            | (refine wpList_load_want rfl 61 _ rfl wr.heap.size 0 rfl rc _ PB.range Tryd.underlying61 rfl HIR.out ?_)
            | (go_at_call 24; (with_reducible refine (HV.out _).mono ?_); rintro e w5 ⟨rfl, C9⟩; replace TX := TX.nil C9; replace SL := SL.nil C9; replace BG := BG.ch C9 (by simp); replace own := own.ch C9 (by simp); replace CX := CX.trans C9; replace PB := PB.ch C9 (by simp); replace HSZ := hid (Nat.le_trans HSZ.out C9.size); clear C9; have e1 := (PB.cell 1).trans HSX.out))
          go_ret2
          exact AclRes.bad HBAD.out CX
        · rw [hv] at HV
          have HVK2 : Hid (∀ x ∈ L.take (k + 1), validR x = true) := fun x hx => by
            rw [take_one HRK.out, List.mem_append, List.mem_singleton] at hx
            rcases hx with hx | rfl
            · exact HVK.out x hx
            · exact hv
          by_cases hs : r.2.1.size = 0
          · have he := emp0 hs
            have HOK := validR_pfx HGR.out hv hs
            have HX : Hid (∀ κ, ixK L κ (k + 1) = if κ = keyP r.2.2.1 then ixK L (keyP r.2.2.1) k ++ [(k : Int)] else ixK L κ k) := fun κ => ixK_step HRK.out hs κ
            have hl5 := ixK_le L (keyP r.2.2.1) k
            replace HGT := hid (HGT.out HOK)
            replace HIN := hid (HIN.out HOK)
            clear hv HVK hs HOK
            generalize keyP r.2.2.1 = κ0 at HX hl5 HGT HIN
            obtain ⟨A5, c5, hget, own5, hA5, hap5⟩ := SL.get κ0
            have HB5 : Hid (wr.heap.size ∉ blkOf A5) := fun h => Nat.lt_irrefl _ (own5.blks _ h).2
            go_upto_region 10 with (first
              | go_big_skip
              | (refine wpList_load_want rfl 61 _ rfl b (off + k * 22) rfl rc _ HR.out Tryd.underlying61 rfl HIR.out ?_)
              | (refine wpList_storeB rfl 61 _ _ rfl wr.heap.size 61 (rulC (false, ⟨#[]⟩, zeroP, 0, 0)) rc rfl rfl (Blk.new _ _ _) HIR.out HLR.out HRO.out ?_; intro w4 PB D Z; clear Z; have D2 := ((Ch.refl [] wr).alloc _).step D (fun i hi => .inr (by simp at hi; omega)); clear D; replace TX := TX.nil D2; replace SL := SL.nil D2; replace BG := BG.ch D2 (by simp); replace own := own.ch D2 (by simp); replace CX := CX.trans D2; replace own5 := own5.ch D2 (by simp); replace HSZ := hid (Nat.le_trans HSZ.out D2.size); clear D2)
              | (refine wpList_load_want rfl 61 _ rfl wr.heap.size 0 rfl rc _ PB.range Tryd.underlying61 rfl HIR.out ?_)
              | (go_at_call 24; (with_reducible refine (HV.out _).mono ?_); rintro e w5 ⟨rfl, C9⟩; replace TX := TX.nil C9; replace SL := SL.nil C9; replace BG := BG.ch C9 (by simp); replace own := own.ch C9 (by simp); replace CX := CX.trans C9; replace own5 := own5.ch C9 (by simp); replace PB := PB.ch C9 (by simp); replace HSZ := hid (Nat.le_trans HSZ.out C9.size); clear C9; have e1 := (PB.cell 1).trans HSX.out))
            clear e1
            obtain ⟨n5, hn5⟩ : ∃ n5, (ixK L κ0 k).length = n5 := ⟨_, rfl⟩
            rw [hn5] at hl5
            simp only [hn5] at hget own5
            have HG5 := hid (fun (x : After w5) => HGT.out x.w A5 n5 c5 hget (TX.nil x.ch))
            clear hget HGT
            generalize (m κ0).isSome = ok5 at HG5
            generalize wr.heap.size = gr at PB HB5 ⊢
            have HRP := hid (fun (w' : World) (c : Ch [] w5 w') => (PB.ch c (by simp)).rangeMid 2 _ HPC.out)
            have e1x : ∀ x : After w5, x.w.cell? ⟨gA, 1, none⟩ = some (.pointer (some ⟨gt, 0, none⟩)) := fun x => (BG.ch x.ch (by simp)).cell 1
            refine wp_region_quietA (w5) (by kernel_rfl) (by kernel_rfl) (Ch.refl _ _) ?_
            repeat (first
              | (go_big_quiet_want; refine quiet_rowA 59 _ rfl gr 2 rfl pc _ HRP.out Tryd.underlying59 rfl HIPC.out ?_; simp only [Act.put, List.setIfInBounds_toArray, List.set_cons_succ, List.set_cons_zero]; go_big_quiet_on)
              | go_big_quiet_step (first
                | (go_at_call 44; with_reducible exact after_of (HG5.out _))))
            refine wpQuiet_nil ?_
            intro wq hwq
            clear e1x HG5 HRP
            go_upto_region 11 with fail
            replace TX := TX.nil hwq
            replace SL := SL.nil hwq
            replace BG := BG.ch hwq (by simp)
            replace own := own.ch hwq (by simp)
            replace own5 := own5.ch hwq (by simp)
            replace CX := CX.trans hwq
            replace PB := PB.ch hwq (by simp)
            replace HSZ := hid (Nat.le_trans HSZ.out hwq.size)
            clear hwq
            have e1 := BG.cell 1
            have hSZ : gA + 1 ≤ wq.heap.size := HSZ.out
            have hFq := TX.lt
            refine wp_region_stagesM [⟨0, 16, 8796093022208⟩, ⟨1, 8796093022208, 17592186044416⟩, ⟨2, 17592186044416, 35184372088832⟩, ⟨4, 35184372088832, 70368744177664⟩, ⟨0, 64, 140737488355328⟩, ⟨16, 140737488355328, 281474976710656⟩, ⟨0, 128, 562949953421312⟩, ⟨0, 32, 1125899906842624⟩, ⟨128, 1125899906842624, 2251799813685248⟩, ⟨320, 2814749767106560, 4503599627370496⟩, ⟨552, 4855443348258816, 9007199254740992⟩] [([0, 1, 2, 3, 4, 5, 6, 7], 8, [0, 1, 2, 3, 4, 5, 6]), ([], 9, [0, 1, 2, 3, 4, 5]), ([], 10, [])] [] (by kernel_rfl) (by kernel_rfl) ?_
            refine wpStages_step ?_
            try simp only [pick, List.map_cons, List.map_nil, List.getD_cons_zero, List.getD_cons_succ]
            repeat (first
              | (refine wpQuiet_row rfl 59 _ rfl gr 2 rfl pc _ (fun w' ⟨q, hq⟩ => hq ▸ (PB.drewN q).rangeMid 2 _ HPC.out) Tryd.underlying59 rfl HIPC.out ?_; simp only [Act.put, List.setIfInBounds_toArray, List.set_cons_succ, List.set_cons_zero])
              | go_big_quiet_step (fail))
            refine wpQuiet_nil ?_
            intro n0
            try simp only [pick, List.map_cons, List.map_nil, List.getD_cons_zero, List.getD_cons_succ]
            go_wp2_with fail
            have ownA := (own5.drewN n0).alloc (.cells #[.int .i64 k] 3)
            have rdN := Rd.new (wq.drewN n0) 1 [Value.int .i64 k] 1 rfl 3
            have Da : Ch [] wq ((wq.drewN n0).alloc (.cells #[.int .i64 k] 3)) := ((Ch.refl [] wq).drewN n0).alloc _
            generalize hwa : (wq.drewN n0).alloc (.cells #[.int .i64 k] 3) = wa at ownA rdN Da ⊢
            clear hwa e1
            replace PB := PB.ch Da (by simp)
            replace BG := BG.ch Da (by simp)
            have e1 := BG.cell 1
            have hSa : gA + 1 ≤ wa.heap.size := Nat.le_trans hSZ Da.size
            refine stagePost_mk ?_ ?_
            · intro o' ho'
              simp only [pick, List.map_cons, List.map_nil, List.getD_cons_zero, List.getD_cons_succ, List.mem_cons, List.not_mem_nil, or_false] at ho'
              rcases ho' with rfl | rfl | rfl | rfl | rfl | rfl | rfl
              all_goals
                refine float_any ?_
                repeat (first
                  | (refine wpQuiet_row rfl 59 _ rfl gr 2 rfl pc _ (fun w' ⟨q, hq⟩ => hq ▸ (PB.drewN q).rangeMid 2 _ HPC.out) Tryd.underlying59 rfl HIPC.out ?_; simp only [Act.put, List.setIfInBounds_toArray, List.set_cons_succ, List.set_cons_zero])
                  | go_big_quiet_step (fail))
                refine wpQuiet_nil ?_
                rfl
            refine wpStages_step ?_
            try simp only [pick, List.map_nil]
            repeat (first
              | (refine wpQuiet_row rfl 59 _ rfl gr 2 rfl pc _ (fun w' ⟨q, hq⟩ => hq ▸ (PB.drewN q).rangeMid 2 _ HPC.out) Tryd.underlying59 rfl HIPC.out ?_; simp only [Act.put, List.setIfInBounds_toArray, List.set_cons_succ, List.set_cons_zero])
              | go_big_quiet_step (fail))
            refine wpQuiet_nil ?_
            intro n1
            try simp only [pick, List.map_cons, List.map_nil, List.getD_cons_zero, List.getD_cons_succ]
            go_wp2_with (at_builtin; (refine wpList_app _ rfl (.tmp 49) (.tmp 51) _ rfl (gA + 1) 3 _ 1 8 Tryd.underlying41 int_infoM rfl (by omega) _ _ _ _ rfl (ownA.drewN n1) _ _ _ _ [Value.int .i64 k] rfl (rdN.drewN n1) (by simp [Value.oneCell']) (by unfold maxLen; omega) (by omega) hSa ?_; intro A6 c6 wb own6 ch6 at6))
            clear e1
            have hb5 := own5.blks
            have hg5 : gA ∉ blkOf A5 := fun h => by have := (hb5 _ h).1; omega
            have Db : Ch (blkOf A5) wq wb := (Da.mono (fun _ _ h => by simp at h)).trans (((Ch.refl _ wa).drewN n1).trans ch6)
            replace PB := PB.ch (((Ch.refl _ wa).drewN n1).trans ch6) HB5.out
            replace BG := BG.ch (((Ch.refl _ wa).drewN n1).trans ch6) hg5
            have e1 := BG.cell 1
            refine stagePost_mk ?_ ?_
            · intro o' ho'
              simp only [pick, List.map_cons, List.map_nil, List.getD_cons_zero, List.getD_cons_succ, List.mem_cons, List.not_mem_nil, or_false] at ho'
              rcases ho' with rfl | rfl | rfl | rfl | rfl | rfl
              all_goals
                refine float_any ?_
                repeat (first
                  | (refine wpQuiet_row rfl 59 _ rfl gr 2 rfl pc _ (fun w' ⟨q, hq⟩ => hq ▸ (PB.drewN q).rangeMid 2 _ HPC.out) Tryd.underlying59 rfl HIPC.out ?_; simp only [Act.put, List.setIfInBounds_toArray, List.set_cons_succ, List.set_cons_zero])
                  | go_big_quiet_step (fail))
                refine wpQuiet_nil ?_
                rfl
            refine wpStages_step ?_
            try simp only [pick, List.map_nil]
            repeat (first
              | (refine wpQuiet_row rfl 59 _ rfl gr 2 rfl pc _ (fun w' ⟨q, hq⟩ => hq ▸ (PB.drewN q).rangeMid 2 _ HPC.out) Tryd.underlying59 rfl HIPC.out ?_; simp only [Act.put, List.setIfInBounds_toArray, List.set_cons_succ, List.set_cons_zero])
              | go_big_quiet_step (fail))
            refine wpQuiet_nil ?_
            intro n2
            try simp only [pick, List.map_cons, List.map_nil, List.getD_cons_zero, List.getD_cons_succ]
            have TXb := (TX.ch Db (fun x hx h => hA5 x h hx)).drewN n2
            go_wp2_with (go_at_call 45; (with_reducible refine (HIN.out _ A6 _ c6 TXb).mono ?_); rintro e wc ⟨rfl, F', TX', C', G'⟩)
            have SLc := Sl.put (wb := wb.drewN n2) (SL.nil Da) (fun x hx => Nat.lt_of_lt_of_le (hFq x hx) Da.size) hA5 hap5 (by
              have := own6.drewN n2
              rw [hn5]
              rw [List.map_append]
              exact this) ((((Ch.refl _ wa).drewN n1).trans ch6).drewN n2) (fun x hx => (at6 x hx).imp id (fun e => Nat.le_of_eq e.symm)) C' G'
            rw [hn5] at SLc
            have hEE : 0 ≤ (if m κ0 = none then nE + 1 else nE) ∧ (if m κ0 = none then nE + 1 else nE) ≤ (k : Int) + 1 := by split <;> omega
            generalize (if m κ0 = none then nE + 1 else nE) = nE' at TX' hEE
            obtain ⟨hE2, hE3⟩ := hEE
            have hd := HD.out
            have hbF : b ∉ F := fun h => by
              have h1 := hd.2.2 b (by simp [blkOf])
              rcases HF.out b h with h2 | h2 <;> omega
            have hb5' : b ∉ blkOf A5 := fun h => by
              have h1 := hd.2.2 b (by simp [blkOf])
              have := (hb5 b h).1; omega
            have hgF : gA ∉ F := fun h => by rcases HF.out gA h with h2 | h2 <;> omega
            replace BG := (BG.drewN n2).ch C' hgF
            replace own := ((own.ch Db (fun x hx h => hb5' (by simp [blkOf] at hx; exact hx ▸ h))).drewN n2).ch C' (fun x hx h => hbF (by simp [blkOf] at hx; exact hx ▸ h))
            replace CX := ((CX.step Db (fun x hx => .inr (by have := (hb5 x hx).1; omega))).drewN n2).step C' (fun x hx => .inr (by rcases HF.out x hx with h2 | h2 <;> omega))
            have HF' : Hid (∀ x ∈ F', x = gt ∨ gA + 1 ≤ x) := fun x hx => by
              rcases G' x hx with h1 | h1
              · exact HF.out x h1
              · have h2 : wb.heap.size ≤ x := h1
                have h3 := Db.size
                exact .inr (by omega)
            have HSZ' : Hid (gA + 1 ≤ wc.heap.size) := Nat.le_trans hSZ (Nat.le_trans Db.size (show wb.heap.size ≤ wc.heap.size from C'.size))
            clear TXb hd G' C' Db hbF hb5' hgF
            refine stagePost_mk (by simp [pick]) ?_
            refine wpStages_last ?_
            try simp only [pick, List.map_nil]
            repeat (first
              | (refine wpQuiet_row rfl 59 _ rfl gr 2 rfl pc _ (fun w' ⟨q, hq⟩ => hq ▸ (PB.drewN q).rangeMid 2 _ HPC.out) Tryd.underlying59 rfl HIPC.out ?_; simp only [Act.put, List.setIfInBounds_toArray, List.set_cons_succ, List.set_cons_zero])
              | go_big_quiet_step (fail))
            refine wpQuiet_nil ?_
            intro n3
            go_wp2_with fail
            go_roundw
            case rel => exact ⟨k + 1, _, nE', F', by go_num, by omega, hE2, by omega, TX'.drewN n3, (SLc.congr HX.out).nil ((Ch.refl _ _).drewN n3), HF', HSZ', BG.drewN n3, own.drewN n3, HVK2, CX.drewN n3⟩
            case measure => simp [intOf]; omega
          · have he := emp1 hs
            have HX : Hid (∀ κ, ixK L κ (k + 1) = ixK L κ k) := fun κ => ixK_skip HRK.out hs κ
            clear hv HVK HPC HIPC hs HGT HIN
            go_wp2_with (first
              | go_big_skip
              | (refine wpList_load_want rfl 61 _ rfl b (off + k * 22) rfl rc _ HR.out Tryd.underlying61 rfl HIR.out ?_)
              | (refine wpList_storeB rfl 61 _ _ rfl wr.heap.size 61 (rulC (false, ⟨#[]⟩, zeroP, 0, 0)) rc rfl rfl (Blk.new _ _ _) HIR.out HLR.out HRO.out ?_; intro w4 PB D Z; clear Z; have D2 := ((Ch.refl [] wr).alloc _).step D (fun i hi => .inr (by simp at hi; omega)); clear D; replace TX := TX.nil D2; replace SL := SL.nil D2; replace BG := BG.ch D2 (by simp); replace own := own.ch D2 (by simp); replace CX := CX.trans D2; replace HSZ := hid (Nat.le_trans HSZ.out D2.size); clear D2)
              | (refine wpList_load_want rfl 61 _ rfl wr.heap.size 0 rfl rc _ PB.range Tryd.underlying61 rfl HIR.out ?_)
              | (go_at_call 24; (with_reducible refine (HV.out _).mono ?_); rintro e w5 ⟨rfl, C9⟩; replace TX := TX.nil C9; replace SL := SL.nil C9; replace BG := BG.ch C9 (by simp); replace own := own.ch C9 (by simp); replace CX := CX.trans C9; replace PB := PB.ch C9 (by simp); replace HSZ := hid (Nat.le_trans HSZ.out C9.size); clear C9; have e1 := (PB.cell 1).trans HSX.out))
            go_roundw
            case rel => exact ⟨k + 1, m, nE, F, by go_num, by omega, hE0, by omega, TX, SL.congr HX.out, HF, HSZ, BG, own, HVK2, CX⟩
            case measure => simp [intOf]; omega
      · obtain rfl : k = n := by omega
        have e0 := BG.cell 0
        go_wp2_with fail
        go_ret2
        have hN := HN.out
        subst hN
        have hall : L.all validR = true := List.all_eq_true.2 fun r hr => HVK.out r (by rw [List.take_of_length_le (Nat.le_refl _)]; exact hr)
        have hd := HD.out
        refine ⟨.inl ⟨⟨h32, hall⟩, gA, rfl, A1, c1, gt, m, nE, F, BG, own.rd, TX, SL.non, fun κ v hv => ?_, newB_mem (by omega) BG.lt, fun b hb => newB_mem (hd.2.2 b hb).1 (by have := (hd.2.2 b hb).2; have := BG.lt; omega), fun b hb => newB_mem (by rcases HF.out b hb with h | h <;> omega) (TX.lt b hb), fun b hb => (newB_ge hb).2⟩, CX⟩
        obtain ⟨A', c', e, ho, _⟩ := SL.own κ v hv
        exact ⟨A', c', e, ho.rd, fun b hb => newB_mem (by have := (ho.blks b hb).1; omega) (ho.blks b hb).2⟩
  · have hnp : (n : Int) > 32 := by omega
    have hbad : ¬ (L.length ≤ 32 ∧ L.all validR = true) := fun hh => h32 (by omega)
    have HBAD := hid hbad
    clear h hG hn hbad
    go_enter Tryd.func27, Tryd.ntmps27
    go_wp2_with fail
    go_ret2
    exact AclRes.bad HBAD.out (Ch.refl _ _)
end Go.Proofs.YtbmbnibamhgfmaaDoor

/- Regions within a round of a range over a function, by the plain walk. -/
namespace Go.Proofs.YtbmbnibamhgfmaaDoor
open Go.RowKit

section
variable {P : Program} {ops : Array Oper} {n lp : Nat} {Q : Exit → Act → World → Prop}
def noDeferB (l : List Oper) : Bool := l.all fun o => match o.op with | .defer _ => false | _ => true
theorem noDefer_of {o : Oper} {l : List Oper} (h : noDeferB (o :: l) = true) : (∀ c, o.op ≠ .defer c) ∧ noDeferB l = true := by
  unfold noDeferB at h
  rw [List.all_cons, Bool.and_eq_true] at h
  refine ⟨fun c hc => ?_, h.2⟩
  rw [hc] at h
  cases h.1
theorem noDefer_mem {l : List Oper} (h : noDeferB l = true) {o : Oper} (ho : o ∈ l) : ∀ c, o.op ≠ .defer c := fun c hc => by
  have := List.all_eq_true.1 h o ho
  rw [hc] at this
  cases this
abbrev inR (lp : Nat) : Fence := Fence.wide.inRound lp
theorem calls_inR {f : FuncId} {args : Array Value} {w : World} {R : Ending → World → Prop} (h : Calls P f args w R) : CallsIn (inR lp) n P f args w R := CallsIn.inRound lp (callsIn_wide.2 h)
theorem wide_of_wp {o : Oper} {a : Act} {w : World} {K K' : Act → World → Prop} (hd : ∀ c, o.op ≠ .defer c) (hK : ∀ a w, K a w → K' a w) (h : o.wp P a w K Q) : o.wpIn (inR lp) n P a w K' Q := by
  refine ⟨fun _ _ => trivial, ?_⟩
  unfold Oper.wp at h
  rw [Oper.semAt_eq _ _ _ hd]
  generalize (execOp a.eval o).run P w = r at h ⊢
  cases r with
  | ok x w' =>
    cases x with
    | value v => exact hK _ _ h
    | skip => exact hK _ _ h
    | defer d => exact hK _ _ h
    | enter f args =>
      refine ⟨fun hh => (by cases hh), calls_inR (Calls.mono h fun e w'' he => ?_)⟩
      cases e with
      | returned v => exact hK _ _ he
      | panicked ch => exact he
      | outgrown => exact he
    | row row args =>
      refine ⟨fun hh => (by cases hh), fun c cs _ => ?_⟩
      obtain ⟨v, w'', h1, h2⟩ := h c cs
      exact ⟨v, w'', hK _ _ h1, stepsIn_wide.2 h2⟩
    | _ => exact h.elim
  | halt x w' =>
    cases x with
    | panic v => exact h
    | _ => exact h.elim
theorem wpListIn_plainW (hq : ¬ LetsOut Q) : ∀ (l : List Oper) (a : Act) (w : World), noDeferB l = true → wpList P ops Q l a w → wpListIn (inR lp) n P ops Q l a w
  | [], _, _, _, h => h
  | o :: l, a, w, hn, h => by
    obtain ⟨h1, h2⟩ := noDefer_of hn
    unfold wpListIn
    unfold wpList at h
    split
    · rename_i hw
      rw [if_pos hw] at h
      rcases h with h | ⟨_, h⟩
      · exact wide_of_wp h1 (fun a w => wpListIn_plainW hq l a w h2) h
      · exact absurd h hq
    · rename_i hw
      rw [if_neg hw] at h
      exact ⟨fun _ _ => trivial, wpListIn_plainW hq l _ w h2 h⟩
theorem wpIn_region_plainW {id : Nat} {a : Act} {w : World} {l : List Oper} (hn : noDeferB l = true) (hq : ¬ LetsOut Q) (h : wpList P l.toArray Q l a w) : (Code.region id l.toArray false).wpIn (inR lp) n P Q a w :=
  wpIn_region_lit (wpListIn_plainW hq l a w hn h)
variable {C : World → Prop}
theorem wideQ_op {i : Nat} {a : Act} {K : Act → Prop} {K' : Act → World → Prop} {w : World} (hn : ∀ o, ops[i]? = some o → ∀ c, o.op ≠ .defer c) (hC : C w) (hK : ∀ a w, C w → K a → K' a w) (h : qOp P ops C i K a) : wpOpIn (inR lp) n P ops Q i K' a w := by
  unfold qOp at h
  unfold wpOpIn
  cases ho : ops[i]? with
  | none => rw [ho] at h; exact hK _ _ hC h
  | some o =>
    rw [ho] at h
    simp only at h ⊢
    split
    · rename_i hw
      rw [if_pos hw] at h
      exact wide_of_wp (hn o ho) (fun _ _ h => h) (Oper.wp_of_quiet hC hK h)
    · rename_i hw
      rw [if_neg hw] at h
      exact ⟨fun _ _ => trivial, hK _ _ hC h⟩
theorem wideQ_any {md : Region.Mode} {Qa : Act → Prop} (hn : noDeferB ops.toList = true) (hQ : ∀ a w, C w → Qa a → Q .normal a w) : ∀ (fuel : Nat) (listed : Array Bool) (a : Act) (w : World), C w → wpAnyQ P md ops C Qa fuel listed a → wpAnyIn (inR lp) n P md ops Q fuel listed a w
  | 0, _, _, _, hC, h => ⟨h.1, hQ _ _ hC h.2⟩
  | fuel + 1, _, _, _, hC, h => ⟨fun h0 => hQ _ _ hC (h.1 h0), fun i hi => wideQ_op (fun _ ho c => noDefer_mem hn (Array.mem_toList_iff.2 (Array.mem_of_getElem? ho)) c) hC (fun a w hw hk => wideQ_any hn hQ fuel _ a w hw hk) (h.2 i hi)⟩
/-- A region that draws its order, reads old memory and calls functions that only make memory, in a round. -/
theorem wpIn_region_quietW {id : Nat} {a : Act} {w : World} {l : List Oper} (w0 : World) (hm : P.follows .mixedOrders = true) (hB : Region.lexB .any l.toArray = true) (hn : noDeferB l = true) (hC : Ch [] w0 w)
    (h : wpQuiet P l.toArray (fun w' => ∃ x : After w0, w' = x.w) (fun a' => ∀ w', Ch [] w0 w' → Q .normal a' w') l a) : (Code.region id l.toArray true).wpIn (inR lp) n P Q a w := by
  simp only [Region.lexB, Bool.and_eq_true] at hB
  refine wpIn_region_any hm ?_
  have h2 := wpAnyQ_lex (P := P) (C := fun w' => ∃ x : After w0, w' = x.w) (md := .any) hB.1 l 0 (Array.replicate l.toArray.size false) a (by simp) (by simpa using hB.2) h
  refine wideQ_any (Qa := fun a' => ∀ w', Ch [] w0 w' → Q .normal a' w') (C := fun w' => ∃ x : After w0, w' = x.w) (by rw [List.toList_toArray]; exact hn) (fun a w ⟨x, hx⟩ hq => ?_) _ _ _ _ ⟨⟨_, hC.drew⟩, rfl⟩ (by simpa using h2)
  subst hx
  exact hq _ x.ch
end
theorem ch_keeps {S : List Nat} {B : Nat} {w w' : World} (h : Ch S w w') (hS : ∀ b ∈ S, b < B) : KeepsFrom B w w' := ⟨h.size, fun k _ hk hi _ => (h.block k (Array.getElem?_eq_some_iff.1 hi).1 (fun hm => Nat.not_lt.2 hk (hS k hm))).trans hi⟩
end Go.Proofs.YtbmbnibamhgfmaaDoor

/- slices.Backward over prefixes: the iterator. -/
namespace Go.Proofs.YtbmbnibamhgfmaaDoor
open Go.RowKit

attribute [local go_sem] Oper.semAt_some
section
variable {F : Fence} {n : Nat} {P : Program} {ops : Array Oper} {rest : List Oper} {o : Oper} {a : Act} {w : World} {Q : Exit → Act → World → Prop}
theorem wpListIn_loadW (hw : Region.wanted o (yielded ops a.tmps) = true) (ty : TypeId) (x : Operand) (ho : o.op = .load ty x) (g off : Nat) (hx : a.eval x = .pointer (some ⟨g, off, none⟩)) (cs : List Value) (d : TypeDesc) (hc : w.rangeAt g off cs)
    (hu : P.underlying ty = some d) (hd : d.isRow = true) (hi : (P.info? ty).map (·.size) = some cs.length) (h : wpListIn F n P ops Q rest (a.put o.dst (.agg cs.toArray)) w) : wpListIn F n P ops Q (o :: rest) a w := by
  unfold wpListIn
  rw [if_pos hw]
  refine ⟨fun f hf => ?_, ?_⟩
  · unfold Oper.about at hf
    rw [ho] at hf
    cases hf
  · rw [Oper.semAt_eq _ _ _ (fun c hc => by rw [ho] at hc; cases hc)]
    unfold execOp
    simp only [ho, hx, Instr.loadAt, Instr.sureAddr, Sem.run_bind, Sem.run_pure, Result.andThen_ok, run_loadVar_mid w g off ty cs d hc hu hd hi]
    exact h
end
/-- An index and a valid prefix. -/
abbrev IxP := { x : Nat × Pfx // OkP x.2 }
def ixC (x : IxP) : Array Value := #[.int .i64 (x.1.1 : Int), .agg (pfxC x.1.2).toArray]
theorem backMk (w : World) (A : Option Addr) (N c : Nat) : Calls Tryd.prog 76 #[.slice A N c] w fun e w' => e = .returned (.func (.func 93) #[] #[.pointer (some ⟨w.heap.size, 0, none⟩)]) ∧ w.alloc (.cells #[.slice A N c] 133) = w' := by
  go_enter Tryd.func76, Tryd.ntmps76
  go_wp2_with fail
  go_ret
  exact ⟨rfl, rfl⟩
set_option maxRecDepth 100000 in
set_option maxHeartbeats 4000000 in
theorem backIn (n : Nat) (hn : 1 ≤ n) (l Bs n0 N cap : Nat) (A : Option Addr) (T : List IxP) (hT : T.length = N) (hTx : ∀ (j : Nat) (x : IxP), T[j]? = some x → x.1.1 + j + 1 = N) (hN : N ≤ 1000000) (J Jx : List IxP → World → Prop)
    (hY : ∀ pre x W, J pre W → pre.length < N → YieldAt Fence.wide (n - 1) Tryd.prog l (ixC x) W fun e W' =>
      (e = .returned (.bool true) ∧ J (pre ++ [x]) W' ∧ Below n0 W W') ∨ (e = .returned (.bool false) ∧ Jx (pre ++ [x]) W'))
    (W : World) (hBs : W.cell? ⟨Bs, 0, none⟩ = some (.slice A N cap)) (hBn : Bs < n0) (hc : 0 < N → ∃ b off, A = some ⟨b, off, none⟩ ∧ b < n0 ∧ ∀ (j : Nat) (x : IxP), T[j]? = some x → W.rangeAt b (off + x.1.1 * 18) (pfxC x.1.2)) (h0 : J [] W) :
    CallsIn Fence.wide n Tryd.prog 93 #[.func (.yield l) #[] #[], .pointer (some ⟨Bs, 0, none⟩)] W fun e W' => (∃ v, e = .returned v) ∧
      ((∃ ys, ys = T ∧ J ys W') ∨ (∃ pre, pre <+: T ∧ Jx pre W')) := by
  have HT := hid hT
  have HTX := hid hTx
  have HC := hid hc
  clear hT hTx hc
  refine callsIn_of_wp Tryd.func93 rfl trivial ?_ rfl
  simp only [Tryd.ntmps93, List.size_toArray, List.length_cons, List.length_nil, Nat.reduceAdd, Nat.reduceSub, Array.replicate_succ, Array.replicate_zero, List.push_toArray, List.append_toArray, List.nil_append, List.cons_append]
  gi_wp2
  gi_loopw [3] (fun i wr => ∃ r : Nat, r ≤ N ∧ i = .int .i64 ((r : Int) - 1) ∧ J (T.take (N - r)) wr ∧ Below n0 W wr) (fun i _ => (intOf i + 1).toNat)
  case atStart => exact ⟨N, Nat.le_refl _, rfl, by rw [Nat.sub_self, List.take_zero]; exact h0, Below.refl _ _⟩
  case round =>
    obtain ⟨r, hr, rfl, hJs, hnx⟩ := hrel
    cases r with
    | zero =>
      have e1 : ((0 : Nat) : Int) - 1 = -1 := rfl
      rw [e1]
      gi_wp2
      go_end0
      exact ⟨⟨_, rfl⟩, .inl ⟨_, rfl, by rw [Nat.sub_zero, List.take_of_length_le (by rw [HT.out]; exact Nat.le_refl _)] at hJs; exact hJs⟩⟩
    | succ q =>
      have e1 : ((q + 1 : Nat) : Int) - 1 = (q : Int) := by omega
      rw [e1]
      clear e1
      obtain ⟨x, hx⟩ : ∃ x, T[N - (q + 1)]? = some x := ⟨_, List.getElem?_eq_getElem (by rw [HT.out]; omega)⟩
      have hxq : x.1.1 = q := by have := HTX.out _ _ hx; omega
      obtain ⟨b, off, rfl, hb, hrow⟩ := HC.out (by omega)
      have HR : Hid (wr.rangeAt b (off + q * 18) (pfxC x.1.2)) := fun j v hj => by
        have := hrow _ x hx j v hj
        rw [hxq] at this
        exact (hnx.cell (p := ⟨b, off + q * 18 + j, none⟩) hb).trans this
      have HIP := hid (pfx_inf (p := x.1.2) x.2.g.1)
      have hbs : wr.cell? ⟨Bs, 0, none⟩ = some (.slice (some ⟨b, off, none⟩) N cap) := (hnx.cell (p := ⟨Bs, 0, none⟩) hBn).trans hBs
      obtain ⟨fn, tmps, assign, body, hy, hR⟩ := hY _ x wr hJs (by rw [List.length_take, HT.out]; omega)
      have HSN : Hid (T.take (N - (q + 1)) ++ [x] = T.take (N - q)) := by
        show _ = _
        rw [← take_one hx]
        congr 1
        omega
      unfold ixC at hy
      rw [hxq] at hy
      have hq0 : (0 : Int) ≤ q := by omega
      have hq1 : (q : Int) < N := by omega
      generalize pfxC x.1.2 = pc at HR HIP hy
      have HJ := hid hnx
      clear hx hxq hrow hnx hJs
      gi_wp2_with (first
        | (refine wpListIn_loadW rfl 59 _ rfl b (off + q * 18) rfl pc _ HR.out Tryd.underlying59 rfl HIP.out ?_))
      refine hR.mono ?_
      rintro e W3 (⟨rfl, hJ3, hk3⟩ | ⟨rfl, hJx3⟩)
      · gi_wp2
        go_roundw
        case rel => exact ⟨q, by omega, by go_num, by rw [← HSN.out]; exact hJ3, HJ.out.trans hk3⟩
        case measure => simp [intOf]
      · gi_wp2
        refine bodyPost_ret (results_none rfl _ _ _) rfl ?_
        exact ⟨⟨_, rfl⟩, .inr ⟨_, by rw [HSN.out]; exact List.take_prefix _ _, hJx3⟩⟩
theorem backStops (n : Nat) (hn : 1 ≤ n) (Bs n0 N cap : Nat) (A : Option Addr) (T : List IxP) (hT : T.length = N) (hTx : ∀ (j : Nat) (x : IxP), T[j]? = some x → x.1.1 + j + 1 = N) (hN : N ≤ 1000000) (w : World) (hBs : w.cell? ⟨Bs, 0, none⟩ = some (.slice A N cap)) (hBn : Bs < n0) (hn0 : n0 ≤ w.heap.size)
    (hc : 0 < N → ∃ b off, A = some ⟨b, off, none⟩ ∧ b < n0 ∧ ∀ (j : Nat) (x : IxP), T[j]? = some x → w.rangeAt b (off + x.1.1 * 18) (pfxC x.1.2)) :
    SeqStopsK Fence.wide n Tryd.prog 93 #[.pointer (some ⟨Bs, 0, none⟩)] ixC (Below n0) (fun ys => ys = T) (fun pre => pre <+: T) N w := fun l J Jx W hW _ _ hY h0 =>
  backIn n hn l Bs n0 N cap A T hT hTx hN J Jx hY W ((hW.cell (p := ⟨Bs, 0, none⟩) (by show Bs < _; omega)).trans hBs) hBn (fun hp => by
    obtain ⟨b, off, e, hb, hr⟩ := hc hp
    exact ⟨b, off, e, hb, fun j x hx i v hi => (hW.cell (p := ⟨b, off + x.1.1 * 18 + i, none⟩) (by show b < _; omega)).trans (hr j x hx i v hi)⟩) h0
end Go.Proofs.YtbmbnibamhgfmaaDoor

/- The rounds of MatchAddr and the choice of a rule. -/
namespace Go.Proofs.YtbmbnibamhgfmaaDoor
open Go.RowKit

theorem exT {β : Type} (f : β → Pfx) (ks : List β) (h : ∀ e ∈ ks, OkP (f e)) : ∃ T : List IxP, T.length = ks.length ∧ ∀ (j : Nat) (x : IxP), T[j]? = some x → x.1.1 + j + 1 = ks.length ∧ ∃ e, ks[x.1.1]? = some e ∧ x.1.2 = f e := by
  have key : ∀ rs : List β, (∀ e ∈ rs, OkP (f e)) → ∃ T : List IxP, T.length = rs.length ∧ ∀ (j : Nat) (x : IxP), T[j]? = some x → x.1.1 + j + 1 = rs.length ∧ ∃ e, rs.reverse[x.1.1]? = some e ∧ x.1.2 = f e := by
    intro rs
    induction rs with
    | nil => exact fun _ => ⟨[], rfl, fun j x hx => by simp at hx⟩
    | cons e rs ih =>
      intro he
      obtain ⟨T, h1, h2⟩ := ih fun x hx => he x (List.mem_cons_of_mem _ hx)
      refine ⟨⟨(rs.length, f e), he e (List.mem_cons_self ..)⟩ :: T, by simp [h1], fun j x hx => ?_⟩
      cases j with
      | zero =>
        obtain rfl : _ = x := by simpa using hx
        refine ⟨by simp, e, ?_, rfl⟩
        rw [List.reverse_cons, List.getElem?_append_right (by simp)]
        simp
      | succ j =>
        obtain ⟨h3, e', h4, h5⟩ := h2 j x (by simpa using hx)
        refine ⟨by rw [List.length_cons]; omega, e', ?_, h5⟩
        rw [List.reverse_cons, List.getElem?_append_left (by rw [List.length_reverse]; omega)]
        exact h4
  obtain ⟨T, h1, h2⟩ := key ks.reverse (fun e he => h e (List.mem_reverse.1 he))
  rw [List.length_reverse] at h1
  refine ⟨T, h1, fun j x hx => ?_⟩
  have := h2 j x hx
  rwa [List.length_reverse, List.reverse_reverse] at this
def FI (L : List Rl) (port : Int) (x : IxP) : Option Int := (ixK L (keyP x.1.2) L.length).find? (portI L port)
section
variable {L : List Rl} {six : Bool} {bs : List Int} {port : Int} {m : KM} {T : List IxP}
theorem okMk (hg : GoodA bs) : ∀ e ∈ mK m six bs, OkP (kPfx six bs e) ∧ keyP (kPfx six bs e) = keyA six bs e.1 := fun e he => by
  obtain ⟨hva, hk, _⟩ := mK_mem.1 (show (e.1, e.2) ∈ mK m six bs from he)
  have hkL : (e.1 : Int) ≤ bitL six := by rw [bitN_eq]; omega
  exact ⟨okP_of hg hva hkL, keyP_of hg hkL⟩
theorem doneT (hL : ∀ r ∈ L, validR r = true ∧ GoodR r) (hg : GoodA bs) (hm : ∀ κ, m κ = none → ixK L κ L.length = []) (hT : T.length = (mK m six bs).length)
    (hTx : ∀ (j : Nat) (x : IxP), T[j]? = some x → x.1.1 + j + 1 = (mK m six bs).length ∧ ∃ e, (mK m six bs)[x.1.1]? = some e ∧ x.1.2 = kPfx six bs e) (h : ∀ x ∈ T, FI L port x = none) : bestB L (pA six bs port) rkA L.length = none := by
  refine miss_best hL hg hm fun e he => ?_
  obtain ⟨i, hi⟩ := List.mem_iff_getElem?.1 he
  have hlt := (List.getElem?_eq_some_iff.1 hi).1
  obtain ⟨x, hx⟩ : ∃ x, T[(mK m six bs).length - 1 - i]? = some x := ⟨_, List.getElem?_eq_getElem (by rw [hT]; omega)⟩
  obtain ⟨h1, e', h2, h3⟩ := hTx _ x hx
  have : x.1.1 = i := by omega
  rw [this, hi] at h2
  obtain rfl := Option.some.inj h2
  have := h x (List.mem_of_getElem? hx)
  unfold FI at this
  rwa [h3, (okMk hg e he).2] at this
theorem hitT (hL : ∀ r ∈ L, validR r = true ∧ GoodR r) (hg : GoodA bs) (hm : ∀ κ, m κ = none → ixK L κ L.length = [])
    (hTx : ∀ (j : Nat) (x : IxP), T[j]? = some x → x.1.1 + j + 1 = (mK m six bs).length ∧ ∃ e, (mK m six bs)[x.1.1]? = some e ∧ x.1.2 = kPfx six bs e) {ini : List IxP} {last : IxP} {i : Int} (hp : ini ++ [last] <+: T) (h : ∀ x ∈ ini, FI L port x = none) (hi : FI L port last = some i) :
    optI (bestB L (pA six bs port) rkA L.length) = i := by
  obtain ⟨t, ht⟩ := hp
  have hlast : T[ini.length]? = some last := by rw [← ht]; simp
  obtain ⟨h1, e, h2, h3⟩ := hTx _ last hlast
  obtain ⟨hq, hq2⟩ := List.getElem?_eq_some_iff.1 h2
  refine hit_best hL hg hm (l1 := (mK m six bs).take last.1.1) (l2 := (mK m six bs).drop (last.1.1 + 1)) (e := e) ?_ (fun x hx => ?_) ?_
  · conv => lhs; rw [← List.take_append_drop last.1.1 (mK m six bs), List.drop_eq_getElem_cons hq, hq2]
  · obtain ⟨j, hj⟩ := List.mem_iff_getElem?.1 hx
    rw [List.getElem?_drop] at hj
    have hlt := (List.getElem?_eq_some_iff.1 hj).1
    have hji : (mK m six bs).length - 1 - (last.1.1 + 1 + j) < ini.length := by omega
    obtain ⟨y, hy⟩ : ∃ y, ini[(mK m six bs).length - 1 - (last.1.1 + 1 + j)]? = some y := ⟨_, List.getElem?_eq_getElem hji⟩
    have hyT : T[(mK m six bs).length - 1 - (last.1.1 + 1 + j)]? = some y := by
      rw [← ht, List.append_assoc, List.getElem?_append_left hji]
      exact hy
    obtain ⟨h4, e', h5, h6⟩ := hTx _ y hyT
    have : y.1.1 = last.1.1 + 1 + j := by omega
    rw [this, hj] at h5
    obtain rfl := Option.some.inj h5
    have := h y (List.mem_of_getElem? hy)
    unfold FI at this
    rwa [h6, (okMk hg x (List.mem_of_getElem? hj)).2] at this
  · unfold FI at hi
    rwa [h3, (okMk hg e (List.mem_of_getElem? h2)).2] at hi
end
theorem blk_ownF {β : Type} (B g : Nat) (t : TypeId) (cs : List Value) : OwnFrom B (fun (_ : β) W => Blk W g t cs) := fun _ X Y row hs hg hr =>
  (hg.block g hs.lt (fun e => by
    obtain ⟨_, o, ho, hc⟩ := hr g e.symm
    rw [show X.heap[g]? = _ from hs] at ho
    cases ho
    cases hc)).trans hs
end Go.Proofs.YtbmbnibamhgfmaaDoor
