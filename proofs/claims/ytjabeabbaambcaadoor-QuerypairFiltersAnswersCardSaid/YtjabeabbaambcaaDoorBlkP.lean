/- The block list: the plain laws. -/
import Derived.Test.YtjabeabbaambcaaDoorPfxS
namespace Go.Proofs.YtjabeabbaambcaaDoor
open Go.RowKit

def mapA (a b c d : Int) : List Int := [0, 0, 0, 0, 0, 0, 0, 0, 0, 0, 255, 255, a, b, c, d]
def natA (a b c d : Int) : List Int := [0, 100, 255, 155, 0, 0, 0, 0, 0, 0, 0, 0, a, b, c, d]
def v4A (a b c d : Int) : List Int := [a, b, c, d, 0, 0, 0, 0, 0, 0, 0, 0, 0, 0, 0, 0]
def Byt (b : Int) : Prop := 0 ≤ b ∧ b ≤ 255
theorem cut0 {b : Int} (h : Byt b) : cutB b 0 = 0 := by
  unfold Byt at h; unfold cutB hiB; simp only [Nat.sub_zero, Int.reducePow]; omega
theorem cut8 (b : Int) : cutB b 8 = b := by
  unfold cutB hiB; simp only [Nat.sub_self, Int.pow_zero]; omega
theorem trunc16 (b0 b1 b2 b3 b4 b5 b6 b7 b8 b9 b10 b11 b12 b13 b14 b15 n : Int) : truncL [b0, b1, b2, b3, b4, b5, b6, b7, b8, b9, b10, b11, b12, b13, b14, b15] n =
    [cutB b0 (keepB n 0), cutB b1 (keepB n 1), cutB b2 (keepB n 2), cutB b3 (keepB n 3), cutB b4 (keepB n 4), cutB b5 (keepB n 5), cutB b6 (keepB n 6), cutB b7 (keepB n 7), cutB b8 (keepB n 8), cutB b9 (keepB n 9), cutB b10 (keepB n 10), cutB b11 (keepB n 11), cutB b12 (keepB n 12), cutB b13 (keepB n 13), cutB b14 (keepB n 14), cutB b15 (keepB n 15)] := by simp [truncL, List.mapIdx_cons]
theorem byt0 : Byt 0 := ⟨by omega, by omega⟩
theorem cont_other {p : Pfx} {six : Bool} (a : List Int) (h : (p.1 == six) = false) : contP p six a = false := by
  unfold contP; rw [h, Bool.and_false, Bool.false_and]
theorem cont_six {p : Pfx} {six : Bool} {a : List Int} (hv : validP p = true) (ha : validA six a = true) (h6 : (p.1 == six) = true) : contP p six a = decide (truncL a p.2.2 = p.2.1) := by
  unfold contP; rw [hv, ha, h6]; rfl
theorem idx_six (a : List Int) : idxP true a blkT 0 = idxP true a (blkT.drop 8) 8 := by
  have h : ∀ p ∈ blkT.take 8, (p.1 == true) = false := by decide
  simp only [blkT, List.take_succ_cons, List.take_zero, List.mem_cons, List.not_mem_nil, or_false, forall_eq_or_imp, forall_eq] at h
  obtain ⟨h0, h1, h2, h3, h4, h5, h6, h7⟩ := h
  simp only [blkT, idxP, List.drop_succ_cons, List.drop_zero, cont_other a h0, cont_other a h1, cont_other a h2, cont_other a h3, cont_other a h4, cont_other a h5, cont_other a h6, cont_other a h7, Bool.false_eq_true, if_false, Nat.reduceAdd]
theorem trunc_mapA96 {a b c d : Int} (ha : Byt a) (hb : Byt b) (hc : Byt c) (hd : Byt d) : truncL (mapA a b c d) 96 = mapA 0 0 0 0 := by
  unfold mapA
  rw [trunc16]
  simp only [show keepB 96 0 = 8 from rfl, show keepB 96 1 = 8 from rfl, show keepB 96 2 = 8 from rfl, show keepB 96 3 = 8 from rfl, show keepB 96 4 = 8 from rfl, show keepB 96 5 = 8 from rfl, show keepB 96 6 = 8 from rfl, show keepB 96 7 = 8 from rfl, show keepB 96 8 = 8 from rfl, show keepB 96 9 = 8 from rfl, show keepB 96 10 = 8 from rfl, show keepB 96 11 = 8 from rfl, show keepB 96 12 = 0 from rfl, show keepB 96 13 = 0 from rfl, show keepB 96 14 = 0 from rfl, show keepB 96 15 = 0 from rfl, cut8, cut0 ha, cut0 hb, cut0 hc, cut0 hd]
theorem trunc_natA96 {a b c d : Int} (ha : Byt a) (hb : Byt b) (hc : Byt c) (hd : Byt d) : truncL (natA a b c d) 96 = natA 0 0 0 0 := by
  unfold natA
  rw [trunc16]
  simp only [show keepB 96 0 = 8 from rfl, show keepB 96 1 = 8 from rfl, show keepB 96 2 = 8 from rfl, show keepB 96 3 = 8 from rfl, show keepB 96 4 = 8 from rfl, show keepB 96 5 = 8 from rfl, show keepB 96 6 = 8 from rfl, show keepB 96 7 = 8 from rfl, show keepB 96 8 = 8 from rfl, show keepB 96 9 = 8 from rfl, show keepB 96 10 = 8 from rfl, show keepB 96 11 = 8 from rfl, show keepB 96 12 = 0 from rfl, show keepB 96 13 = 0 from rfl, show keepB 96 14 = 0 from rfl, show keepB 96 15 = 0 from rfl, cut8, cut0 ha, cut0 hb, cut0 hc, cut0 hd]
/-- A prefix that asks for another byte than the address has does not contain it. -/
theorem cont_not {p : Pfx} {six : Bool} {a : List Int} (i : Nat) (hi : i < a.length) (h : cutB (at_ a i) (keepB p.2.2 i) ≠ at_ p.2.1 i) : contP p six a = false := by
  unfold contP
  have : decide (truncL a p.2.2 = p.2.1) = false := by
    rw [decide_eq_false_iff_not]
    intro e
    apply h
    rw [← e, trunc_at _ _ _ hi]
  rw [this, Bool.and_false]
theorem idx_mapped {a b c d : Int} (ha : Byt a) (hb : Byt b) (hc : Byt c) (hd : Byt d) : idxP true (mapA a b c d) blkT 0 = 10 := by
  rw [idx_six]
  have e0 : contP (pf6 [] 128) true (mapA a b c d) = false := cont_not 10 (show 10 < 16 by omega) (by show cutB 255 8 ≠ 0; decide)
  have e1 : contP (pf6 [0, 0, 0, 0, 0, 0, 0, 1] 128) true (mapA a b c d) = false := cont_not 10 (show 10 < 16 by omega) (by show cutB 255 8 ≠ 0; decide)
  have e2 : contP (pf6 [0, 0, 0, 0, 0, 65535] 96) true (mapA a b c d) = true := by
    rw [cont_six (by decide) rfl rfl, decide_eq_true_eq]
    exact trunc_mapA96 ha hb hc hd
  simp only [blkT, List.drop_succ_cons, List.drop_zero, idxP, e0, e1, e2, Bool.false_eq_true, if_false, if_true]
  rfl
theorem idx_nat64 {a b c d : Int} (ha : Byt a) (hb : Byt b) (hc : Byt c) (hd : Byt d) : idxP true (natA a b c d) blkT 0 = 11 := by
  rw [idx_six]
  have e0 : contP (pf6 [] 128) true (natA a b c d) = false := cont_not 1 (show 1 < 16 by omega) (by show cutB 100 8 ≠ 0; decide)
  have e1 : contP (pf6 [0, 0, 0, 0, 0, 0, 0, 1] 128) true (natA a b c d) = false := cont_not 1 (show 1 < 16 by omega) (by show cutB 100 8 ≠ 0; decide)
  have e2 : contP (pf6 [0, 0, 0, 0, 0, 65535] 96) true (natA a b c d) = false := cont_not 1 (show 1 < 16 by omega) (by show cutB 100 8 ≠ 0; decide)
  have e3 : contP (pf6 [100, 65435] 96) true (natA a b c d) = true := by
    rw [cont_six (by decide) rfl rfl, decide_eq_true_eq]
    exact trunc_natA96 ha hb hc hd
  simp only [blkT, List.drop_succ_cons, List.drop_zero, idxP, e0, e1, e2, e3, Bool.false_eq_true, if_false, if_true]
  rfl
theorem idx_nonneg (six : Bool) (a : List Int) (l : List Pfx) (i : Nat) : decide (0 ≤ idxP six a l i) = l.any fun p => contP p six a := by
  induction l generalizing i with
  | nil => rfl
  | cons p l ih =>
    rw [List.any_cons, idxP]
    cases h : contP p six a with
    | true => rw [if_pos rfl, Bool.true_or, decide_eq_true_eq]; omega
    | false => rw [if_neg (by decide), Bool.false_or]; exact ih _
theorem trunc_v4 {a b c d : Int} (n : Int) (hn : n ≤ 16) (hc : Byt c) (hd : Byt d) : truncL (v4A a b c d) n = v4A (cutB a (keepB n 0)) (cutB b (keepB n 1)) 0 0 := by
  unfold v4A
  rw [trunc16]
  have k (i : Nat) (hi : 2 ≤ i) : keepB n i = 0 := by unfold keepB; omega
  rw [k 2 (by omega), k 3 (by omega), k 4 (by omega), k 5 (by omega), k 6 (by omega), k 7 (by omega), k 8 (by omega), k 9 (by omega), k 10 (by omega), k 11 (by omega), k 12 (by omega), k 13 (by omega), k 14 (by omega), k 15 (by omega), cut0 hc, cut0 hd, cut0 byt0]
theorem cont_v4 {a b c d A B n : Int} (hv : validP (pf4 A B 0 0 n) = true) (hn : n ≤ 16) (hc : Byt c) (hd : Byt d) : contP (pf4 A B 0 0 n) false (v4A a b c d) = (decide (cutB a (keepB n 0) = A) && decide (cutB b (keepB n 1) = B)) := by
  rw [cont_six hv rfl rfl, ← Bool.decide_and]
  apply decide_eq_decide.2
  show truncL (v4A a b c d) n = v4A A B 0 0 ↔ _
  rw [trunc_v4 n hn hc hd]
  unfold v4A
  simp only [List.cons.injEq, and_true]
theorem cut_byte (b : Int) (h : Byt b) : (decide (cutB b 3 = 224) = decide (224 ≤ b)) ∧ (decide (cutB b 2 = 64) = (decide (64 ≤ b) && decide (b < 128))) ∧ (decide (cutB b 4 = 16) = (decide (16 ≤ b) && decide (b < 32))) := by
  have hall : ∀ b : Fin 256, (decide (cutB b.val 3 = 224) = decide (224 ≤ (b.val : Int))) ∧ (decide (cutB b.val 2 = 64) = (decide (64 ≤ (b.val : Int)) && decide ((b.val : Int) < 128))) ∧ (decide (cutB b.val 4 = 16) = (decide (16 ≤ (b.val : Int)) && decide ((b.val : Int) < 32))) := by decide +kernel
  obtain ⟨n, rfl⟩ := Int.eq_ofNat_of_zero_le h.1
  exact hall ⟨n, by have := h.2; omega⟩
def blk4 (a b : Int) : Bool := decide (a = 0) || decide (a = 10) || decide (a = 127) || decide (224 ≤ a) || (decide (a = 100) && decide (64 ≤ b) && decide (b < 128)) || (decide (a = 169) && decide (b = 254)) || (decide (a = 172) && decide (16 ≤ b) && decide (b < 32)) || (decide (a = 192) && decide (b = 168))
theorem idx_v4 {a b c d : Int} (ha : Byt a) (hb : Byt b) (hc : Byt c) (hd : Byt d) : decide (0 ≤ idxP false (v4A a b c d) blkT 0) = blk4 a b := by
  rw [idx_nonneg]
  have e0 : contP (pf4 0 0 0 0 8) false (v4A a b c d) = decide (a = 0) := by
    rw [cont_v4 (by decide) (by omega) hc hd]; show (decide (cutB a 8 = 0) && decide (cutB b 0 = 0)) = _; rw [cut8, cut0 hb]; simp
  have e1 : contP (pf4 10 0 0 0 8) false (v4A a b c d) = decide (a = 10) := by
    rw [cont_v4 (by decide) (by omega) hc hd]; show (decide (cutB a 8 = 10) && decide (cutB b 0 = 0)) = _; rw [cut8, cut0 hb]; simp
  have e2 : contP (pf4 100 64 0 0 10) false (v4A a b c d) = (decide (a = 100) && decide (64 ≤ b) && decide (b < 128)) := by
    rw [cont_v4 (by decide) (by omega) hc hd]; show (decide (cutB a 8 = 100) && decide (cutB b 2 = 64)) = _; rw [cut8, (cut_byte b hb).2.1, Bool.and_assoc]
  have e3 : contP (pf4 127 0 0 0 8) false (v4A a b c d) = decide (a = 127) := by
    rw [cont_v4 (by decide) (by omega) hc hd]; show (decide (cutB a 8 = 127) && decide (cutB b 0 = 0)) = _; rw [cut8, cut0 hb]; simp
  have e4 : contP (pf4 169 254 0 0 16) false (v4A a b c d) = (decide (a = 169) && decide (b = 254)) := by
    rw [cont_v4 (by decide) (by omega) hc hd]; show (decide (cutB a 8 = 169) && decide (cutB b 8 = 254)) = _; rw [cut8, cut8]
  have e5 : contP (pf4 172 16 0 0 12) false (v4A a b c d) = (decide (a = 172) && decide (16 ≤ b) && decide (b < 32)) := by
    rw [cont_v4 (by decide) (by omega) hc hd]; show (decide (cutB a 8 = 172) && decide (cutB b 4 = 16)) = _; rw [cut8, (cut_byte b hb).2.2, Bool.and_assoc]
  have e6 : contP (pf4 192 168 0 0 16) false (v4A a b c d) = (decide (a = 192) && decide (b = 168)) := by
    rw [cont_v4 (by decide) (by omega) hc hd]; show (decide (cutB a 8 = 192) && decide (cutB b 8 = 168)) = _; rw [cut8, cut8]
  have e7 : contP (pf4 224 0 0 0 3) false (v4A a b c d) = decide (224 ≤ a) := by
    rw [cont_v4 (by decide) (by omega) hc hd]; show (decide (cutB a 3 = 224) && decide (cutB b 0 = 0)) = _; rw [(cut_byte a ha).1, cut0 hb]; simp
  have hs (gs : List Int) (n : Int) : contP (pf6 gs n) false (v4A a b c d) = false := cont_other _ rfl
  simp only [blkT, List.any_cons, List.any_nil, e0, e1, e2, e3, e4, e5, e6, e7, hs, Bool.or_false]
  unfold blk4
  generalize decide (a = 0) = x0, decide (a = 10) = x1, (decide (a = 100) && decide (64 ≤ b) && decide (b < 128)) = x2, decide (a = 127) = x3, (decide (a = 169) && decide (b = 254)) = x4, (decide (a = 172) && decide (16 ≤ b) && decide (b < 32)) = x5, (decide (a = 192) && decide (b = 168)) = x6, decide (224 ≤ a) = x7
  cases x0 <;> cases x1 <;> cases x2 <;> cases x3 <;> cases x4 <;> cases x5 <;> cases x6 <;> cases x7 <;> rfl
/-- Whether a prefix covers another. -/
def covP (p q : Pfx) : Bool := validP q && decide (p.2.2 ≤ q.2.2) && contP p q.1 q.2.1
theorem blk_disjoint : ∀ i j : Fin 15, i ≠ j → covP (blkT[i.val]'(by exact i.isLt)) (blkT[j.val]'(by exact j.isLt)) = false := by decide +kernel
theorem blk_len : blkT.length = 15 := rfl
theorem blk_good : ∀ p ∈ blkT, p.2.1.length = 16 ∧ ∀ x ∈ p.2.1, 0 ≤ x ∧ x ≤ 255 := by decide +kernel
theorem blk_valid : ∀ p ∈ blkT, validP p = true := by decide +kernel
end Go.Proofs.YtjabeabbaambcaaDoor
