/- Bytes, strings and addresses: small facts that many proofs want. -/
import Derived.Test.YtjabeabbaambcaaDoorIpValid
import Derived.Test.YtjabeabbaambcaaDoorRow
import Derived.Deep.MidRow
import Derived.ChangeKeysEq
namespace Go.Proofs.YtjabeabbaambcaaDoor
open Go.RowKit

def zeros : List Int := [0, 0, 0, 0, 0, 0, 0, 0, 0, 0, 0, 0, 0, 0, 0, 0]
theorem wpList_load_want {P : Program} {ops : Array Oper} {rest : List Oper} {op : Oper} {a : Act} {w : World} {Q : Exit → Act → World → Prop} (hw : Region.wanted op (yielded ops a.tmps) = true) (ty : TypeId) (x : Operand) (ho : op.op = .load ty x)
    (b o : Nat) (hx : a.eval x = .pointer (some ⟨b, o, none⟩)) (cs : List Value) (d : TypeDesc) (hc : w.rangeAt b o cs)
    (hu : P.underlying ty = some d) (hd : d.isRow = true) (hi : (P.info? ty).map (·.size) = some cs.length)
    (h : wpList P ops Q rest (a.put op.dst (.agg cs.toArray)) w) : wpList P ops Q (op :: rest) a w := by
  unfold wpList
  rw [if_pos hw]
  exact .inl (wp_load_mid ty x ho b o hx cs d hc hu hd hi h)
theorem blk_ints {k : IntKind} {w : World} {g : Nat} {t : TypeId} {cs : List Value} (h : Blk w g t cs) (off n : Nat) (xs : List Int) (hl : xs.length = n) (hc : ∀ i (_ : i < xs.length), cs[off + i]? = some (.int k xs[i])) :
    RdI k w (g + 1) (some ⟨g, off, none⟩) n xs :=
  ⟨hl, fun _ => ⟨g, off, rfl, by omega, fun i hi => by rw [h.cell, hc i (by omega)]; simp [at_, List.getD, List.getElem?_eq_getElem (show i < xs.length by omega)]⟩⟩
theorem wrapI (n : Int) (h0 : 0 ≤ n) (h1 : n < 9223372036854775808) : IntKind.i64.wrap n = n := by
  simp [IntKind.wrap, IntKind.bits, IntKind.signed]
  split <;> omega
theorem ofIntU (x : Nat) (h : x < 18446744073709551616) : (BitVec.ofInt 64 (x : Int)).toNat = x := by
  rw [BitVec.ofInt_natCast, BitVec.toNat_ofNat]; exact Nat.mod_eq_of_lt (by omega)
theorem or256 (x y : Int) (h0 : 0 ≤ x) (h1 : x < 65536) (h2 : 0 ≤ y) (h3 : y ≤ 255) : bits .or .i64 (x * 256) y = x * 256 + y := by
  obtain ⟨a, rfl⟩ := Int.eq_ofNat_of_zero_le h0
  obtain ⟨b, rfl⟩ := Int.eq_ofNat_of_zero_le h2
  have e : ((a : Int) * 256) = ((2 ^ 8 * a : Nat) : Int) := by omega
  rw [e]
  show IntKind.i64.wrap ((BitVec.ofInt 64 ((2 ^ 8 * a : Nat) : Int) ||| BitVec.ofInt 64 (b : Int)).toNat : Int) = _
  rw [BitVec.toNat_or, ofIntU _ (by omega), ofIntU b (by omega), ← Nat.two_pow_add_eq_or_of_lt (by omega)]
  rw [wrapI _ (by omega) (by omega)]; omega
theorem nums_ext (s : ByteArray) (i j : Nat) : numsOf (s.extract i j) = ((numsOf s).drop i).take (j - i) := by
  unfold numsOf
  rw [ByteArray.data_extract, Array.toList_extract, List.extract_eq_take_drop, List.map_take, List.map_drop]
theorem nums_tail (s : ByteArray) (k : Nat) : numsOf (s.extract k s.size) = (numsOf s).drop k := by
  rw [nums_ext]; exact List.take_of_length_le (by rw [List.length_drop, numsOf_length]; exact Nat.le_refl _)
theorem nums_bytes (s : ByteArray) : ∀ x ∈ numsOf s, 0 ≤ x ∧ x ≤ 255 := by
  intro x hx
  obtain ⟨b, _, rfl⟩ := List.mem_map.1 hx
  have := b.toNat_lt
  omega
theorem isEmp {s : ByteArray} (h : s.size = 0) : s.toList = [] := by
  rw [ByteArray.toList_eq]; exact List.eq_nil_of_length_eq_zero (by rw [Array.length_toList]; exact h)
theorem notEmp {s : ByteArray} (h : 0 < s.size) : s.toList.isEmpty = false := by
  rw [Bool.eq_false_iff]
  intro e
  rw [ByteArray.toList_eq, List.isEmpty_iff] at e
  have h1 : s.data.toList.length = 0 := by rw [e]; rfl
  rw [Array.length_toList] at h1
  have h2 : s.data.size = s.size := rfl
  omega
theorem addr_one (six : Bool) (bs : List Int) : ∀ v ∈ addrC six bs, v.oneCell' = true := by
  intro v hv
  rcases List.mem_cons.1 hv with rfl | h
  · rfl
  · obtain ⟨z, _, rfl⟩ := List.mem_map.1 h; rfl
theorem len16 {l : List Int} (h : l.length = 16) : ∃ b0 b1 b2 b3 b4 b5 b6 b7 b8 b9 b10 b11 b12 b13 b14 b15, l = [b0, b1, b2, b3, b4, b5, b6, b7, b8, b9, b10, b11, b12, b13, b14, b15] := by
  match l, h with
  | [b0, b1, b2, b3, b4, b5, b6, b7, b8, b9, b10, b11, b12, b13, b14, b15], _ => exact ⟨b0, b1, b2, b3, b4, b5, b6, b7, b8, b9, b10, b11, b12, b13, b14, b15, rfl⟩
theorem nums_app (s t : ByteArray) : numsOf (s ++ t) = numsOf s ++ numsOf t := by unfold numsOf; rw [ByteArray.data_append, Array.toList_append, List.map_append]
end Go.Proofs.YtjabeabbaambcaaDoor
