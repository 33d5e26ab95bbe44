/- Strings as lists of numbers: what '[]byte(s)' and 'string(b)' give; concatenation, slices. -/
import Derived.Test.YtjabeabbaambcaaDoorBase
import Derived.Test.YtjabeabbaambcaaDoorMem
import Derived.Test.YtjabeabbaambcaaDoorStages
import Derived.Laws.BytesArg
import Derived.Laws.IdiomStrings
namespace Go.Proofs.YtjabeabbaambcaaDoor
open Go.RowKit

/-- The bytes of a string, as numbers. -/
def numsOf (s : ByteArray) : List Int := s.data.toList.map fun b => (b.toNat : Int)
theorem numsOf_length (s : ByteArray) : (numsOf s).length = s.size := by unfold numsOf; rw [List.length_map, Array.length_toList]; rfl
theorem numsOf_at (s : ByteArray) (i : Nat) (h : i < s.data.size) : at_ (numsOf s) i = (s.data[i].toNat : Int) := by
  simp [numsOf, at_, List.getD, Array.getElem?_eq_getElem h]
theorem strOf_nums (s : ByteArray) : strOfNums (numsOf s) = s := by
  apply ByteArray.ext
  apply Array.toList_inj.1
  rw [strOfNums_data]
  unfold numsOf
  rw [List.map_map]
  conv => rhs; rw [← List.map_id s.data.toList]
  apply List.map_congr_left
  intro x _
  simp
theorem str_ext {s t : ByteArray} (h : s.data.toList = t.data.toList) : s = t := ByteArray.ext (Array.toList_inj.1 h)
theorem strOf_append (xs ys : List Int) : strOfNums xs ++ strOfNums ys = strOfNums (xs ++ ys) := by
  apply str_ext
  rw [strOfNums_data, ByteArray.data_append, Array.toList_append, strOfNums_data, strOfNums_data, List.map_append]
theorem strOf_extract (xs : List Int) (i j : Nat) : (strOfNums xs).extract i j = strOfNums ((xs.drop i).take (j - i)) := by
  apply str_ext
  rw [strOfNums_data, ByteArray.data_extract, Array.toList_extract, strOfNums_data, List.extract_eq_take_drop, List.map_take, List.map_drop]
theorem strOf_size (xs : List Int) : (strOfNums xs).size = xs.length := strOfNums_size xs
theorem strOf_nil : strOfNums [] = ByteArray.empty := rfl

section
variable {P : Program} {w : World} {ops : Array Oper} {rest : List Oper} {o : Oper} {a : Act} {Q : Exit → Act → World → Prop}

theorem wpList_bytesOf (hgd : o.guard = none) (src dst e : TypeId) (x : Operand) (ho : o.op = .convert src dst x) (hs : P.underlying src = some .string) (hd : P.underlying dst = some (.slice e)) (he : P.underlying e = some (.int .u8))
    (s : ByteArray) (hx : a.eval x = .string s) (hm : s.size ≤ maxLen)
    (h : ∀ c w', s.size ≤ c → c ≤ maxLen → RdI .u8 w' w'.heap.size (some ⟨w.heap.size, 0, none⟩) s.size (numsOf s) → Ch [] w w' → w'.heap.size = w.heap.size + 1 → wpList P ops Q rest (a.put o.dst (.slice (some ⟨w.heap.size, 0, none⟩) s.size c)) w') :
    wpList P ops Q (o :: rest) a w :=
  wpList_plain hgd fun K hK => by
    unfold Oper.wp execOp
    simp only [ho, Sem.run_bind, hx, run_bytes_of_string w src dst e s hs hd he, Result.andThen_ok]
    refine hK _ _ (h _ _ (grownCap_ge ..) (grownCap_le_maxLen _ _ _ _ hm) ⟨numsOf_length s, fun _ => ⟨_, _, rfl, by simp, fun i hi => ?_⟩⟩ ((Ch.refl _ _).drew.alloc _) (by simp))
    have hi' : i < s.data.size := hi
    rw [Nat.zero_add, numsOf_at s i hi', ← bytesRow_at s (grownCap w s.size 0 e) i hi']
    have hh := heap_alloc_new w.drew (.cells (bytesRow s (grownCap w s.size 0 e)) e ((bytesRow s (grownCap w s.size 0 e)).size, (bytesRow s (grownCap w s.size 0 e)).size + 1))
    have hh' : (w.drew.alloc (.cells (bytesRow s (grownCap w s.size 0 e)) e ((bytesRow s (grownCap w s.size 0 e)).size, (bytesRow s (grownCap w s.size 0 e)).size + 1))).heap[w.heap.size]? = _ := hh
    simp only [World.cell?, hh']
    rfl

theorem wpList_strOf (hgd : o.guard = none) (src dst e : TypeId) (x : Operand) (ho : o.op = .convert src dst x) (hs : P.underlying src = some (.slice e)) (he : P.underlying e = some (.int .u8)) (hd : P.underlying dst = some .string)
    (A : Option Addr) (n c B : Nat) (xs : List Int) (hx : a.eval x = .slice A n c) (hr : RdI .u8 w B A n xs) (h : wpList P ops Q rest (a.put o.dst (.string (strOfNums xs))) w) :
    wpList P ops Q (o :: rest) a w :=
  wpList_plain hgd fun K hK => by
    have e : (convert src dst (.slice A n c)).run P w = .ok (.string (strOfNums xs)) w := by
      rcases Nat.eq_zero_or_pos n with h0 | hp
      · subst h0
        obtain rfl : xs = [] := List.eq_nil_of_length_eq_zero hr.1
        rcases A with _ | ⟨b, off, spot⟩
        · exact run_convert_bytes_nil w src e hs he 0 c dst hd
        · have := run_convert_bytes_back w src dst e ⟨b, off, spot⟩ c [] hs he hd (fun j hj => absurd hj (by simp))
          exact this
      · obtain ⟨b, off, rfl, _, hc⟩ := hr.2 hp
        exact run_convert_bytes_arg w src e hs he b off n c xs hr.1 (fun i hi => hc i hi) dst hd
    unfold Oper.wp execOp
    simp only [ho, Sem.run_bind, hx, e, Result.andThen_ok]
    exact hK _ _ h
end
end Go.Proofs.YtjabeabbaambcaaDoor
