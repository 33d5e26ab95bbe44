/- Several texts in one: IpValid, Row, Nums, RVal, Name, SplC, Bits, PfxS, Gen, GenA, MinMax. -/
import Derived.Test.YtbmbnibamhgfmaaDoorMA
import Derived.Test.YtbmbnibamhgfmaaDoorProg
import Derived.Laws.Tables
import Derived.Lib.BufferWrite
import Derived.Deep.MidRow
import Derived.ChangeKeysEq
import Derived.Lib.Split
import Derived.Lib.SplitLaws
import Derived.Lib.IndexLaws
import Derived.Lib.IndexBytes
import Derived.Lib.SlTrimSet
import Derived.Lib.Strings
/- ip.Valid and its reference: an IPv4 address uses its first four bytes alone. -/
namespace Go.Proofs.YtbmbnibamhgfmaaDoor
open Go.RowKit

theorem run_strOf {P : Program} {w : World} (src dst e : TypeId) (hs : P.underlying src = some (.slice e)) (he : P.underlying e = some (.int .u8)) (hd : P.underlying dst = some .string)
    (A : Option Addr) (n c B : Nat) (xs : List Int) (hr : RdI .u8 w B A n xs) : (convert src dst (.slice A n c)).run P w = .ok (.string (strOfNums xs)) w := by
  rcases Nat.eq_zero_or_pos n with h0 | hp
  · subst h0
    obtain rfl : xs = [] := List.eq_nil_of_length_eq_zero hr.1
    rcases A with _ | ⟨b, off, spot⟩
    · exact run_convert_bytes_nil w src e hs he 0 c dst hd
    · have := run_convert_bytes_back w src dst e ⟨b, off, spot⟩ c [] hs he hd (fun j hj => absurd hj (by simp))
      exact this
  · obtain ⟨b, off, rfl, _, hc⟩ := hr.2 hp
    exact run_convert_bytes_arg w src e hs he b off n c xs hr.1 (fun i hi => hc i hi) dst hd

theorem byt_strOf {xs : List Int} (hx : ∀ x ∈ xs, 0 ≤ x ∧ x ≤ 255) {i : Nat} (h : i < xs.length) : byt (strOfNums xs) i = at_ xs i := by
  have hm := hx (at_ xs i) (at_mem xs i h)
  have e : at_ xs i = xs[i] := by simp [at_, List.getD, h]
  rw [e] at hm ⊢
  unfold byt strOfNums
  simp only [List.getElem?_toArray, List.getElem?_map, List.getElem?_eq_getElem h, Option.map_some, Option.getD_some]
  rw [UInt8.toNat_ofNat']
  omega

/-- The cells of an address: the family and sixteen bytes. -/
def addrC (six : Bool) (bs : List Int) : List Value := .bool six :: bs.map (.int .u8)
def validA (six : Bool) (bs : List Int) : Bool := six || (bs.drop 4).all (· == 0)

set_option maxRecDepth 100000 in
theorem ipValid (six : Bool) (bs : List Int) (hl : bs.length = 16) (hb : ∀ x ∈ bs, 0 ≤ x ∧ x ≤ 255) (w : World) :
    Calls Tryd.prog 57 #[.agg (addrC six bs).toArray] w fun e w' => e = .returned (.bool (validA six bs)) ∧ Ch [] w w' := by
  have hB : Blk (w.alloc (.cells (addrC six bs).toArray 57)) w.heap.size 57 (addrC six bs) := Blk.new w _ _
  have hC : Ch [] w (w.alloc (.cells (addrC six bs).toArray 57)) := (Ch.refl _ _).alloc _
  have c0 : (w.alloc (.cells (addrC six bs).toArray 57)).cell? ⟨w.heap.size, 0, none⟩ = some (.bool six) := hB.cell 0
  have hR : RdI .u8 (w.alloc (.cells (addrC six bs).toArray 57)) (w.heap.size + 1) (some ⟨w.heap.size, 5, none⟩) 12 (bs.drop 4) := by
    refine ⟨by rw [List.length_drop]; omega, fun _ => ⟨_, _, rfl, by omega, fun i hi => ?_⟩⟩
    rw [hB.cell, show 5 + i = (4 + i) + 1 by omega]
    unfold addrC
    rw [List.getElem?_cons_succ, List.getElem?_map, List.getElem?_eq_getElem (by omega), Option.map_some]
    simp [at_, List.getD, List.getElem?_eq_getElem (show 4 + i < bs.length by omega)]
  have hrun := run_strOf (P := Tryd.prog) 82 9 5 Tryd.underlying82 Tryd.underlying5 Tryd.underlying9 _ 12 12 _ _ hR
  have HZ : Hid ((∀ i, i < (strOfNums (bs.drop 4)).size → byt (strOfNums (bs.drop 4)) i = 0) ↔ (bs.drop 4).all (· == 0) = true) := by
    show _ ↔ _
    have hd : ∀ x ∈ bs.drop 4, 0 ≤ x ∧ x ≤ 255 := fun x hx => hb x (List.mem_of_mem_drop hx)
    rw [List.all_eq_true, strOf_size]
    constructor
    · intro h x hx
      obtain ⟨i, hi, rfl⟩ := List.mem_iff_getElem.1 hx
      have := h i hi
      rw [byt_strOf hd hi] at this
      simpa [at_, List.getD, List.getElem?_eq_getElem hi] using this
    · intro h i hi
      rw [byt_strOf hd hi]
      simpa using h _ (at_mem _ i hi)
  have hsz : (strOfNums (bs.drop 4)).size ≤ 9223372036854775807 := by rw [strOf_size, List.length_drop]; omega
  unfold validA
  generalize hvs : (addrC six bs).toArray = vs at hB hC c0 hrun ⊢
  clear hR hvs
  cases six
  · go_enter Tryd.func57, Tryd.ntmps57
    go_wp2_with fail
    refine (trimZero _ _ hsz).mono ?_
    rintro e w2 ⟨⟨r, rfl, hr⟩, n, rfl⟩
    by_cases hz : (bs.drop 4).all (· == 0) = true
    · have he : r.toList.isEmpty = true := by
        have : r.size = 0 := hr.2 (HZ.out.2 hz)
        rw [ByteArray.toList_eq, List.isEmpty_iff]
        exact List.eq_nil_of_length_eq_zero (by rw [Array.length_toList]; exact this)
      have HZ2 := hid hz
      clear hr hz
      go_wp2
      go_ret
      exact ⟨ret_bool (by rw [HZ2.out]; rfl), hC.drewN _⟩
    · have he : r.toList.isEmpty = false := by
        rw [Bool.eq_false_iff]
        intro h
        rw [ByteArray.toList_eq, List.isEmpty_iff] at h
        refine hz (HZ.out.1 (hr.1 ?_))
        have := congrArg List.length h
        rw [Array.length_toList] at this
        exact this
      rw [Bool.not_eq_true] at hz
      have HZ2 := hid hz
      clear hr hz
      go_wp2
      go_ret
      exact ⟨ret_bool (by rw [HZ2.out]; rfl), hC.drewN _⟩
  · go_enter Tryd.func57, Tryd.ntmps57
    go_wp2
    go_ret
    exact ⟨rfl, hC⟩
end Go.Proofs.YtbmbnibamhgfmaaDoor

/- Structs in memory: stored whole, loaded whole, returned out of a cell; a string copied into a block. -/
namespace Go.Proofs.YtbmbnibamhgfmaaDoor
open Go.RowKit

section
variable {P : Program} {w w' a : World} {g : Nat} {t : TypeId} {cs cs' : List Value} {S : List Nat}
theorem Blk.setRow (h : Blk w g t cs) (cs' : List Value) : Blk (w.setRow g cs'.toArray) g t cs' := setRow_heap w g _ _ t _ h
theorem Ch.setRow (h : Ch S a w) (hg : g ∈ S ∨ a.heap.size ≤ g) (cs : Array Value) : Ch S a (w.setRow g cs) :=
  ⟨h.os, h.tape, h.output, by rw [size_setRow]; exact h.size, fun k hk hn => by
    rw [setRow_other w g k cs (fun e => by subst e; rcases hg with h1 | h1; exact hn h1; omega)]
    exact h.block k hk hn⟩
theorem Blk.range (h : Blk w g t cs) : w.rangeAt g 0 cs := fun j v hj => by rw [h.cell, Nat.zero_add]; exact hj
theorem Blk.rangeMid (h : Blk w g t cs) (o : Nat) (xs : List Value) (hx : ∀ j v, xs[j]? = some v → cs[o + j]? = some v) : w.rangeAt g o xs := fun j v hj => by rw [h.cell]; exact hx j v hj

theorem results_row3 {fn : Func} {p u v : Tmp} {ty : TypeId} (h : fn.results = #[.cell p ty, .tmp u, .tmp v]) (tmps : Array Value) (d : TypeDesc)
    (hp : tmps.getD p undef = .pointer (some ⟨g, 0, none⟩)) (hg : Blk w g t cs) (hu : P.underlying ty = some d) (hd : (match d with | .struct _ | .array _ _ => true | _ => false) = true) (hi : (P.info? ty).map (·.size) = some cs.length) :
    (results fn tmps).run P w = .ok (.tuple #[.agg cs.toArray, tmps.getD u undef, tmps.getD v undef]) w := by
  have hp' : tmps[p]?.getD undef = .pointer (some ⟨g, 0, none⟩) := by simpa using hp
  simp [results, h, hp', asAddr, Result.andThen, run_loadVar_row w g t ty cs.toArray (0, 0) d hg hu hd (by simpa using hi)]
theorem results_row4 {fn : Func} {p u v x : Tmp} {ty : TypeId} (h : fn.results = #[.tmp x, .cell p ty, .tmp u, .tmp v]) (tmps : Array Value) (d : TypeDesc)
    (hp : tmps.getD p undef = .pointer (some ⟨g, 0, none⟩)) (hg : Blk w g t cs) (hu : P.underlying ty = some d) (hd : (match d with | .struct _ | .array _ _ => true | _ => false) = true) (hi : (P.info? ty).map (·.size) = some cs.length) :
    (results fn tmps).run P w = .ok (.tuple #[tmps.getD x undef, .agg cs.toArray, tmps.getD u undef, tmps.getD v undef]) w := by
  have hp' : tmps[p]?.getD undef = .pointer (some ⟨g, 0, none⟩) := by simpa using hp
  simp [results, h, hp', asAddr, Result.andThen, run_loadVar_row w g t ty cs.toArray (0, 0) d hg hu hd (by simpa using hi)]
theorem results_row1 {fn : Func} {p : Tmp} {ty : TypeId} (h : fn.results = #[.cell p ty]) (tmps : Array Value) (d : TypeDesc)
    (hp : tmps.getD p undef = .pointer (some ⟨g, 0, none⟩)) (hg : Blk w g t cs) (hu : P.underlying ty = some d) (hd : (match d with | .struct _ | .array _ _ => true | _ => false) = true) (hi : (P.info? ty).map (·.size) = some cs.length) :
    (results fn tmps).run P w = .ok (.agg cs.toArray) w :=
  results_cell_row h tmps w g t cs.toArray (0, 0) d hp hg hu hd (by simpa using hi)

variable {ops : Array Oper} {rest : List Oper} {o : Oper} {ac : Act} {Q : Exit → Act → World → Prop} {K : Act → World → Prop}
theorem wp_storeB (ty : TypeId) (x y : Operand) (ho : o.op = .store ty x y)
    (g : Nat) (t : TypeId) (cs cs' : List Value) (hx : ac.eval x = .pointer (some ⟨g, 0, none⟩)) (hy : ac.eval y = .agg cs'.toArray) (hB : Blk w g t cs) (hi : (P.info? ty).map (·.size) = some cs'.length) (hl : cs.length = cs'.length) (h1 : cs'.all (·.oneCell') = true)
    (h : ∀ w', Blk w' g t cs' → Ch [g] w w' → w'.heap.size = w.heap.size → K (ac.put o.dst undef) w') : o.wp P ac w K Q :=
  wp_store_row ty x y ho g cs'.toArray hx hy t cs.toArray hB (by simpa using hi) (by simpa using hl) (by simpa using h1) (h _ (hB.setRow cs') ((Ch.refl _ _).setRow (.inl (by simp)) _) (size_setRow ..))
theorem wpList_storeB (hgd : o.guard = none) (ty : TypeId) (x y : Operand) (ho : o.op = .store ty x y)
    (g : Nat) (t : TypeId) (cs cs' : List Value) (hx : ac.eval x = .pointer (some ⟨g, 0, none⟩)) (hy : ac.eval y = .agg cs'.toArray) (hB : Blk w g t cs) (hi : (P.info? ty).map (·.size) = some cs'.length) (hl : cs.length = cs'.length) (h1 : cs'.all (·.oneCell') = true)
    (h : ∀ w', Blk w' g t cs' → Ch [g] w w' → w'.heap.size = w.heap.size → wpList P ops Q rest (ac.put o.dst undef) w') : wpList P ops Q (o :: rest) ac w :=
  wpList_plain hgd fun _ hK => wp_storeB ty x y ho g t cs cs' hx hy hB hi hl h1 fun w' h1 h2 h3 => hK _ _ (h w' h1 h2 h3)
theorem wpList_loadB (hgd : o.guard = none) (ty : TypeId) (x : Operand) (ho : o.op = .load ty x) (g : Nat) (t : TypeId) (cs : List Value) (d : TypeDesc) (hx : ac.eval x = .pointer (some ⟨g, 0, none⟩)) (hB : Blk w g t cs)
    (hu : P.underlying ty = some d) (hd : (match d with | .struct _ | .array _ _ => true | _ => false) = true) (hi : (P.info? ty).map (·.size) = some cs.length)
    (h : wpList P ops Q rest (ac.put o.dst (.agg cs.toArray)) w) : wpList P ops Q (o :: rest) ac w :=
  wpList_load_row hgd ty x ho g hx t cs.toArray (0, 0) d hB hu hd (by simpa using hi) h

/-- 'copy(b, s)' of a string that fits, b lying in a block from place o on. -/
theorem wpList_copyStr (hgd : o.guard = none) (x y : Operand) (t1 t2 : TypeId) (ho : o.op = .call { callee := .builtin .copy, args := #[x, y], argTypes := #[t1, t2] })
    (g of len cap : Nat) (s : ByteArray) (t e : TypeId) (cs : List Value) (hx : ac.eval x = .slice (some ⟨g, of, none⟩) len cap) (hy : ac.eval y = .string s) (hB : Blk w g t cs)
    (hu : P.underlying t1 = some (.slice e)) (hs : (P.info? e).map (·.size) = some 1) (hle : s.size ≤ len) (hfit : of + s.size ≤ cs.length)
    (h : ∀ w', Blk w' g t (cs.take of ++ (numsOf s).map (Value.int .u8) ++ cs.drop (of + s.size)) → Ch [g] w w' → w'.heap.size = w.heap.size → wpList P ops Q rest (ac.put o.dst (.int .i64 s.size)) w') :
    wpList P ops Q (o :: rest) ac w := by
  refine wpList_plain hgd fun K hK => ?_
  have hr := Lib.run_copy_row_string (P := P) w t1 t2 o.type e g of len cap s cs.toArray t hu hs hB hle (by simpa using hfit)
  have e1 : Lib.byteCells s.data.toList = (numsOf s).map (Value.int .u8) := by unfold Lib.byteCells numsOf; rw [List.map_map]; rfl
  rw [e1] at hr
  unfold Oper.wp execOp
  simp only [ho, resolve, invoke, builtin, Sem.run_bind, Sem.run_pure, Result.andThen_ok, List.map_toArray, List.map_cons, List.map_nil, hx, hy, hr]
  exact hK _ _ (h _ (by simpa using hB.setRow (cs.take of ++ (numsOf s).map (Value.int .u8) ++ cs.drop (of + s.size))) ((Ch.refl _ _).setRow (.inl (by simp)) _) (size_setRow ..))
end
end Go.Proofs.YtbmbnibamhgfmaaDoor

/- Bytes, strings and addresses: small facts that many proofs want. -/
namespace Go.Proofs.YtbmbnibamhgfmaaDoor
open Go.RowKit

def zeros : List Int := [0, 0, 0, 0, 0, 0, 0, 0, 0, 0, 0, 0, 0, 0, 0, 0]
theorem wpList_load_want {P : Program} {ops : Array Oper} {rest : List Oper} {op : Oper} {a : Act} {w : World} {Q : Exit → Act → World → Prop} (hw : Region.wanted op (yielded ops a.tmps) = true) (ty : TypeId) (x : Operand) (ho : op.op = .load ty x)
    (b o : Nat) (hx : a.eval x = .pointer (some ⟨b, o, none⟩)) (cs : List Value) (d : TypeDesc) (hc : w.rangeAt b o cs)
    (hu : P.underlying ty = some d) (hd : d.isRow = true) (hi : (P.info? ty).map (·.size) = some cs.length)
    (h : wpList P ops Q rest (a.put op.dst (.agg cs.toArray)) w) : wpList P ops Q (op :: rest) a w := by
  unfold wpList
  rw [if_pos hw]
  exact .inl (wp_load_mid ty x ho b o hx cs d hc hu hd hi h)
theorem blk_ints {k : IntKind} {w : World} {g : Nat} {t : TypeId} {cs : List Value} (h : Blk w g t cs) (off n : Nat) (xs : List Int) (hl : xs.length = n) (hc : ∀ i (_ : i < xs.length), cs[off + i]? = some (.int k xs[i])) :
    RdI k w (g + 1) (some ⟨g, off, none⟩) n xs :=
  ⟨hl, fun _ => ⟨g, off, rfl, by omega, fun i hi => by rw [h.cell, hc i (by omega)]; simp [at_, List.getD, List.getElem?_eq_getElem (show i < xs.length by omega)]⟩⟩
theorem wrapI (n : Int) (h0 : 0 ≤ n) (h1 : n < 9223372036854775808) : IntKind.i64.wrap n = n := by
  simp [IntKind.wrap, IntKind.bits, IntKind.signed]
  split <;> omega
theorem ofIntU (x : Nat) (h : x < 18446744073709551616) : (BitVec.ofInt 64 (x : Int)).toNat = x := by
  rw [BitVec.ofInt_natCast, BitVec.toNat_ofNat]; exact Nat.mod_eq_of_lt (by omega)
theorem or256 (x y : Int) (h0 : 0 ≤ x) (h1 : x < 65536) (h2 : 0 ≤ y) (h3 : y ≤ 255) : bits .or .i64 (x * 256) y = x * 256 + y := by
  obtain ⟨a, rfl⟩ := Int.eq_ofNat_of_zero_le h0
  obtain ⟨b, rfl⟩ := Int.eq_ofNat_of_zero_le h2
  have e : ((a : Int) * 256) = ((2 ^ 8 * a : Nat) : Int) := by omega
  rw [e]
  show IntKind.i64.wrap ((BitVec.ofInt 64 ((2 ^ 8 * a : Nat) : Int) ||| BitVec.ofInt 64 (b : Int)).toNat : Int) = _
  rw [BitVec.toNat_or, ofIntU _ (by omega), ofIntU b (by omega), ← Nat.two_pow_add_eq_or_of_lt (by omega)]
  rw [wrapI _ (by omega) (by omega)]; omega
theorem nums_ext (s : ByteArray) (i j : Nat) : numsOf (s.extract i j) = ((numsOf s).drop i).take (j - i) := by
  unfold numsOf
  rw [ByteArray.data_extract, Array.toList_extract, List.extract_eq_take_drop, List.map_take, List.map_drop]
theorem nums_tail (s : ByteArray) (k : Nat) : numsOf (s.extract k s.size) = (numsOf s).drop k := by
  rw [nums_ext]; exact List.take_of_length_le (by rw [List.length_drop, numsOf_length]; exact Nat.le_refl _)
theorem nums_bytes (s : ByteArray) : ∀ x ∈ numsOf s, 0 ≤ x ∧ x ≤ 255 := by
  intro x hx
  obtain ⟨b, _, rfl⟩ := List.mem_map.1 hx
  have := b.toNat_lt
  omega
theorem isEmp {s : ByteArray} (h : s.size = 0) : s.toList = [] := by
  rw [ByteArray.toList_eq]; exact List.eq_nil_of_length_eq_zero (by rw [Array.length_toList]; exact h)
theorem notEmp {s : ByteArray} (h : 0 < s.size) : s.toList.isEmpty = false := by
  rw [Bool.eq_false_iff]
  intro e
  rw [ByteArray.toList_eq, List.isEmpty_iff] at e
  have h1 : s.data.toList.length = 0 := by rw [e]; rfl
  rw [Array.length_toList] at h1
  have h2 : s.data.size = s.size := rfl
  omega
theorem addr_one (six : Bool) (bs : List Int) : ∀ v ∈ addrC six bs, v.oneCell' = true := by
  intro v hv
  rcases List.mem_cons.1 hv with rfl | h
  · rfl
  · obtain ⟨z, _, rfl⟩ := List.mem_map.1 h; rfl
theorem len16 {l : List Int} (h : l.length = 16) : ∃ b0 b1 b2 b3 b4 b5 b6 b7 b8 b9 b10 b11 b12 b13 b14 b15, l = [b0, b1, b2, b3, b4, b5, b6, b7, b8, b9, b10, b11, b12, b13, b14, b15] := by
  match l, h with
  | [b0, b1, b2, b3, b4, b5, b6, b7, b8, b9, b10, b11, b12, b13, b14, b15], _ => exact ⟨b0, b1, b2, b3, b4, b5, b6, b7, b8, b9, b10, b11, b12, b13, b14, b15, rfl⟩
theorem nums_app (s t : ByteArray) : numsOf (s ++ t) = numsOf s ++ numsOf t := by unfold numsOf; rw [ByteArray.data_append, Array.toList_append, List.map_append]
end Go.Proofs.YtbmbnibamhgfmaaDoor

/- ginnelref07.Valid. -/
namespace Go.Proofs.YtbmbnibamhgfmaaDoor
open Go.RowKit

theorem addrC_byte {six : Bool} {bs : List Int} {k : Nat} (h : k < bs.length) : (addrC six bs)[1 + k]? = some (.int .u8 (at_ bs k)) := by
  unfold addrC
  rw [Nat.add_comm, List.getElem?_cons_succ, List.getElem?_map, List.getElem?_eq_getElem h]
  simp [at_, List.getD, h]
theorem validA_of {bs : List Int} (hl : bs.length = 16) (h : ∀ j, 4 ≤ j → j < 16 → at_ bs j = 0) : validA false bs = true := by
  unfold validA
  rw [Bool.false_or, List.all_eq_true]
  intro x hx
  obtain ⟨i, hi, rfl⟩ := List.mem_iff_getElem.1 hx
  rw [List.length_drop] at hi
  have := h (4 + i) (by omega) (by omega)
  rw [List.getElem_drop]
  simpa [at_, List.getD, List.getElem?_eq_getElem (show 4 + i < bs.length by omega)] using this
theorem validA_not {bs : List Int} (hl : bs.length = 16) {j : Nat} (h4 : 4 ≤ j) (h16 : j < 16) (h : at_ bs j ≠ 0) : validA false bs = false := by
  unfold validA
  rw [Bool.false_or, Bool.eq_false_iff]
  intro ha
  have := List.all_eq_true.1 ha (at_ bs j) (by
    rw [List.mem_iff_getElem]
    refine ⟨j - 4, by rw [List.length_drop]; omega, ?_⟩
    rw [List.getElem_drop]
    simp [at_, List.getD, List.getElem?_eq_getElem (show j < bs.length by omega), show 4 + (j - 4) = j by omega])
  simp at this
  exact h this

set_option maxRecDepth 100000 in
theorem refValid (six : Bool) (bs : List Int) (hl : bs.length = 16) (w : World) :
    Calls Tryd.prog 62 #[.agg (addrC six bs).toArray] w fun e w' => e = .returned (.bool (validA six bs)) ∧ Ch [] w w' := by
  have hB : Blk (w.alloc (.cells (addrC six bs).toArray 57)) w.heap.size 57 (addrC six bs) := Blk.new w _ _
  have hC : Ch [] w (w.alloc (.cells (addrC six bs).toArray 57)) := (Ch.refl _ _).alloc _
  have c0 : (w.alloc (.cells (addrC six bs).toArray 57)).cell? ⟨w.heap.size, 0, none⟩ = some (.bool six) := hB.cell 0
  have hby : Hid (∀ k, k < 16 → (w.alloc (.cells (addrC six bs).toArray 57)).cell? ⟨w.heap.size, 1 + k, none⟩ = some (.int .u8 (at_ bs k))) := fun k hk => by rw [hB.cell]; exact addrC_byte (by omega)
  generalize hvs : (addrC six bs).toArray = vs at hB hC c0 hby ⊢
  clear hvs hB
  cases six
  · go_enter Tryd.func62, Tryd.ntmps62
    go_wp2_with fail
    go_loopw [3] (fun i wr => ∃ k : Nat, 4 ≤ k ∧ k ≤ 16 ∧ i = .int .i64 k ∧ Hid (∀ j, 4 ≤ j → j < k → at_ bs j = 0) ∧ wr = w.alloc (.cells vs 57)) (fun i _ => 16 - (intOf i).toNat)
    case atStart => exact ⟨4, by omega, by omega, rfl, fun j h1 h2 => absurd h2 (by omega), rfl⟩
    case round =>
      obtain ⟨k, h4, h16, rfl, hz, rfl⟩ := hrel
      by_cases hlt : k < 16
      · have hc := hby.out k hlt
        by_cases h0 : at_ bs k = 0
        · rw [h0] at hc
          have H0 := hid h0
          clear h0
          go_wp2_with fail
          go_roundw
          case rel =>
            refine ⟨k + 1, by omega, by omega, by go_num, fun j h1 h2 => ?_, by first | trivial | rfl⟩
            rcases Nat.lt_or_ge j k with h3 | h3
            · exact hz.out j h1 h3
            · obtain rfl : j = k := by omega
              exact H0.out
          case measure => simp [intOf]; omega
        · have hd : (at_ bs k != 0) = true := by simpa using h0
          have HV := hid (validA_not hl h4 hlt h0)
          clear h0
          generalize at_ bs k = x at hc hd
          go_wp2_with fail
          go_ret
          exact ⟨ret_bool HV.out.symm, hC⟩
      · obtain rfl : k = 16 := by omega
        go_wp2_with fail
        go_ret
        exact ⟨ret_bool (validA_of hl (fun j h1 h2 => hz.out j h1 h2)).symm, hC⟩
  · go_enter Tryd.func62, Tryd.ntmps62
    go_wp2_with fail
    go_loopw [3] (fun i wr => i = .int .i64 4 ∧ wr = w.alloc (.cells vs 57)) (fun _ _ => 0)
    case atStart => exact ⟨rfl, rfl⟩
    case round =>
      obtain ⟨rfl, rfl⟩ := hrel
      go_wp2_with fail
      go_ret
      exact ⟨rfl, hC⟩
end Go.Proofs.YtbmbnibamhgfmaaDoor

/- Host names: the plain layer. -/
namespace Go.Proofs.YtbmbnibamhgfmaaDoor
open Go.RowKit

/-- The pieces between the dots. -/
def splitD : List Int → List (List Int)
  | [] => [[]]
  | c :: l => if c = 46 then [] :: splitD l else
    match splitD l with
    | x :: r => (c :: x) :: r
    | [] => [[c]]
theorem splitD_ne : ∀ l : List Int, splitD l ≠ []
  | [] => by simp [splitD]
  | c :: l => by
    unfold splitD
    split
    · simp
    · split <;> simp
theorem splitD_free : ∀ l : List Int, (∀ x ∈ l, x ≠ 46) → splitD l = [l]
  | [], _ => rfl
  | c :: l, h => by
    unfold splitD
    rw [if_neg (h c (by simp)), splitD_free l (fun x hx => h x (by simp [hx]))]
theorem splitD_cut : ∀ a b : List Int, (∀ x ∈ a, x ≠ 46) → splitD (a ++ 46 :: b) = a :: splitD b
  | [], b, _ => by rw [List.nil_append, splitD, if_pos rfl]
  | c :: a, b, h => by
    rw [List.cons_append, splitD, if_neg (h c (by simp)), splitD_cut a b (fun x hx => h x (by simp [hx]))]

def dotS : ByteArray := ⟨#[46]⟩
theorem nums_get (s : ByteArray) (i : Nat) : (numsOf s)[i]? = (s.data.toList[i]?).map (fun b => (b.toNat : Int)) := by
  unfold numsOf; rw [List.getElem?_map]
theorem u8_46 (b : UInt8) : b = 46 ↔ (b.toNat : Int) = 46 := by
  constructor
  · rintro rfl; rfl
  · intro h
    apply UInt8.toNat_inj.1
    show b.toNat = 46
    omega
theorem split_same : ∀ (k : Nat) (s : ByteArray), Lib.countB s dotS = k → (Lib.splitB dotS 0 k s).map numsOf = splitD (numsOf s) := by
  intro k
  induction k with
  | zero =>
    intro s hk
    rcases Lib.indexB_cases s dotS with h | ⟨i, h, hi⟩
    · rw [Lib.splitB_miss _ _ _ _ h, List.map_cons, List.map_nil, splitD_free]
      intro x hx hx46
      have h1 : Lib.indexByte s.data.toList 46 = -1 := by rw [← Lib.index_one]; exact h
      obtain ⟨j, hj⟩ := List.mem_iff_getElem?.1 hx
      rw [nums_get] at hj
      cases hb : s.data.toList[j]? with
      | none => rw [hb] at hj; cases hj
      | some b =>
        rw [hb] at hj
        have hb2 : (b.toNat : Int) = x := by simpa using hj
        exact Lib.indexByte_none h1 j (by rw [hb, (u8_46 b).2 (by omega)])
    · have := Lib.countB_hit s dotS i (by decide) h
      omega
  | succ k ih =>
    intro s hk
    rcases Lib.indexB_cases s dotS with h | ⟨i, h, hi⟩
    · have := Lib.countB_miss s dotS h
      omega
    · have hc := Lib.countB_hit s dotS i (by decide) h
      have hi1 : i + 1 ≤ s.size := hi
      have hc1 : Lib.countB (s.extract (i + 1) s.size) dotS = k := by
        have : (dotS).size = 1 := rfl
        rw [this] at hc
        omega
      rw [Lib.splitB_hit _ _ _ _ i h, List.map_cons]
      show numsOf (s.extract 0 (i + 0)) :: List.map numsOf (Lib.splitB dotS 0 k (s.extract (i + 1) s.size)) = _
      rw [ih _ hc1, Nat.add_zero, nums_ext, nums_tail]
      simp only [List.drop_zero, Nat.sub_zero]
      have h1 : Lib.indexByte s.data.toList 46 = i := by rw [← Lib.index_one]; exact h
      obtain ⟨g1, g2⟩ := Lib.indexByte_some h1
      have hget : (numsOf s)[i]? = some 46 := by rw [nums_get, g1]; rfl
      have hlt : i < (numsOf s).length := by rw [numsOf_length]; omega
      have hsp : numsOf s = (numsOf s).take i ++ 46 :: (numsOf s).drop (i + 1) := by
        conv => lhs; rw [← List.take_append_drop i (numsOf s), List.drop_eq_getElem_cons hlt]
        rw [List.getElem?_eq_getElem hlt] at hget
        rw [Option.some.inj hget]
      conv => rhs; rw [hsp]
      rw [splitD_cut]
      intro x hx hx46
      obtain ⟨j, hj⟩ := List.mem_iff_getElem?.1 hx
      rw [List.getElem?_take] at hj
      split at hj
      · rename_i hji
        rw [nums_get] at hj
        cases hb : s.data.toList[j]? with
        | none => rw [hb] at hj; cases hj
        | some b =>
          rw [hb] at hj
          have hb2 : (b.toNat : Int) = x := by simpa using hj
          exact g2 j hji (by rw [hb, (u8_46 b).2 (by omega)])
      · cases hj

def chrOk (c : Int) : Bool := decide (97 ≤ c ∧ c ≤ 122) || decide (48 ≤ c ∧ c ≤ 57) || decide (c = 45)
def digOk (c : Int) : Bool := decide (48 ≤ c ∧ c ≤ 57)
def labOk (l : List Int) : Bool := decide (1 ≤ l.length ∧ l.length ≤ 63) && !decide (at_ l 0 = 45) && !decide (at_ l (l.length - 1) = 45) && l.all chrOk
def namOk (l : List Int) : Bool := decide (l.length ≤ 253) && (splitD l).all labOk && !((splitD l).getLastD []).all digOk

def labC : ByteArray := ⟨#[97, 98, 99, 100, 101, 102, 103, 104, 105, 106, 107, 108, 109, 110, 111, 112, 113, 114, 115, 116, 117, 118, 119, 120, 121, 122, 48, 49, 50, 51, 52, 53, 54, 55, 56, 57, 45]⟩
def digC : ByteArray := ⟨#[48, 49, 50, 51, 52, 53, 54, 55, 56, 57]⟩
theorem labC_has : ∀ n : Fin 256, labC.data.toList.contains (UInt8.ofNat n.val) = chrOk n.val := by decide +kernel
theorem digC_has : ∀ n : Fin 256, digC.data.toList.contains (UInt8.ofNat n.val) = digOk n.val := by decide +kernel
theorem dw_nil {α : Type} (p : α → Bool) : ∀ l : List α, l.dropWhile p = [] ↔ ∀ x ∈ l, p x = true
  | [] => by simp
  | a :: l => by
    cases h : p a with
    | true => rw [List.dropWhile_cons_of_pos h, dw_nil p l]; simp [h]
    | false => rw [List.dropWhile_cons_of_neg (by simp [h])]; simp [h]
theorem dw_or {α : Type} (p : α → Bool) (x : α) : ∀ l : List α, x ∈ l → p x = true ∨ x ∈ l.dropWhile p
  | [], h => by cases h
  | a :: l, h => by
    cases ha : p a with
    | true =>
      rw [List.dropWhile_cons_of_pos ha]
      rcases List.mem_cons.1 h with rfl | h
      · exact .inl ha
      · exact dw_or p x l h
    | false => rw [List.dropWhile_cons_of_neg (by simp [ha])]; exact .inr h
theorem trim_none {l cs : List UInt8} : Lib.trimS l cs = [] ↔ ∀ x ∈ l, cs.contains x = true := by
  unfold Lib.trimS Lib.trimLeftS Lib.trimRightS
  constructor
  · intro h x hx
    rw [dw_nil] at h
    rcases dw_or (cs.contains ·) x l.reverse (by simpa using hx) with h1 | h1
    · exact h1
    · exact h x (by simpa using h1)
  · intro h
    have : l.reverse.dropWhile (cs.contains ·) = [] := by
      rw [dw_nil]
      intro x hx
      exact h x (by simpa using hx)
    rw [this]
    rfl
theorem trim_all (s cs : ByteArray) (p : Int → Bool) (h : ∀ n : Fin 256, cs.data.toList.contains (UInt8.ofNat n.val) = p n.val) :
    ((numsOf s).all p = true ∧ (⟨(Lib.trimS s.data.toList cs.data.toList).toArray⟩ : ByteArray) = ⟨#[]⟩) ∨ ((numsOf s).all p = false ∧ (⟨(Lib.trimS s.data.toList cs.data.toList).toArray⟩ : ByteArray).toList.isEmpty = false) := by
  have hp (x : UInt8) : cs.data.toList.contains x = p (x.toNat : Int) := by
    have := h ⟨x.toNat, x.toNat_lt⟩
    simpa using this
  cases hb : (numsOf s).all p with
  | true =>
    refine .inl ⟨rfl, ?_⟩
    have : Lib.trimS s.data.toList cs.data.toList = [] := by
      rw [trim_none]
      intro x hx
      rw [hp]
      rw [List.all_eq_true] at hb
      exact hb _ (by unfold numsOf; exact List.mem_map.2 ⟨x, hx, rfl⟩)
    rw [this]
  | false =>
    refine .inr ⟨rfl, ?_⟩
    have hne : Lib.trimS s.data.toList cs.data.toList ≠ [] := by
      intro he
      rw [trim_none] at he
      have : (numsOf s).all p = true := by
        rw [List.all_eq_true]
        intro y hy
        unfold numsOf at hy
        obtain ⟨x, hx, rfl⟩ := List.mem_map.1 hy
        rw [← hp]
        exact he x hx
      rw [this] at hb
      cases hb
    rw [ByteArray.toList_eq]
    cases hx : Lib.trimS s.data.toList cs.data.toList with
    | nil => exact absurd hx hne
    | cons a l => rfl
end Go.Proofs.YtbmbnibamhgfmaaDoor

/- Pieces between the occurrences of a byte: the plain layer, for any byte. -/
namespace Go.Proofs.YtbmbnibamhgfmaaDoor
open Go.RowKit

def splitC (c : Int) : List Int → List (List Int)
  | [] => [[]]
  | x :: l => if x = c then [] :: splitC c l else
    match splitC c l with
    | y :: r => (x :: y) :: r
    | [] => [[x]]
theorem splitC_ne (c : Int) : ∀ l : List Int, splitC c l ≠ []
  | [] => by simp [splitC]
  | x :: l => by
    unfold splitC
    split
    · simp
    · split <;> simp
theorem splitC_free (c : Int) : ∀ l : List Int, (∀ x ∈ l, x ≠ c) → splitC c l = [l]
  | [], _ => rfl
  | x :: l, h => by
    unfold splitC
    rw [if_neg (h x (by simp)), splitC_free c l (fun y hy => h y (by simp [hy]))]
theorem splitC_cut (c : Int) : ∀ a b : List Int, (∀ x ∈ a, x ≠ c) → splitC c (a ++ c :: b) = a :: splitC c b
  | [], b, _ => by rw [List.nil_append, splitC, if_pos rfl]
  | x :: a, b, h => by
    rw [List.cons_append, splitC, if_neg (h x (by simp)), splitC_cut c a b (fun y hy => h y (by simp [hy]))]
theorem splitC_46 : ∀ l : List Int, splitC 46 l = splitD l
  | [] => rfl
  | x :: l => by
    unfold splitC splitD
    rw [splitC_46 l]
    all_goals (split <;> (first | rfl | (cases splitD l <;> rfl)))
theorem splitC_len (c : Int) : ∀ l : List Int, (splitC c l).length ≤ l.length + 1
  | [] => Nat.le_refl _
  | x :: l => by
    unfold splitC
    have := splitC_len c l
    split
    · simp; omega
    · split
      · rename_i h; rw [h] at this; simp at this ⊢; omega
      · simp
theorem splitC_size (c : Int) : ∀ l : List Int, ∀ x ∈ splitC c l, x.length ≤ l.length
  | [], x, h => by simp [splitC] at h; subst h; exact Nat.le_refl _
  | y :: l, x, h => by
    unfold splitC at h
    have ih := splitC_size c l
    split at h
    · rcases List.mem_cons.1 h with rfl | h
      · simp
      · have := ih x h; simp; omega
    · split at h
      · rename_i z r hz
        rw [hz] at ih
        rcases List.mem_cons.1 h with rfl | h
        · have := ih z (by simp); simp; omega
        · have := ih x (by simp [h]); simp; omega
      · simp at h; subst h; simp
/-- One step of the loop that splits: the piece from f to i is closed at i. -/
theorem splitC_step (c : Int) (l : List Int) (f i : Nat) (hf : f ≤ i) (hi : i < l.length) (hc : at_ l i = c) (hn : ∀ j, f ≤ j → j < i → at_ l j ≠ c) : splitC c (l.drop f) = (l.drop f).take (i - f) :: splitC c (l.drop (i + 1)) := by
  have h1 : l.drop f = (l.drop f).take (i - f) ++ c :: l.drop (i + 1) := by
    conv => lhs; rw [← List.take_append_drop (i - f) (l.drop f), List.drop_drop, show f + (i - f) = i by omega, List.drop_eq_getElem_cons hi]
    have : l[i] = c := by rw [← hc]; simp [at_, List.getD, hi]
    rw [this]
  conv => lhs; rw [h1]
  apply splitC_cut
  intro x hx
  obtain ⟨j, hj⟩ := List.mem_iff_getElem?.1 hx
  rw [List.getElem?_take] at hj
  split at hj
  · rename_i hji
    rw [List.getElem?_drop] at hj
    have := hn (f + j) (by omega) (by omega)
    intro he
    apply this
    simp only [at_, List.getD, hj, Option.getD_some]
    exact he
  · cases hj
theorem splitC_last (c : Int) (l : List Int) (f : Nat) (hn : ∀ j, f ≤ j → j < l.length → at_ l j ≠ c) : splitC c (l.drop f) = [l.drop f] := by
  apply splitC_free
  intro x hx
  obtain ⟨j, hj⟩ := List.mem_iff_getElem?.1 hx
  rw [List.getElem?_drop] at hj
  have hlt : f + j < l.length := by
    rcases Nat.lt_or_ge (f + j) l.length with h | h
    · exact h
    · rw [List.getElem?_eq_none h] at hj; cases hj
  intro he
  apply hn (f + j) (by omega) hlt
  simp only [at_, List.getD, hj, Option.getD_some]
  exact he
end Go.Proofs.YtbmbnibamhgfmaaDoor

/- Bits of an address's bytes: what is kept of a byte, what two bytes have in common; the plain layer. -/
namespace Go.Proofs.YtbmbnibamhgfmaaDoor
open Go.RowKit

/-- The first k bits of a byte, as a number; the byte with the others struck. -/
def hiB (b : Int) (k : Nat) : Int := b / 2 ^ (8 - k)
def cutB (b : Int) (k : Nat) : Int := hiB b k * 2 ^ (8 - k)
/-- How many bits of byte i belong to the first n bits. -/
def keepB (n : Int) (i : Nat) : Nat := (max 0 (min (n - 8 * i) 8)).toNat
def truncL (bs : List Int) (n : Int) : List Int := bs.mapIdx fun i b => cutB b (keepB n i)
def bitA (bs : List Int) (i : Nat) : Int := at_ bs (i / 8) / 2 ^ (7 - i % 8) % 2

theorem keep_le (n : Int) (i : Nat) : keepB n i ≤ 8 := by unfold keepB; omega
theorem keep_lt (n : Int) (i j : Nat) (hj : j < 8) : j < keepB n i ↔ (8 * i + j : Int) < n := by unfold keepB; omega
theorem hi_bits (a b : Int) (ha : 0 ≤ a ∧ a ≤ 255) (hb : 0 ≤ b ∧ b ≤ 255) (k : Nat) (hk : k ≤ 8) : hiB a k = hiB b k ↔ ∀ j, j < k → a / 2 ^ (7 - j) % 2 = b / 2 ^ (7 - j) % 2 := by
  induction k with
  | zero => simp [hiB]; omega
  | succ k ih =>
    have ih := ih (by omega)
    have hs : hiB a (k + 1) = hiB b (k + 1) ↔ hiB a k = hiB b k ∧ a / 2 ^ (7 - k) % 2 = b / 2 ^ (7 - k) % 2 := by
      unfold hiB
      rcases (show k = 0 ∨ k = 1 ∨ k = 2 ∨ k = 3 ∨ k = 4 ∨ k = 5 ∨ k = 6 ∨ k = 7 by omega) with rfl | rfl | rfl | rfl | rfl | rfl | rfl | rfl
      all_goals
        simp only [Nat.reduceSub, Nat.reduceAdd, Int.reducePow]
        omega
    rw [hs, ih]
    constructor
    · rintro ⟨h1, h2⟩ j hj
      rcases Nat.lt_or_ge j k with h | h
      · exact h1 j h
      · obtain rfl : j = k := by omega
        exact h2
    · intro h
      exact ⟨fun j hj => h j (by omega), h k (by omega)⟩
theorem cut_eq (a b : Int) (k : Nat) : cutB a k = cutB b k ↔ hiB a k = hiB b k := by
  unfold cutB
  constructor
  · intro h
    have hp : (2 : Int) ^ (8 - k) ≠ 0 := by
      have : (0 : Int) < 2 ^ (8 - k) := Int.pow_pos (by omega)
      omega
    exact Int.eq_of_mul_eq_mul_right hp h
  · intro h; rw [h]
theorem hi_cut (a : Int) (k : Nat) : hiB (cutB a k) k = hiB a k := by
  unfold cutB
  have hp : (2 : Int) ^ (8 - k) ≠ 0 := by
    have : (0 : Int) < 2 ^ (8 - k) := Int.pow_pos (by omega)
    omega
  show hiB a k * 2 ^ (8 - k) / 2 ^ (8 - k) = hiB a k
  exact Int.mul_ediv_cancel _ hp
/-- A byte is cut already if its further bits are zero. -/
theorem cut_self (b : Int) (hb : 0 ≤ b ∧ b ≤ 255) (k : Nat) (hk : k ≤ 8) : cutB b k = b ↔ ∀ j, k ≤ j → j < 8 → b / 2 ^ (7 - j) % 2 = 0 := by
  have hall : ∀ b : Fin 256, ∀ k : Fin 9, cutB b.val k.val = b.val ↔ ∀ j : Fin 8, k.val ≤ j.val → (b.val : Int) / 2 ^ (7 - j.val) % 2 = 0 := by decide +kernel
  obtain ⟨n, rfl⟩ := Int.eq_ofNat_of_zero_le hb.1
  have := hall ⟨n, by omega⟩ ⟨k, by omega⟩
  rw [this]
  constructor
  · intro h j h1 h2
    exact h ⟨j, h2⟩ h1
  · intro h j h1
    exact h j.val h1 j.isLt
theorem trunc_len (bs : List Int) (n : Int) : (truncL bs n).length = bs.length := by unfold truncL; simp
theorem trunc_at (bs : List Int) (n : Int) (i : Nat) (h : i < bs.length) : at_ (truncL bs n) i = cutB (at_ bs i) (keepB n i) := by
  unfold truncL
  simp [at_, List.getD, h]
theorem at_ext {a b : List Int} (hl : a.length = b.length) (h : ∀ i, i < a.length → at_ a i = at_ b i) : a = b := by
  apply List.ext_getElem hl
  intro i h1 h2
  have := h i h1
  simpa [at_, List.getD, h1, h2] using this
theorem bit_byte (bs : List Int) (i j : Nat) (hj : j < 8) : bitA bs (8 * i + j) = at_ bs i / 2 ^ (7 - j) % 2 := by
  unfold bitA
  rw [show (8 * i + j) / 8 = i by omega, show (8 * i + j) % 8 = j by omega]
/-- A cut address equals a cut prefix if the bits agree. -/
theorem agree_iff (p a : List Int) (n : Nat) (hp : p.length = 16) (ha : a.length = 16) (hpb : ∀ x ∈ p, 0 ≤ x ∧ x ≤ 255) (hab : ∀ x ∈ a, 0 ≤ x ∧ x ≤ 255) (hn : n ≤ 128) (hv : truncL p n = p) :
    truncL a n = p ↔ ∀ i, i < n → bitA p i = bitA a i := by
  have at_mem {l : List Int} {i : Nat} (h : i < l.length) : at_ l i ∈ l := by simp [at_, List.getD, h]
  have hbyte (i : Nat) (hi : i < 16) : cutB (at_ a i) (keepB n i) = at_ p i ↔ ∀ j, j < keepB n i → at_ a i / 2 ^ (7 - j) % 2 = at_ p i / 2 ^ (7 - j) % 2 := by
    have hpi : cutB (at_ p i) (keepB n i) = at_ p i := by
      have := congrArg (fun l => at_ l i) hv
      rw [trunc_at _ _ _ (by omega)] at this
      exact this
    rw [← hi_bits _ _ (hab _ (at_mem (by omega))) (hpb _ (at_mem (by omega))) _ (keep_le _ _), ← cut_eq, hpi]
  constructor
  · intro h i hi
    have hq : i / 8 < 16 := by omega
    have h1 : cutB (at_ a (i / 8)) (keepB n (i / 8)) = at_ p (i / 8) := by rw [← trunc_at _ _ _ (by omega), h]
    have h2 := (hbyte _ hq).1 h1 (i % 8) ((keep_lt _ _ _ (by omega)).2 (by omega))
    unfold bitA
    exact h2.symm
  · intro h
    refine at_ext (by rw [trunc_len, ha, hp]) fun i hi => ?_
    rw [trunc_len, ha] at hi
    rw [trunc_at _ _ _ (by omega), hbyte i hi]
    intro j hj
    have hj8 : j < 8 := by have := keep_le n i; omega
    have h3 := h (8 * i + j) (by have := (keep_lt _ _ _ hj8).1 hj; omega)
    rw [bit_byte _ _ _ hj8, bit_byte _ _ _ hj8] at h3
    exact h3.symm
/-- An address is cut already if its further bits are zero. -/
theorem cut_iff (p : List Int) (n L : Nat) (hp : p.length = 16) (hpb : ∀ x ∈ p, 0 ≤ x ∧ x ≤ 255) (_hn : n ≤ L) (hL : L = 128 ∨ L = 32 ∧ ∀ i, 4 ≤ i → i < 16 → at_ p i = 0) :
    truncL p n = p ↔ ∀ i, n ≤ i → i < L → bitA p i = 0 := by
  have at_mem {l : List Int} {i : Nat} (h : i < l.length) : at_ l i ∈ l := by simp [at_, List.getD, h]
  constructor
  · intro h i h1 h2
    have hq : i / 8 < 16 := by omega
    have h3 : cutB (at_ p (i / 8)) (keepB n (i / 8)) = at_ p (i / 8) := by rw [← trunc_at _ _ _ (by omega), h]
    have h4 := (cut_self _ (hpb _ (at_mem (by omega))) _ (keep_le _ _)).1 h3 (i % 8) (by have := keep_lt n (i / 8) (i % 8) (by omega); omega) (by omega)
    exact h4
  · intro h
    refine at_ext (by rw [trunc_len]) fun i hi => ?_
    rw [trunc_len, hp] at hi
    rw [trunc_at _ _ _ (by omega), cut_self _ (hpb _ (at_mem (by omega))) _ (keep_le _ _)]
    intro j h1 h2
    by_cases hz : 8 * i + j < L
    · have h3 := h (8 * i + j) (by have := keep_lt n i j h2; omega) hz
      rw [bit_byte _ _ _ h2] at h3
      exact h3
    · rcases hL with hL | ⟨hL, h0⟩
      · omega
      · rw [h0 i (by omega) hi]
        simp
/-- 'and' with a mask of leading ones. -/
def maskB (k : Nat) : Int := 256 - 2 ^ (8 - k)
theorem and_mask (b : Int) (hb : 0 ≤ b ∧ b ≤ 255) (k : Nat) (hk : k ≤ 8) : bits .and .u8 b (maskB k) = cutB b k := by
  have hall : ∀ b : Fin 256, ∀ k : Fin 9, bits .and .u8 (b.val : Int) (maskB k.val) = cutB b.val k.val := by decide +kernel
  obtain ⟨n, rfl⟩ := Int.eq_ofNat_of_zero_le hb.1
  exact hall ⟨n, by omega⟩ ⟨k, by omega⟩
end Go.Proofs.YtbmbnibamhgfmaaDoor

/- Addresses and prefixes as text: the plain layer (as far as the tables' own constants want it). -/
namespace Go.Proofs.YtbmbnibamhgfmaaDoor
open Go.RowKit

def decV : List Int → Int → Option Int
  | [], n => some n
  | c :: l, n => if 48 ≤ c ∧ c ≤ 57 then decV l (10 * n + (c - 48)) else none
def decP (l : List Int) (most : Int) : Option Int :=
  if 1 ≤ l.length ∧ l.length ≤ 6 ∧ (at_ l 0 ≠ 48 ∨ l.length = 1) then (match decV l 0 with | some n => if n ≤ most then some n else none | none => none) else none
def hexD (c : Int) : Option Int := if 48 ≤ c ∧ c ≤ 57 then some (c - 48) else if 97 ≤ c ∧ c ≤ 102 then some (c - 87) else if 65 ≤ c ∧ c ≤ 70 then some (c - 55) else none
def hexV : List Int → Int → Option Int
  | [], n => some n
  | c :: l, n => match hexD c with | some d => hexV l (16 * n + d) | none => none
def hexP (l : List Int) : Option Int := if 1 ≤ l.length ∧ l.length ≤ 4 then hexV l 0 else none
def allO {α β : Type} (f : α → Option β) : List α → Option (List β)
  | [] => some []
  | x :: l => match f x, allO f l with | some y, some r => some (y :: r) | _, _ => none
/-- Groups without an IPv4 tail: no dot stands in them. -/
def grpP (l : List Int) : Option (List Int) := if l.all (fun x => !decide (x = 46)) then (if l.length = 0 then some [] else allO hexP (splitC 58 l)) else none
def ip4P (l : List Int) : Option (List Int) := if (splitC 46 l).length = 4 then allO (fun x => decP x 255) (splitC 46 l) else none
/-- The first place where two colons stand side by side. -/
def dblC : List Int → Option Nat
  | [] => none
  | x :: l => if x = 58 ∧ l.head? = some 58 then some 0 else (dblC l).map (· + 1)
def grpB (gs : List Int) : List Int := gs.flatMap fun g => [g / 256, g % 256]
def z12 : List Int := [0, 0, 0, 0, 0, 0, 0, 0, 0, 0, 0, 0]
def addrT (l : List Int) : Option (Bool × List Int) :=
  match ip4P l with
  | some bs => some (false, bs ++ z12)
  | none => if l.all (fun x => !decide (x = 46)) then (match dblC l with
    | none => none
    | some k => match grpP (l.take k), grpP (l.drop (k + 2)) with
      | some a, some b => if a.length + b.length ≤ 7 then some (true, grpB (a ++ List.replicate (8 - (a.length + b.length)) 0 ++ b)) else none
      | _, _ => none) else none
abbrev Pfx := Bool × List Int × Int
def bitL (six : Bool) : Int := if six then 128 else 32
def validP (p : Pfx) : Bool := validA p.1 p.2.1 && decide (0 ≤ p.2.2) && decide (p.2.2 ≤ bitL p.1) && decide (truncL p.2.1 p.2.2 = p.2.1)
def prefT (l : List Int) : Option Pfx :=
  match splitC 47 l with
  | [a, n] => match addrT a, decP n 128 with
    | some r, some k => if validP (r.1, r.2, k) then some (r.1, r.2, k) else none
    | _, _ => none
  | _ => none
/-- The prefix with the given leading groups. -/
def pf6 (gs : List Int) (n : Int) : Pfx := (true, grpB (gs ++ List.replicate (8 - gs.length) 0), n)
def pf4 (a b c d : Int) (n : Int) : Pfx := (false, [a, b, c, d] ++ z12, n)
/-- The block list. -/
def blkT : List Pfx := [pf4 0 0 0 0 8, pf4 10 0 0 0 8, pf4 100 64 0 0 10, pf4 127 0 0 0 8, pf4 169 254 0 0 16, pf4 172 16 0 0 12, pf4 192 168 0 0 16, pf4 224 0 0 0 3, pf6 [] 128, pf6 [0, 0, 0, 0, 0, 0, 0, 1] 128, pf6 [0, 0, 0, 0, 0, 65535] 96, pf6 [100, 65435] 96, pf6 [64512] 7, pf6 [65152] 10, pf6 [65280] 8]
/-- The policy table: prefix, precedence, label. -/
def polT : List (Pfx × Int × Int) := [(pf6 [0, 0, 0, 0, 0, 0, 0, 1] 128, 50, 0), (pf6 [] 0, 40, 1), (pf6 [0, 0, 0, 0, 0, 65535] 96, 35, 4), (pf6 [8194] 16, 30, 2), (pf6 [8193] 32, 5, 5), (pf6 [64512] 7, 3, 13), (pf6 [] 96, 1, 3), (pf6 [65216] 10, 1, 11), (pf6 [16382] 16, 1, 12)]
def nums (s : String) : List Int := s.toUTF8.data.toList.map fun b => (b.toNat : Int)
theorem blkT_text : (["0.0.0.0/8", "10.0.0.0/8", "100.64.0.0/10", "127.0.0.0/8", "169.254.0.0/16", "172.16.0.0/12", "192.168.0.0/16", "224.0.0.0/3", "::/128", "::1/128", "::ffff:0:0/96", "64:ff9b::/96", "fc00::/7", "fe80::/10", "ff00::/8"].map fun s => prefT (nums s)) = blkT.map some := by decide +kernel
theorem polT_text : (["::1/128", "::/0", "::ffff:0:0/96", "2002::/16", "2001::/32", "fc00::/7", "::/96", "fec0::/10", "3ffe::/16"].map fun s => prefT (nums s)) = polT.map fun r => some r.1 := by decide +kernel

/-- Whether a prefix contains an address. -/
def contP (p : Pfx) (six : Bool) (a : List Int) : Bool := validP p && validA six a && (p.1 == six) && decide (truncL a p.2.2 = p.2.1)
def idxP (six : Bool) (a : List Int) : List Pfx → Nat → Int
  | [], _ => -1
  | p :: l, i => if contP p six a then (i : Int) else idxP six a l (i + 1)
end Go.Proofs.YtbmbnibamhgfmaaDoor

/- ginnelgen.Mod. -/
namespace Go.Proofs.YtbmbnibamhgfmaaDoor
open Go.RowKit

def modI (v n : Int) : Int := (IntKind.u64.wrap v) % n
theorem u64_rng (v : Int) : 0 ≤ IntKind.u64.wrap v ∧ IntKind.u64.wrap v ≤ 18446744073709551615 := by rw [IntKind.wrap_u64]; omega
theorem modI_rng (v n : Int) (h : 0 < n) : 0 ≤ modI v n ∧ modI v n < n := ⟨Int.emod_nonneg _ (by omega), Int.emod_lt_of_pos _ h⟩

theorem genMod (v n : Int) (w : World) (h0 : 0 < n) (h1 : n ≤ 9223372036854775807) :
    Calls Tryd.prog 9 #[.int .i64 v, .int .i64 n] w fun e w' => e = .returned (.int .i64 (modI v n)) ∧ w = w' := by
  obtain ⟨r0, r1⟩ := u64_rng v
  have m0 : 0 ≤ IntKind.u64.wrap v % n := (modI_rng v n h0).1
  have m1 : IntKind.u64.wrap v % n < n := (modI_rng v n h0).2
  have hne : (n == 0) = false := by simp; omega
  go_enter Tryd.func9, Tryd.ntmps9
  go_wp2
  go_ret
  exact ⟨rfl, rfl⟩
end Go.Proofs.YtbmbnibamhgfmaaDoor

/- ginnelref07.V4, ginnelgen.Addr. -/
namespace Go.Proofs.YtbmbnibamhgfmaaDoor
open Go.RowKit

theorem addr_info : (Tryd.prog.info? 57).map (·.size) = some 17 := by kernel_rfl
theorem v4R (a b c d : Int) (w : World) : Calls Tryd.prog 48 #[.int .u8 a, .int .u8 b, .int .u8 c, .int .u8 d] w fun e w' => e = .returned (.agg #[.bool false, .int .u8 a, .int .u8 b, .int .u8 c, .int .u8 d, .int .u8 0, .int .u8 0, .int .u8 0, .int .u8 0, .int .u8 0, .int .u8 0, .int .u8 0, .int .u8 0, .int .u8 0, .int .u8 0, .int .u8 0, .int .u8 0]) ∧ Ch [] w w' := by
  go_enter Tryd.func48, Tryd.ntmps48
  go_wp2_with (refine wpList_storeB rfl 57 _ _ rfl w.heap.size 57 (addrC false zeros) (addrC false [a, b, c, d, 0, 0, 0, 0, 0, 0, 0, 0, 0, 0, 0, 0]) rfl rfl (Blk.new _ _ _) addr_info rfl rfl ?_; intro w2 B2 C2 Z2)
  try simp only [Exit.inBlock, Exit.then]
  refine bodyPost_ret (results_row1 rfl _ _ rfl B2 Tryd.underlying57 rfl addr_info) rfl ?_
  exact ⟨rfl, ((Ch.refl [] w).alloc _).step C2 (fun i hi => .inr (by simp at hi; omega))⟩
set_option maxRecDepth 100000 in
set_option maxHeartbeats 8000000 in
theorem genAddr (n : Int) (w : World) : Calls Tryd.prog 87 #[.int .i64 n] w fun e w' => (∃ six b0 b1 b2 b3 b4 b5 b6 b7 b8 b9 b10 b11 b12 b13 b14 b15, e = .returned (.agg #[.bool six, .int .u8 b0, .int .u8 b1, .int .u8 b2, .int .u8 b3, .int .u8 b4, .int .u8 b5, .int .u8 b6, .int .u8 b7, .int .u8 b8, .int .u8 b9, .int .u8 b10, .int .u8 b11, .int .u8 b12, .int .u8 b13, .int .u8 b14, .int .u8 b15]) ∧ (∀ x ∈ [b0, b1, b2, b3, b4, b5, b6, b7, b8, b9, b10, b11, b12, b13, b14, b15], 0 ≤ x ∧ x ≤ 255) ∧ validA six [b0, b1, b2, b3, b4, b5, b6, b7, b8, b9, b10, b11, b12, b13, b14, b15] = true) ∧ Ch [] w w' := by
  obtain ⟨h0, h1⟩ := modI_rng n 14 (by omega)
  have M1 := hid (fun w => genMod n 14 w (by omega) (by omega))
  generalize modI n 14 = k at h0 h1 M1
  obtain ⟨y, hy⟩ : ∃ y, n / 16 % 256 = y := ⟨_, rfl⟩
  have y0 : 0 ≤ y ∧ y ≤ 255 := by omega
  obtain rfl | rfl | rfl | rfl | rfl | rfl | rfl | rfl | rfl | rfl | rfl | rfl | rfl | rfl : k = 0 ∨ k = 1 ∨ k = 2 ∨ k = 3 ∨ k = 4 ∨ k = 5 ∨ k = 6 ∨ k = 7 ∨ k = 8 ∨ k = 9 ∨ k = 10 ∨ k = 11 ∨ k = 12 ∨ k = 13 := by omega
  all_goals
    go_enter Tryd.func87, Tryd.ntmps87
    go_wp2_with (first
      | (refine wpList_storeB rfl 57 _ _ rfl w.heap.size 57 (addrC false zeros) (addrC _ [_, _, _, _, _, _, _, _, _, _, _, _, _, _, _, _]) rfl rfl B3 addr_info rfl rfl ?_; intro w2 B2 C2 Z2; have CE := C3.step C2 (fun i hi => .inr (by simp at hi; omega)))
      | (refine wpList_storeB rfl 57 _ _ rfl w.heap.size 57 (addrC false zeros) (addrC _ [_, _, _, _, _, _, _, _, _, _, _, _, _, _, _, _]) rfl rfl (Blk.new _ _ _) addr_info rfl rfl ?_; intro w2 B2 C2 Z2; have CE := ((Ch.refl [] w).alloc _).step C2 (fun i hi => .inr (by simp at hi; omega)))
      | (go_at_call 48; (with_reducible refine (v4R _ _ _ _ _).mono ?_); rintro e w3 ⟨rfl, C4⟩; have B3 := (Blk.new w 57 (addrC false zeros)).ch C4 (by simp); have C3 := ((Ch.refl [] w).alloc _).trans C4)
      | (go_at_call 9; (with_reducible refine (M1.out _).mono ?_); rintro e w2 ⟨rfl, rfl⟩))
    try simp only [Exit.inBlock, Exit.then]
    refine bodyPost_ret (results_row1 rfl _ _ rfl B2 Tryd.underlying57 rfl addr_info) rfl ?_
    refine ⟨⟨_, _, _, _, _, _, _, _, _, _, _, _, _, _, _, _, _, rfl, ?_, rfl⟩, CE⟩
    intro x hx
    simp only [List.mem_cons, List.not_mem_nil, or_false] at hx
    omega
end Go.Proofs.YtbmbnibamhgfmaaDoor

/- The builtins min and max of two integers, given the number that comes out. -/
namespace Go.Proofs.YtbmbnibamhgfmaaDoor
open Go.RowKit

section
variable {P : Program} {w : World} {ops : Array Oper} {rest : List Oper} {o : Oper} {a : Act} {Q : Exit → Act → World → Prop}
theorem wpList_min (hgd : o.guard = none) (x y : Operand) (ts : Array TypeId) (ho : o.op = .call { callee := .builtin .min, args := #[x, y], argTypes := ts })
    (k k' : IntKind) (p q r : Int) (hx : a.eval x = .int k p) (hy : a.eval y = .int k' q) (hr : min p q = r) (h : wpList P ops Q rest (a.put o.dst (.int k r)) w) : wpList P ops Q (o :: rest) a w :=
  wpList_plain hgd fun K hK => by
    have e : (if q < p then q else p) = r := by rw [← hr]; by_cases h1 : q < p <;> simp [h1, Int.min_def] <;> omega
    unfold Oper.wp execOp
    simp only [ho, resolve, invoke, builtin, Sem.run_bind, Sem.run_pure, Result.andThen_ok, List.map_toArray, List.map_cons, List.map_nil, hx, hy, run_min_int2, e]
    exact hK _ _ h
theorem wpList_max (hgd : o.guard = none) (x y : Operand) (ts : Array TypeId) (ho : o.op = .call { callee := .builtin .max, args := #[x, y], argTypes := ts })
    (k k' : IntKind) (p q r : Int) (hx : a.eval x = .int k p) (hy : a.eval y = .int k' q) (hr : max p q = r) (h : wpList P ops Q rest (a.put o.dst (.int k r)) w) : wpList P ops Q (o :: rest) a w :=
  wpList_plain hgd fun K hK => by
    have e : (if q > p then q else p) = r := by rw [← hr]; by_cases h1 : q > p <;> simp [h1, Int.max_def] <;> omega
    unfold Oper.wp execOp
    simp only [ho, resolve, invoke, builtin, Sem.run_bind, Sem.run_pure, Result.andThen_ok, List.map_toArray, List.map_cons, List.map_nil, hx, hy, run_max_int2, e]
    exact hK _ _ h
end
end Go.Proofs.YtbmbnibamhgfmaaDoor
