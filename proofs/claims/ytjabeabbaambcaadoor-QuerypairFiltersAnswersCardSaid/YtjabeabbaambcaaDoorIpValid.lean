/- ip.Valid and its reference: an IPv4 address uses its first four bytes alone. -/
import Derived.Test.YtjabeabbaambcaaDoorTrim
import Derived.Test.YtjabeabbaambcaaDoorFloat
import Derived.Test.YtjabeabbaambcaaDoorArgs
namespace Go.Proofs.YtjabeabbaambcaaDoor
open Go.RowKit

theorem run_strOf {P : Program} {w : World} (src dst e : TypeId) (hs : P.underlying src = some (.slice e)) (he : P.underlying e = some (.int .u8)) (hd : P.underlying dst = some .string)
    (A : Option Addr) (n c B : Nat) (xs : List Int) (hr : RdI .u8 w B A n xs) : (convert src dst (.slice A n c)).run P w = .ok (.string (strOfNums xs)) w := by
  rcases Nat.eq_zero_or_pos n with h0 | hp
  · subst h0
    obtain rfl : xs = [] := List.eq_nil_of_length_eq_zero hr.1
    rcases A with _ | ⟨b, off, spot⟩
    · exact run_convert_bytes_nil w src e hs he 0 c dst hd
    · have := run_convert_bytes_back w src dst e ⟨b, off, spot⟩ c [] hs he hd (fun j hj => absurd hj (by simp))
      exact this
  · obtain ⟨b, off, rfl, _, hc⟩ := hr.2 hp
    exact run_convert_bytes_arg w src e hs he b off n c xs hr.1 (fun i hi => hc i hi) dst hd

theorem byt_strOf {xs : List Int} (hx : ∀ x ∈ xs, 0 ≤ x ∧ x ≤ 255) {i : Nat} (h : i < xs.length) : byt (strOfNums xs) i = at_ xs i := by
  have hm := hx (at_ xs i) (at_mem xs i h)
  have e : at_ xs i = xs[i] := by simp [at_, List.getD, h]
  rw [e] at hm ⊢
  unfold byt strOfNums
  simp only [List.getElem?_toArray, List.getElem?_map, List.getElem?_eq_getElem h, Option.map_some, Option.getD_some]
  rw [UInt8.toNat_ofNat']
  omega

/-- The cells of an address: the family and sixteen bytes. -/
def addrC (six : Bool) (bs : List Int) : List Value := .bool six :: bs.map (.int .u8)
def validA (six : Bool) (bs : List Int) : Bool := six || (bs.drop 4).all (· == 0)

set_option maxRecDepth 100000 in
theorem ipValid (six : Bool) (bs : List Int) (hl : bs.length = 16) (hb : ∀ x ∈ bs, 0 ≤ x ∧ x ≤ 255) (w : World) :
    Calls Tryd.prog 58 #[.agg (addrC six bs).toArray] w fun e w' => e = .returned (.bool (validA six bs)) ∧ Ch [] w w' := by
  have hB : Blk (w.alloc (.cells (addrC six bs).toArray 29)) w.heap.size 29 (addrC six bs) := Blk.new w _ _
  have hC : Ch [] w (w.alloc (.cells (addrC six bs).toArray 29)) := (Ch.refl _ _).alloc _
  have c0 : (w.alloc (.cells (addrC six bs).toArray 29)).cell? ⟨w.heap.size, 0, none⟩ = some (.bool six) := hB.cell 0
  have hR : RdI .u8 (w.alloc (.cells (addrC six bs).toArray 29)) (w.heap.size + 1) (some ⟨w.heap.size, 5, none⟩) 12 (bs.drop 4) := by
    refine ⟨by rw [List.length_drop]; omega, fun _ => ⟨_, _, rfl, by omega, fun i hi => ?_⟩⟩
    rw [hB.cell, show 5 + i = (4 + i) + 1 by omega]
    unfold addrC
    rw [List.getElem?_cons_succ, List.getElem?_map, List.getElem?_eq_getElem (by omega), Option.map_some]
    simp [at_, List.getD, List.getElem?_eq_getElem (show 4 + i < bs.length by omega)]
  have hrun := run_strOf (P := Tryd.prog) 110 9 5 Tryd.underlying110 Tryd.underlying5 Tryd.underlying9 _ 12 12 _ _ hR
  have HZ : Hid ((∀ i, i < (strOfNums (bs.drop 4)).size → byt (strOfNums (bs.drop 4)) i = 0) ↔ (bs.drop 4).all (· == 0) = true) := by
    show _ ↔ _
    have hd : ∀ x ∈ bs.drop 4, 0 ≤ x ∧ x ≤ 255 := fun x hx => hb x (List.mem_of_mem_drop hx)
    rw [List.all_eq_true, strOf_size]
    constructor
    · intro h x hx
      obtain ⟨i, hi, rfl⟩ := List.mem_iff_getElem.1 hx
      have := h i hi
      rw [byt_strOf hd hi] at this
      simpa [at_, List.getD, List.getElem?_eq_getElem hi] using this
    · intro h i hi
      rw [byt_strOf hd hi]
      simpa using h _ (at_mem _ i hi)
  have hsz : (strOfNums (bs.drop 4)).size ≤ 9223372036854775807 := by rw [strOf_size, List.length_drop]; omega
  unfold validA
  generalize hvs : (addrC six bs).toArray = vs at hB hC c0 hrun ⊢
  clear hR hvs
  cases six
  · go_enter Tryd.func58, Tryd.ntmps58
    go_wp2_with fail
    refine (trimZero _ _ hsz).mono ?_
    rintro e w2 ⟨⟨r, rfl, hr⟩, n, rfl⟩
    by_cases hz : (bs.drop 4).all (· == 0) = true
    · have he : r.toList.isEmpty = true := by
        have : r.size = 0 := hr.2 (HZ.out.2 hz)
        rw [ByteArray.toList_eq, List.isEmpty_iff]
        exact List.eq_nil_of_length_eq_zero (by rw [Array.length_toList]; exact this)
      have HZ2 := hid hz
      clear hr hz
      go_wp2
      go_ret
      exact ⟨ret_bool (by rw [HZ2.out]; rfl), hC.drewN _⟩
    · have he : r.toList.isEmpty = false := by
        rw [Bool.eq_false_iff]
        intro h
        rw [ByteArray.toList_eq, List.isEmpty_iff] at h
        refine hz (HZ.out.1 (hr.1 ?_))
        have := congrArg List.length h
        rw [Array.length_toList] at this
        exact this
      rw [Bool.not_eq_true] at hz
      have HZ2 := hid hz
      clear hr hz
      go_wp2
      go_ret
      exact ⟨ret_bool (by rw [HZ2.out]; rfl), hC.drewN _⟩
  · go_enter Tryd.func58, Tryd.ntmps58
    go_wp2
    go_ret
    exact ⟨rfl, hC⟩
end Go.Proofs.YtjabeabbaambcaaDoor
