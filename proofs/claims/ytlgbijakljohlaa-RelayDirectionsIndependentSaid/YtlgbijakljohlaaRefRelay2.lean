/- What the reference's relay computes (printed by mk_refrelay2.py). -/
import Derived.Test.YtlgbijakljohlaaRefRelay
import Derived.Test.YtlgbijakljohlaaRelay
namespace Go.Proofs.Ytlgbijakljohlaa
open Go.RowKit

def PD.ok (c : Nat) (x : PD) : Prop := x.xs.length ≤ c ∧ c ≤ 4096 ∧ 0 ≤ x.cr ∧ x.cr ≤ 18446744073709551615
def PD.Y (c : Nat) (x : PD) : Value × Value × Value × Value × Value := (.int .i64 c, .string (strOfNums x.xs), .int .u64 x.cr, .bool x.cl, .bool x.dr)
/-- The reference's relay at block q: x towards the client, y towards the target. -/
structure refR (w : World) (q c : Nat) (x y : PD) : Prop where
  blk : Blk w q 39 [.int .i64 c, .string (strOfNums y.xs), .int .u64 y.cr, .bool y.cl, .bool y.dr, .int .i64 c, .string (strOfNums x.xs), .int .u64 x.cr, .bool x.cl, .bool x.dr]
  dn : x.ok c
  up : y.ok c
section
variable {w w' : World} {q c : Nat} {x y : PD}
theorem refR.ch {S : List Nat} (h : refR w q c x y) (hc : Ch S w w') (hp : q ∉ S) : refR w' q c x y := ⟨h.blk.ch hc hp, h.dn, h.up⟩
theorem refR.heap (h : refR w q c x y) (e : w'.heap = w.heap) : refR w' q c x y := ⟨h.blk.heap e, h.dn, h.up⟩
theorem refR.atU (h : refR w q c x y) : refUAt (x.Y c) w q c (strOfNums y.xs) y.cr y.cl y.dr := ⟨h.blk, by rw [strOf_size]; exact h.up.1, h.up.2.1, h.up.2.2.1, h.up.2.2.2⟩
theorem refR.atD (h : refR w q c x y) : refDAt (y.Y c) w q c (strOfNums x.xs) x.cr x.cl x.dr := ⟨h.blk, by rw [strOf_size]; exact h.dn.1, h.dn.2.1, h.dn.2.2.1, h.dn.2.2.2⟩
theorem refR.ofU {D : ByteArray} {xs : List Int} {cr : Int} {cl dr : Bool} (h : refUAt (x.Y c) w q c D cr cl dr) (hx : x.ok c) (e : D = strOfNums xs) : refR w q c x ⟨xs, cr, cl, dr⟩ := by
  subst e
  exact ⟨h.blk, hx, by have := h.len; rw [strOf_size] at this; exact this, h.max, h.lo, h.hi⟩
theorem refR.ofD {D : ByteArray} {xs : List Int} {cr : Int} {cl dr : Bool} (h : refDAt (y.Y c) w q c D cr cl dr) (hy : y.ok c) (e : D = strOfNums xs) : refR w q c ⟨xs, cr, cl, dr⟩ y := by
  subst e
  exact ⟨h.blk, by have := h.len; rw [strOf_size] at this; exact ⟨this, h.max, h.lo, h.hi⟩, hy⟩
end
theorem strOf_take (xs : List Int) (n : Nat) : (strOfNums xs).extract 0 n = strOfNums (xs.take n) := by rw [strOf_extract]; simp
theorem strOf_drop (xs : List Int) (n : Nat) : (strOfNums xs).extract n (strOfNums xs).size = strOfNums (xs.drop n) := by
  rw [strOf_extract, strOf_size, List.take_of_length_le (by simp)]
theorem strOf_takeNums (s : ByteArray) (n : Nat) : s.extract 0 n = strOfNums ((numsOf s).take n) := by
  conv => lhs; rw [← strOf_nums s]
  exact strOf_take _ _

theorem refRNew (n : Int) (c : Nat) (hn : n = c) (w : World) (h1 : c ≤ 4096) :
    Calls Try.prog 7 #[.int .i64 n] w fun e w' => e = .returned (.pointer (some ⟨w.heap.size, 0, none⟩)) ∧ refR w' w.heap.size c ⟨[], 0, false, false⟩ ⟨[], 0, false, false⟩ ∧ Ch [] w w' := by
  subst hn
  go_enter Try.func7, Try.ntmps7
  go_wp2
  go_ret
  exact ⟨rfl, ⟨Blk.new w _ _, ⟨Nat.zero_le _, h1, by decide, by decide⟩, ⟨Nat.zero_le _, h1, by decide, by decide⟩⟩, (Ch.refl _ _).alloc _⟩

section
variable (w : World) (q c : Nat) (x y : PD) (h : refR w q c x y)
include h
theorem rURead (s : ByteArray) (hs : strOfNums (y.xs.take y.n) = s) (e : Bool) (he : y.e = e) (y' : PD) (hx : y.rd = y') :
    Calls Try.prog 32 #[.pointer (some ⟨q, 0, none⟩)] w fun r w' => r = .returned (.tuple #[.string s, .bool e]) ∧ refR w' q c x y' ∧ Ch [q] w w' := by
  subst hs he hx
  refine (refUReadAs (x.Y c) w q c _ _ _ _ h.atU y.n (by rw [strOf_size]; rfl) y.e (by rw [strOf_size]; rfl)).mono ?_
  rintro r w' ⟨rfl, R, C⟩
  exact ⟨by rw [strOf_take], refR.ofU R h.dn (strOf_drop _ _), C⟩
theorem rUClose (e : Bool) (he : (!y.cl) = e) : Calls Try.prog 14 #[.pointer (some ⟨q, 0, none⟩)] w fun r w' => r = .returned (.bool e) ∧ refR w' q c x ⟨y.xs, y.cr, true, y.dr⟩ ∧ Ch [q] w w' := by
  refine (refUCloseAs (x.Y c) w q c _ _ _ _ h.atU e he).mono ?_
  rintro r w' ⟨rfl, R, C⟩
  exact ⟨rfl, refR.ofU R h.dn rfl, C⟩
theorem rUAdd (n : Int) (h0 : 0 ≤ n) (h1 : n ≤ 18446744073709551615) : Calls Try.prog 12 #[.pointer (some ⟨q, 0, none⟩), .int .u64 n] w fun r w' => r = .returned (.tuple #[]) ∧ refR w' q c x ⟨y.xs, addT y.cr n, y.cl, y.dr⟩ ∧ Ch [q] w w' := by
  refine (refUAddCredit (x.Y c) w q c _ _ _ _ h.atU n h0 h1).mono ?_
  rintro r w' ⟨rfl, R, C⟩
  exact ⟨rfl, refR.ofU R h.dn rfl, C⟩
theorem rUWrite (s : ByteArray) (hs : s.size ≤ 140737488351232) (n : Nat) (hn : (if y.cl then 0 else min s.size (c - y.xs.length)) = n) :
    Calls Try.prog 10 #[.pointer (some ⟨q, 0, none⟩), .string s] w fun r w' => r = .returned (.int .i64 n) ∧ refR w' q c x ⟨y.xs ++ (numsOf s).take n, y.cr, y.cl, y.dr⟩ ∧ Ch [q] w w' := by
  refine (refUWriteAny (x.Y c) w q c _ _ _ _ h.atU s hs n (by rw [strOf_size]; exact hn)).mono ?_
  rintro r w' ⟨rfl, R, C⟩
  exact ⟨rfl, refR.ofU R h.dn (by rw [strOf_takeNums, strOf_append]), C⟩
theorem rDRead (s : ByteArray) (hs : strOfNums (x.xs.take x.n) = s) (e : Bool) (he : x.e = e) (x' : PD) (hx : x.rd = x') :
    Calls Try.prog 32 #[.pointer (some ⟨q, 5, none⟩)] w fun r w' => r = .returned (.tuple #[.string s, .bool e]) ∧ refR w' q c x' y ∧ Ch [q] w w' := by
  subst hs he hx
  refine (refDReadAs (y.Y c) w q c _ _ _ _ h.atD x.n (by rw [strOf_size]; rfl) x.e (by rw [strOf_size]; rfl)).mono ?_
  rintro r w' ⟨rfl, R, C⟩
  exact ⟨by rw [strOf_take], refR.ofD R h.up (strOf_drop _ _), C⟩
theorem rDClose (e : Bool) (he : (!x.cl) = e) : Calls Try.prog 14 #[.pointer (some ⟨q, 5, none⟩)] w fun r w' => r = .returned (.bool e) ∧ refR w' q c ⟨x.xs, x.cr, true, x.dr⟩ y ∧ Ch [q] w w' := by
  refine (refDCloseAs (y.Y c) w q c _ _ _ _ h.atD e he).mono ?_
  rintro r w' ⟨rfl, R, C⟩
  exact ⟨rfl, refR.ofD R h.up rfl, C⟩
theorem rDAdd (n : Int) (h0 : 0 ≤ n) (h1 : n ≤ 18446744073709551615) : Calls Try.prog 12 #[.pointer (some ⟨q, 5, none⟩), .int .u64 n] w fun r w' => r = .returned (.tuple #[]) ∧ refR w' q c ⟨x.xs, addT x.cr n, x.cl, x.dr⟩ y ∧ Ch [q] w w' := by
  refine (refDAddCredit (y.Y c) w q c _ _ _ _ h.atD n h0 h1).mono ?_
  rintro r w' ⟨rfl, R, C⟩
  exact ⟨rfl, refR.ofD R h.up rfl, C⟩
theorem rDWrite (s : ByteArray) (hs : s.size ≤ 140737488351232) (n : Nat) (hn : (if x.cl then 0 else min s.size (c - x.xs.length)) = n) :
    Calls Try.prog 10 #[.pointer (some ⟨q, 5, none⟩), .string s] w fun r w' => r = .returned (.int .i64 n) ∧ refR w' q c ⟨x.xs ++ (numsOf s).take n, x.cr, x.cl, x.dr⟩ y ∧ Ch [q] w w' := by
  refine (refDWriteAny (y.Y c) w q c _ _ _ _ h.atD s hs n (by rw [strOf_size]; exact hn)).mono ?_
  rintro r w' ⟨rfl, R, C⟩
  exact ⟨rfl, refR.ofD R h.up (by rw [strOf_takeNums, strOf_append]), C⟩
theorem refRDrained (both : Bool) (r : Bool) (hr : (x.dr && (!both || y.dr)) = r) : Calls Try.prog 20 #[.pointer (some ⟨q, 0, none⟩), .bool both] w fun e w' => e = .returned (.bool r) ∧ w = w' := by
  have c4 : w.cell? ⟨q, 4, none⟩ = some (.bool y.dr) := h.blk.cell 4
  have c9 : w.cell? ⟨q, 9, none⟩ = some (.bool x.dr) := h.blk.cell 9
  have hq := h.blk.lt
  clear h
  subst hr
  obtain ⟨xs, cr, cl, dr⟩ := x
  obtain ⟨ys, cs, cm, ds⟩ := y
  cases both <;> cases dr <;> cases ds
  all_goals
    go_enter Try.func20, Try.ntmps20
    go_wp2
    go_ret
    exact ⟨rfl, rfl⟩
end
end Go.Proofs.Ytlgbijakljohlaa
