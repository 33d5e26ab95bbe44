/- Tables of prefixes: the element's type, rows. -/
import Derived.Test.YtjabeabbaambcaaDoorTab
import Derived.Test.YtjabeabbaambcaaDoorBlkP
import Derived.Test.YtjabeabbaambcaaDoorCidr3
namespace Go.Proofs.YtjabeabbaambcaaDoor
open Go.RowKit

theorem pfx_infoZ : (Tryd.prog.info? 49).map (fun i => (i.zero, i.size, i.bytes)) = some (some (Value.agg #[.bool false, .int .u8 0, .int .u8 0, .int .u8 0, .int .u8 0, .int .u8 0, .int .u8 0, .int .u8 0, .int .u8 0, .int .u8 0, .int .u8 0, .int .u8 0, .int .u8 0, .int .u8 0, .int .u8 0, .int .u8 0, .int .u8 0, .int .i64 0]), 18, 32) := by kernel_rfl
theorem take_one {α : Type} {l : List α} {k : Nat} {x : α} (h : l[k]? = some x) : l.take (k + 1) = l.take k ++ [x] := by
  obtain ⟨hk, rfl⟩ := List.getElem?_eq_some_iff.1 h
  rw [List.take_succ_eq_append_getElem hk]
theorem blk_len18 : ∀ p ∈ blkT, (pfxC p).length = 18 := fun p hp => pfx_len (blk_good p hp).1
end Go.Proofs.YtjabeabbaambcaaDoor
