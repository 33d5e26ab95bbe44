/- Two targets of the same cells are equal. -/
import Derived.Test.YtiffpjlmgeklkaaDoorTgtP
import Derived.ChangeKeysEq
namespace Go.Proofs.YtiffpjlmgeklkaaDoor
open Go.RowKit
set_option maxRecDepth 100000 in
set_option maxHeartbeats 4000000 in
theorem tgt_same0 (name : ByteArray) (six : Bool) (b0 b1 b2 b3 b4 b5 b6 b7 b8 b9 b10 b11 b12 b13 b14 b15 port : Int) (w : World) :
    (Op.equalIn 10000 26 (.agg #[.string name, .bool six, .int .u8 b0, .int .u8 b1, .int .u8 b2, .int .u8 b3, .int .u8 b4, .int .u8 b5, .int .u8 b6, .int .u8 b7, .int .u8 b8, .int .u8 b9, .int .u8 b10, .int .u8 b11, .int .u8 b12, .int .u8 b13, .int .u8 b14, .int .u8 b15, .int .i64 port]) (.agg #[.string name, .bool six, .int .u8 b0, .int .u8 b1, .int .u8 b2, .int .u8 b3, .int .u8 b4, .int .u8 b5, .int .u8 b6, .int .u8 b7, .int .u8 b8, .int .u8 b9, .int .u8 b10, .int .u8 b11, .int .u8 b12, .int .u8 b13, .int .u8 b14, .int .u8 b15, .int .i64 port])).run Tryd.prog w = .ok true w := by
  go_simp
  obtain ⟨i, hi, hc⟩ : ∃ i, Tryd.prog.info? 5 = some i ∧ Tryd.prog.cellsOf 5 = 1 := ⟨_, rfl, by kernel_rfl⟩
  rw [run_equalIn_array _ _ _ _ Tryd.underlying22 hi, hc]
  simp only [show List.range 16 = [0, 1, 2, 3, 4, 5, 6, 7, 8, 9, 10, 11, 12, 13, 14, 15] from rfl, Op.eqItems]
  go_simp
  trace_state
theorem len16 {l : List Int} (h : l.length = 16) : ∃ b0 b1 b2 b3 b4 b5 b6 b7 b8 b9 b10 b11 b12 b13 b14 b15, l = [b0, b1, b2, b3, b4, b5, b6, b7, b8, b9, b10, b11, b12, b13, b14, b15] := by
  match l, h with
  | [b0, b1, b2, b3, b4, b5, b6, b7, b8, b9, b10, b11, b12, b13, b14, b15], _ => exact ⟨b0, b1, b2, b3, b4, b5, b6, b7, b8, b9, b10, b11, b12, b13, b14, b15, rfl⟩
theorem tgt_same (t : Tgt) (h : t.2.2.1.length = 16) (w : World) : (Op.equalIn 10000 26 (.agg (tgtC t).toArray) (.agg (tgtC t).toArray)).run Tryd.prog w = .ok true w := by
  obtain ⟨name, six, bs, port⟩ := t
  obtain ⟨b0, b1, b2, b3, b4, b5, b6, b7, b8, b9, b10, b11, b12, b13, b14, b15, rfl⟩ := len16 h
  exact tgt_same0 name six b0 b1 b2 b3 b4 b5 b6 b7 b8 b9 b10 b11 b12 b13 b14 b15 port w
end Go.Proofs.YtiffpjlmgeklkaaDoor
