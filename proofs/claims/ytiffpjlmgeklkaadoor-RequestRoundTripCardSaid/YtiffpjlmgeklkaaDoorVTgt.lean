/- ginnelref07.ValidTarget at a generated target. -/
import Derived.Test.YtiffpjlmgeklkaaDoorGenN
import Derived.Test.YtiffpjlmgeklkaaDoorRefNm
import Derived.Test.YtiffpjlmgeklkaaDoorTgtEq
namespace Go.Proofs.YtiffpjlmgeklkaaDoor
open Go.RowKit

set_option maxRecDepth 100000 in
set_option maxHeartbeats 4000000 in
theorem addr_same0 (six : Bool) (b0 b1 b2 b3 b4 b5 b6 b7 b8 b9 b10 b11 b12 b13 b14 b15 : Int) (w : World) :
    (Op.equalIn 10000 24 (.agg #[.bool six, .int .u8 b0, .int .u8 b1, .int .u8 b2, .int .u8 b3, .int .u8 b4, .int .u8 b5, .int .u8 b6, .int .u8 b7, .int .u8 b8, .int .u8 b9, .int .u8 b10, .int .u8 b11, .int .u8 b12, .int .u8 b13, .int .u8 b14, .int .u8 b15]) (.agg #[.bool six, .int .u8 b0, .int .u8 b1, .int .u8 b2, .int .u8 b3, .int .u8 b4, .int .u8 b5, .int .u8 b6, .int .u8 b7, .int .u8 b8, .int .u8 b9, .int .u8 b10, .int .u8 b11, .int .u8 b12, .int .u8 b13, .int .u8 b14, .int .u8 b15])).run Tryd.prog w = .ok true w := by
  go_simp
  obtain ⟨i, hi, hc⟩ : ∃ i, Tryd.prog.info? 5 = some i ∧ Tryd.prog.cellsOf 5 = 1 := ⟨_, rfl, by kernel_rfl⟩
  rw [run_equalIn_array _ _ _ _ Tryd.underlying22 hi, hc]
  simp only [show List.range 16 = [0, 1, 2, 3, 4, 5, 6, 7, 8, 9, 10, 11, 12, 13, 14, 15] from rfl, Op.eqItems]
  go_simp
theorem addr_zero (w : World) : (Op.equalIn 10000 24 (.agg (addrC false zeros).toArray) (.agg #[.bool false, .int .u8 0, .int .u8 0, .int .u8 0, .int .u8 0, .int .u8 0, .int .u8 0, .int .u8 0, .int .u8 0, .int .u8 0, .int .u8 0, .int .u8 0, .int .u8 0, .int .u8 0, .int .u8 0, .int .u8 0, .int .u8 0])).run Tryd.prog w = .ok true w := addr_same0 false 0 0 0 0 0 0 0 0 0 0 0 0 0 0 0 0 w
theorem emp2 {s : ByteArray} (h : s.size = 0) : s = ⟨#[]⟩ := str_ext (List.eq_nil_of_length_eq_zero (by rw [Array.length_toList]; exact h))

set_option maxRecDepth 100000 in
set_option maxHeartbeats 4000000 in
theorem validT (t : Tgt) (hg : GoodT t) (hok : okT t = true) (hp1 : 1 ≤ t.2.2.2) (hn : t.1.size = 0 ∨ Nm t.1 ∧ t.2.1 = false ∧ t.2.2.1 = zeros) (w : World) :
    Calls Tryd.prog 27 #[.agg (tgtC t).toArray] w fun e w' => e = .returned (.bool true) ∧ Ch [] w w' := by
  obtain ⟨name, six, bs, port⟩ := t
  have hl : bs.length = 16 := hg.1
  have hp1 : 1 ≤ port := hp1
  simp only [okT, Bool.and_eq_true, decide_eq_true_eq] at hok
  obtain ⟨⟨⟨hsz, hva⟩, _⟩, hp2⟩ := hok
  show Calls Tryd.prog _ #[.agg (targC name six bs port).toArray] w _
  have hC : Ch [] w (w.alloc (.cells (targC name six bs port).toArray 26)) := (Ch.refl _ _).alloc _
  have hB : Blk (w.alloc (.cells (targC name six bs port).toArray 26)) w.heap.size 26 (targC name six bs port) := Blk.new w _ _
  have b18 : (targC name six bs port)[18]? = some (.int .i64 port) := by
    unfold targC addrC
    simp [hl]
  have c0 : (w.alloc (.cells (targC name six bs port).toArray 26)).cell? ⟨w.heap.size, 0, none⟩ = some (.string name) := hB.cell 0
  have c18 : (w.alloc (.cells (targC name six bs port).toArray 26)).cell? ⟨w.heap.size, 18, none⟩ = some (.int .i64 port) := (hB.cell 18).trans b18
  have hldB : ∀ w', Blk w' w.heap.size 26 (targC name six bs port) → w'.rangeAt w.heap.size 1 (addrC six bs) := fun w' hB' j v hj => by
    rw [hB'.cell, Nat.add_comm 1 j]
    unfold targC
    rw [List.getElem?_cons_succ, List.getElem?_append_left (List.getElem?_eq_some_iff.1 hj).1]
    exact hj
  have hli : (Tryd.prog.info? 24).map (·.size) = some (addrC six bs).length := by
    rw [show (addrC six bs).length = 17 by unfold addrC; rw [List.length_cons, List.length_map, hl]]; kernel_rfl
  have HLD := hid hldB
  have HLI := hid hli
  generalize hvs : targC name six bs port = cs at hB hC c0 HLD b18 c18 ⊢
  clear hvs hldB hli
  rcases hn with h0 | ⟨hnm, h1, h2⟩
  · obtain rfl : name = ⟨#[]⟩ := emp2 h0
    clear h0 hsz
    go_enter Tryd.func27, Tryd.ntmps27
    go_wp2_with (first
      | (refine wpList_load_want rfl 24 _ rfl w.heap.size 1 rfl (addrC six bs) _ (HLD.out _ hB) Tryd.underlying24 rfl HLI.out ?_)
      | (go_at_call 29; (with_reducible refine (refValid six bs hl _).mono ?_); rw [hva]; rintro e w2 ⟨rfl, C2⟩))
    go_ret
    exact ⟨rfl, hC.trans C2⟩
  · have hs1 : 1 ≤ name.size := hnm.1.1
    have hs2 : name.size ≤ 13 := hnm.1.2
    have hne : name.toList.isEmpty = false := notEmp (by omega)
    have hv := refName name (by omega)
    rw [show namOk (numsOf name) = true from hnm.2.1] at hv
    have HV := hid hv
    clear hv hsz
    obtain rfl : six = false := h1
    obtain rfl : bs = zeros := h2
    go_enter Tryd.func27, Tryd.ntmps27
    have AZ := addr_zero
    go_wp2_with (first
      | (refine wpList_load_want rfl 24 _ rfl w.heap.size 1 rfl (addrC false zeros) _ (HLD.out _ B2) Tryd.underlying24 rfl HLI.out ?_)
      | (go_at_call 37; (with_reducible refine (HV.out _).mono ?_); rintro e w2 ⟨rfl, C2⟩; have B2 := hB.ch C2 (by simp)))
    go_ret
    exact ⟨rfl, hC.trans C2⟩
end Go.Proofs.YtiffpjlmgeklkaaDoor
