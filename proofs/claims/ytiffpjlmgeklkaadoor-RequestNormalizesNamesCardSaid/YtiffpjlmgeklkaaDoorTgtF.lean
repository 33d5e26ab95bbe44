/- ginnelref15.EncodeTarget at every target (printed by mk_tgtf.py). -/
import Derived.Test.YtiffpjlmgeklkaaDoorTgtE
import Derived.Test.YtiffpjlmgeklkaaDoorRefReply
import Derived.Lib.AppendStr
import Derived.Lib.SmallJoins
namespace Go.Proofs.YtiffpjlmgeklkaaDoor
open Go.RowKit

theorem wpList_appStr {P : Program} {ops : Array Oper} {rest : List Oper} {o : Oper} {a : Act} {w : World} {Q : Exit → Act → World → Prop} (hgd : o.guard = none) (s x : Operand) (t u : TypeId)
    (ho : o.op = .call { callee := .builtin .append, args := #[s, x], argTypes := #[t, u] })
    (B : Nat) (e : TypeId) (ht : P.underlying t = some (.slice e)) (hu : P.underlying u = some .string) (hinfo : (P.info? e).map (fun i => (i.zero, i.size, i.bytes)) = some (some (.int .u8 0), 1, 1))
    (A : Option Addr) (n c : Nat) (xs : List Value) (hs : a.eval s = .slice A n c) (hown : Own w B e 1 A n c xs) (st : ByteArray) (hx : a.eval x = .string st)
    (h63 : n + st.size ≤ maxLen) (hbytes : n + st.size ≤ 140737488355328) (hbase : B ≤ w.heap.size)
    (h : ∀ A2 c2 w', Own w' B e 1 A2 (n + st.size) c2 (xs ++ (numsOf st).map (Value.int .u8)) → Ch (blkOf A) w w' → wpList P ops Q rest (a.put o.dst (.slice A2 (n + st.size) c2)) w') :
    wpList P ops Q (o :: rest) a w := by
  cases hi : P.info? e with
  | none => rw [hi] at hinfo; cases hinfo
  | some i =>
    rw [hi] at hinfo
    simp only [Option.map_some, Option.some.injEq, Prod.mk.injEq] at hinfo
    obtain ⟨z1, z2, z3⟩ := hinfo
    refine Lib.wpList_append_own_string w hgd s x t u ho B e i ht hu hi z1 z2 z3 (.slice A n c) n xs hs hown st hx h63 hbytes hbase ?_
    intro v' w' h2 h3 _
    have e1 : Lib.strCells st = (numsOf st).map (Value.int .u8) := by unfold Lib.strCells numsOf; rw [List.map_map]; rfl
    rw [e1] at h2
    have hC : Ch (blkOf A) w w' := by
      have := Ch.grown h3
      cases A with
      | none => simpa [Value.ownBlock, blkOf] using this
      | some a1 => simpa [Value.ownBlock, blkOf] using this
    rcases Go.Joins.ownsRow_forms h2 with ⟨rfl, h0⟩ | ⟨g, cap, rfl⟩
    · have := h none 0 w'
      rw [h0] at this h2
      exact this h2 hC
    · exact h (some ⟨g, 0, none⟩) cap w' h2 hC

set_option maxRecDepth 100000 in
set_option maxHeartbeats 2000000 in
theorem refEncT6 (bs : List Int) (port : Int) (hl : bs.length = 16) (hp : 0 ≤ port ∧ port < 65536) (w : World) :
    Calls Tryd.prog 12 #[.agg (targC ⟨#[]⟩ true bs port).toArray] w fun e w' => e = .returned (.tuple #[.string (strOfNums (4 :: (bs ++ [port / 256, port % 256]))), .bool true]) ∧ Ch [] w w' := by
  obtain ⟨p0, p1⟩ := hp
  have hB : Blk (w.alloc (.cells (targC ⟨#[]⟩ true bs port).toArray 26)) w.heap.size 26 (targC ⟨#[]⟩ true bs port) := Blk.new w _ _
  have hC : Ch [] w (w.alloc (.cells (targC ⟨#[]⟩ true bs port).toArray 26)) := (Ch.refl _ _).alloc _
  have c0 : (w.alloc (.cells (targC ⟨#[]⟩ true bs port).toArray 26)).cell? ⟨w.heap.size, 0, none⟩ = some (.string ⟨#[]⟩) := hB.cell 0
  have c1 : (w.alloc (.cells (targC ⟨#[]⟩ true bs port).toArray 26)).cell? ⟨w.heap.size, 1, none⟩ = some (.bool true) := hB.cell 1
  have b18 : (targC ⟨#[]⟩ true bs port)[18]? = some (.int .i64 port) := by
    unfold targC addrC
    simp [hl]
  have c18 : (w.alloc (.cells (targC ⟨#[]⟩ true bs port).toArray 26)).cell? ⟨w.heap.size, 18, none⟩ = some (.int .i64 port) := by
    rw [hB.cell]; exact b18
  have hld : (w.alloc (.cells (targC ⟨#[]⟩ true bs port).toArray 26)).rangeAt w.heap.size 1 (addrC true bs) := fun j v hj => by
    rw [hB.cell, Nat.add_comm 1 j]
    unfold targC
    rw [List.getElem?_cons_succ, List.getElem?_append_left (List.getElem?_eq_some_iff.1 hj).1]
    exact hj
  have hli : (Tryd.prog.info? 24).map (·.size) = some (addrC true bs).length := by
    rw [show (addrC true bs).length = 17 by unfold addrC; rw [List.length_cons, List.length_map, hl]]; kernel_rfl
  have HLD := hid hld
  have HLI := hid hli
  have hby := fun i h => targ_byte (name := ⟨#[]⟩) (six := true) (bs := bs) (port := port) i h
  generalize hvs : targC ⟨#[]⟩ true bs port = cs at hB hC c0 c1 c18 HLD hby b18 ⊢
  clear hvs hld hli
  have HV : Hid (validA true bs = true) := by rfl
  go_enter Tryd.func12, Tryd.ntmps12
  go_wp2_with (first
    | (refine wpList_load_want rfl 24 _ rfl w.heap.size 1 rfl (addrC true bs) _ HLD.out Tryd.underlying24 rfl HLI.out ?_)
    | (go_at_call 29; (with_reducible refine (refValid true bs hl _).mono ?_); rw [HV.out]; rintro e w2 ⟨rfl, C2⟩; have B2 := hB.ch C2 (by simp); have d0 : w2.cell? ⟨w.heap.size, 0, none⟩ = some (.string ⟨#[]⟩) := (C2.cell (p := ⟨w.heap.size, 0, none⟩) hB.lt (by simp)).trans c0; have d1 : w2.cell? ⟨w.heap.size, 1, none⟩ = some (.bool true) := (C2.cell (p := ⟨w.heap.size, 1, none⟩) hB.lt (by simp)).trans c1; have d18 : w2.cell? ⟨w.heap.size, 18, none⟩ = some (.int .i64 port) := (C2.cell (p := ⟨w.heap.size, 18, none⟩) hB.lt (by simp)).trans c18))
  have hlt2 := B2.lt
  have hR : ∀ w', Ch [] w2 w' → RdI .u8 w' (w.heap.size + 1) (some ⟨w.heap.size, 2, none⟩) 16 (bs) := fun w' C => blk_ints (B2.ch C (by simp)) 2 16 _ hl (fun i hi => hby i (by omega))
  have HR := hid hR
  clear hR
  refine wp_region_stagesM [⟨0, 16, 1125899906842624⟩, ⟨0, 0, 2251799813685248⟩, ⟨3, 3377699720527872, 4503599627370496⟩, ⟨0, 2, 9007199254740992⟩, ⟨8, 9007199254740992, 18014398509481984⟩, ⟨16, 18014398509481984, 36028797018963968⟩, ⟨36, 40532396646334464, 72057594037927936⟩, ⟨127, 72057594037927936, 16⟩] [([0, 3, 4, 5], 1, [0, 3, 4, 5]), ([], 2, [3, 4, 5]), ([], 6, [])] [7] (by kernel_rfl) (by kernel_rfl) ?_
  refine wpStages_step ?_
  simp only [pick, List.map_cons, List.map_nil, List.getD_cons_zero, List.getD_cons_succ]
  repeat (go_big_quiet_step (fail))
  refine wpQuiet_nil ?_
  intro n0
  simp only [pick, List.map_cons, List.map_nil, List.getD_cons_zero, List.getD_cons_succ]
  go_wp2
  have C3 : Ch [] w2 ((w2.drewN n0).alloc (.cells #[.int .u8 4] 5)) := ((Ch.refl _ _).drewN _).alloc _
  have hrA : RdI .u8 ((w2.drewN n0).alloc (.cells #[.int .u8 4] 5)) (w2.heap.size + 1) (some ⟨w2.heap.size, 0, none⟩) 1 [4] := blk_ints (Blk.new (w2.drewN n0) 5 [.int .u8 4]) 0 1 [4] rfl (fun i hi => by
    obtain rfl : i = 0 := by simpa using hi
    rfl)
  refine stagePost_mk ?_ ?_
  · intro o ho
    simp only [pick, List.map_cons, List.map_nil, List.getD_cons_zero, List.getD_cons_succ, List.mem_cons, List.not_mem_nil, or_false] at ho
    rcases ho with rfl | rfl | rfl | rfl
    all_goals
      refine float_any ?_
      repeat (go_big_quiet_step (fail))
      refine wpQuiet_nil ?_
      rfl
  refine wpStages_step ?_
  simp only [pick, List.map_nil]
  refine wpQuiet_nil ?_
  intro n1
  simp only [pick, List.map_cons, List.map_nil, List.getD_cons_zero, List.getD_cons_succ]
  go_wp2_with (at_builtin; go_must (refine wpList_app _ rfl (.tmp 50) (.tmp 51) _ rfl w2.heap.size 5 _ 1 1 Tryd.underlying34 u8_info rfl (by omega) _ _ _ _ rfl (Own.nil _ _ _ _) _ _ _ _ _ rfl ((hrA.heap rfl).rd) (ints_cell _ _) (by unfold maxLen; omega) (by omega) (by simp <;> omega) ?_; intro A3 c3 w3 own3 ch3 at3))
  simp only [Nat.zero_add, List.nil_append] at own3
  have C4 : Ch [] w2 w3 := (C3.drewN n1).step ch3 (by simp [blkOf])
  have hz3 := C4.size
  have hR3 := HR.out w3 C4
  refine stagePost_mk ?_ ?_
  · intro o ho
    simp only [pick, List.map_cons, List.map_nil, List.getD_cons_zero, List.getD_cons_succ, List.mem_cons, List.not_mem_nil, or_false] at ho
    rcases ho with rfl | rfl | rfl
    all_goals
      refine float_any ?_
      repeat (go_big_quiet_step (fail))
      refine wpQuiet_nil ?_
      rfl
  refine wpStages_step ?_
  simp only [pick, List.map_nil]
  refine wpQuiet_nil ?_
  intro n2
  simp only [pick, List.map_cons, List.map_nil, List.getD_cons_zero, List.getD_cons_succ]
  go_wp2_with (at_builtin; go_must (refine wpList_app _ rfl (.tmp 52) (.tmp 55) _ rfl w2.heap.size 5 _ 1 1 Tryd.underlying34 u8_info rfl (by omega) _ _ _ _ rfl (own3.drewN n2) _ _ _ _ _ rfl ((hR3.heap rfl).rd) (ints_cell _ _) (by unfold maxLen; omega) (by omega) (by simp <;> omega) ?_; intro A4 c4 w4 own4 ch4 at4))
  have C5 : Ch [] w2 w4 := (C4.drewN n2).step ch4 (fun b hb4 => .inr (own3.blks b hb4).1)
  have hz4 := C5.size
  have d18' : w4.cell? ⟨w.heap.size, 18, none⟩ = some (.int .i64 port) := (C5.cell (p := ⟨w.heap.size, 18, none⟩) hlt2 (by simp)).trans d18
  have HRB : Hid (∀ n, RdI .u8 ((w4.drewN n).alloc (.cells #[.int .u8 (port / 256), .int .u8 (port % 256)] 5)) (w4.heap.size + 1) (some ⟨w4.heap.size, 0, none⟩) 2 [port / 256, port % 256]) := fun n => blk_ints (Blk.new (w4.drewN n) 5 [.int .u8 (port / 256), .int .u8 (port % 256)]) 0 2 _ rfl (fun i hi => by
    rcases (show i = 0 ∨ i = 1 by simp at hi; omega) with rfl | rfl <;> rfl)
  refine stagePost_mk (by simp [pick]) ?_
  refine wpStages_last ?_
  simp only [pick, List.map_cons, List.map_nil, List.getD_cons_zero, List.getD_cons_succ]
  repeat (go_big_quiet_step (fail))
  refine wpQuiet_nil ?_
  intro n3
  go_wp2_with (first
    | (at_builtin; go_must (refine wpList_app _ rfl (.tmp 57) (.tmp 65) _ rfl w2.heap.size 5 _ 1 1 Tryd.underlying34 u8_info rfl (by omega) _ _ _ _ rfl ((own4.drewN n3).alloc _) _ _ _ _ _ rfl ((HRB.out n3).rd) (ints_cell _ _) (by unfold maxLen; omega) (by omega) (by simp <;> omega) ?_; intro A5 c5 w5 own5 ch5 at5; have hR5 : RdI .u8 w5 w5.heap.size A5 _ ([4] ++ bs ++ [port / 256, port % 256]) := Rd.ints (by simpa using own5.rd)))
    | (refine wpList_strOf rfl _ _ _ _ rfl Tryd.underlying34 Tryd.underlying5 Tryd.underlying9 _ _ _ w5.heap.size ([4] ++ bs ++ [port / 256, port % 256]) rfl hR5 ?_))
  go_ret2
  exact ⟨rfl, hC.trans (C2.trans (((C5.drewN n3).alloc _).step ch5 (fun b hb5 => .inr (own4.blks b hb5).1)))⟩
set_option maxRecDepth 100000 in
set_option maxHeartbeats 4000000 in
theorem refEncF (name : ByteArray) (six : Bool) (bs : List Int) (port : Int) (hl : bs.length = 16) (hns : name.size ≤ 1000000000000000) (hno : okT (name, six, bs, port) = false) (w : World) : Calls Tryd.prog 12 #[.agg (targC name six bs port).toArray] w fun e w' => e = .returned (encV none) ∧ Ch [] w w' := by
  have hC : Ch [] w (w.alloc (.cells (targC name six bs port).toArray 26)) := (Ch.refl _ _).alloc _
  have hB : Blk (w.alloc (.cells (targC name six bs port).toArray 26)) w.heap.size 26 (targC name six bs port) := Blk.new w _ _
  have c0 : (w.alloc (.cells (targC name six bs port).toArray 26)).cell? ⟨w.heap.size, 0, none⟩ = some (.string name) := hB.cell 0
  have b0 : (targC name six bs port)[0]? = some (.string name) := rfl
  have b18 : (targC name six bs port)[18]? = some (.int .i64 port) := by
    unfold targC addrC
    simp [hl]
  have hld : (w.alloc (.cells (targC name six bs port).toArray 26)).rangeAt w.heap.size 1 (addrC six bs) := fun j v hj => by
    rw [hB.cell, Nat.add_comm 1 j]
    unfold targC
    rw [List.getElem?_cons_succ, List.getElem?_append_left (List.getElem?_eq_some_iff.1 hj).1]
    exact hj
  have hli : (Tryd.prog.info? 24).map (·.size) = some (addrC six bs).length := by
    rw [show (addrC six bs).length = 17 by unfold addrC; rw [List.length_cons, List.length_map, hl]]; kernel_rfl
  have HLD := hid hld
  have HLI := hid hli
  generalize hvs : targC name six bs port = cs at hB hC c0 HLD b18 b0 ⊢
  clear hvs hld hli
  by_cases h1 : name.size ≤ 255
  case neg =>
    have h1' : (255 : Int) < name.size := by omega
    clear hno
    go_enter Tryd.func12, Tryd.ntmps12
    go_wp2_with fail
    go_ret2
    exact ⟨rfl, hC⟩
  have h1' : ¬ (255 : Int) < name.size := by omega
  cases hva : validA six bs with
  | false =>
    have HV := hid hva
    clear hno
    go_enter Tryd.func12, Tryd.ntmps12
    go_wp2_with (first
      | (refine wpList_load_want rfl 24 _ rfl w.heap.size 1 rfl (addrC six bs) _ HLD.out Tryd.underlying24 rfl HLI.out ?_)
      | (go_at_call 29; (with_reducible refine (refValid six bs hl _).mono ?_); rw [HV.out]; rintro e w2 ⟨rfl, C2⟩; have B2 := hB.ch C2 (by simp); have d0 : w2.cell? ⟨w.heap.size, 0, none⟩ = some (.string name) := (C2.cell (p := ⟨w.heap.size, 0, none⟩) hB.lt (by simp)).trans c0; have d18 : w2.cell? ⟨w.heap.size, 18, none⟩ = some (.int .i64 port) := (B2.cell 18).trans b18))
    go_ret2
    exact ⟨rfl, hC.trans C2⟩
  | true =>
    have HV := hid hva
    by_cases hp : port < 0
    case pos =>
      clear hno
      go_enter Tryd.func12, Tryd.ntmps12
      go_wp2_with (first
        | (refine wpList_load_want rfl 24 _ rfl w.heap.size 1 rfl (addrC six bs) _ HLD.out Tryd.underlying24 rfl HLI.out ?_)
        | (go_at_call 29; (with_reducible refine (refValid six bs hl _).mono ?_); rw [HV.out]; rintro e w2 ⟨rfl, C2⟩; have B2 := hB.ch C2 (by simp); have d0 : w2.cell? ⟨w.heap.size, 0, none⟩ = some (.string name) := (C2.cell (p := ⟨w.heap.size, 0, none⟩) hB.lt (by simp)).trans c0; have d18 : w2.cell? ⟨w.heap.size, 18, none⟩ = some (.int .i64 port) := (B2.cell 18).trans b18))
      go_ret2
      exact ⟨rfl, hC.trans C2⟩
    have hp2 : 65536 ≤ port := by
      rcases Int.lt_or_le port 65536 with h | h
      · have : okT (name, six, bs, port) = true := by
          simp only [okT, Bool.and_eq_true, decide_eq_true_eq]
          exact ⟨⟨⟨h1, hva⟩, by omega⟩, by omega⟩
        rw [this] at hno; cases hno
      · exact h
    clear hno
    go_enter Tryd.func12, Tryd.ntmps12
    go_wp2_with (first
      | (refine wpList_load_want rfl 24 _ rfl w.heap.size 1 rfl (addrC six bs) _ HLD.out Tryd.underlying24 rfl HLI.out ?_)
      | (go_at_call 29; (with_reducible refine (refValid six bs hl _).mono ?_); rw [HV.out]; rintro e w2 ⟨rfl, C2⟩; have B2 := hB.ch C2 (by simp); have d0 : w2.cell? ⟨w.heap.size, 0, none⟩ = some (.string name) := (C2.cell (p := ⟨w.heap.size, 0, none⟩) hB.lt (by simp)).trans c0; have d18 : w2.cell? ⟨w.heap.size, 18, none⟩ = some (.int .i64 port) := (B2.cell 18).trans b18))
    go_ret2
    exact ⟨rfl, hC.trans C2⟩

set_option maxRecDepth 100000 in
set_option maxHeartbeats 4000000 in
theorem refEncTN (name : ByteArray) (six : Bool) (bs : List Int) (port : Int) (hl : bs.length = 16) (h0 : 0 < name.size) (h1 : name.size ≤ 255) (hva : validA six bs = true) (hp : 0 ≤ port ∧ port < 65536) (w : World) : Calls Tryd.prog 12 #[.agg (targC name six bs port).toArray] w fun e w' => e = .returned (.tuple #[.string (strOfNums (3 :: (name.size : Int) :: (numsOf name ++ [port / 256, port % 256]))), .bool true]) ∧ Ch [] w w' := by
  have hC : Ch [] w (w.alloc (.cells (targC name six bs port).toArray 26)) := (Ch.refl _ _).alloc _
  have hB : Blk (w.alloc (.cells (targC name six bs port).toArray 26)) w.heap.size 26 (targC name six bs port) := Blk.new w _ _
  have c0 : (w.alloc (.cells (targC name six bs port).toArray 26)).cell? ⟨w.heap.size, 0, none⟩ = some (.string name) := hB.cell 0
  have b0 : (targC name six bs port)[0]? = some (.string name) := rfl
  have b18 : (targC name six bs port)[18]? = some (.int .i64 port) := by
    unfold targC addrC
    simp [hl]
  have hld : (w.alloc (.cells (targC name six bs port).toArray 26)).rangeAt w.heap.size 1 (addrC six bs) := fun j v hj => by
    rw [hB.cell, Nat.add_comm 1 j]
    unfold targC
    rw [List.getElem?_cons_succ, List.getElem?_append_left (List.getElem?_eq_some_iff.1 hj).1]
    exact hj
  have hli : (Tryd.prog.info? 24).map (·.size) = some (addrC six bs).length := by
    rw [show (addrC six bs).length = 17 by unfold addrC; rw [List.length_cons, List.length_map, hl]]; kernel_rfl
  have HLD := hid hld
  have HLI := hid hli
  generalize hvs : targC name six bs port = cs at hB hC c0 HLD b18 b0 ⊢
  clear hvs hld hli
  obtain ⟨p0, p1⟩ := hp
  have h1' : ¬ (255 : Int) < name.size := by omega
  have i0 := notEmp h0
  have HV := hid hva
  clear hva
  go_enter Tryd.func12, Tryd.ntmps12
  go_wp2_with (first
    | (refine wpList_load_want rfl 24 _ rfl w.heap.size 1 rfl (addrC six bs) _ HLD.out Tryd.underlying24 rfl HLI.out ?_)
    | (go_at_call 29; (with_reducible refine (refValid six bs hl _).mono ?_); rw [HV.out]; rintro e w2 ⟨rfl, C2⟩; have B2 := hB.ch C2 (by simp); have d0 : w2.cell? ⟨w.heap.size, 0, none⟩ = some (.string name) := (C2.cell (p := ⟨w.heap.size, 0, none⟩) hB.lt (by simp)).trans c0; have d18 : w2.cell? ⟨w.heap.size, 18, none⟩ = some (.int .i64 port) := (B2.cell 18).trans b18))
  have lt2 := B2.lt
  refine wp_region_stagesM [⟨0, 16, 68719476736⟩, ⟨0, 2, 137438953472⟩, ⟨2, 137438953472, 274877906944⟩, ⟨4, 274877906944, 549755813888⟩, ⟨8, 549755813888, 1099511627776⟩, ⟨16, 1099511627776, 2199023255552⟩, ⟨33, 2267742732288, 4398046511104⟩, ⟨0, 2, 8796093022208⟩, ⟨128, 8796093022208, 17592186044416⟩, ⟨320, 21990232555520, 35184372088832⟩, ⟨1023, 35184372088832, 16⟩] [([0, 1, 2, 3, 4, 7, 8], 5, [0, 7, 8]), ([], 6, [7, 8]), ([], 9, [])] [10] (by kernel_rfl) (by kernel_rfl) ?_
  refine wpStages_step ?_
  simp only [pick, List.map_cons, List.map_nil, List.getD_cons_zero, List.getD_cons_succ]
  repeat (go_big_quiet_step (fail))
  refine wpQuiet_nil ?_
  intro n0
  simp only [pick, List.map_cons, List.map_nil, List.getD_cons_zero, List.getD_cons_succ]
  go_wp2
  have C3 : Ch [] w2 ((w2.drewN n0).alloc (.cells #[.int .u8 3, .int .u8 (name.size : Int)] 5)) := ((Ch.refl _ _).drewN _).alloc _
  have hrA : RdI .u8 ((w2.drewN n0).alloc (.cells #[.int .u8 3, .int .u8 (name.size : Int)] 5)) (w2.heap.size + 1) (some ⟨w2.heap.size, 0, none⟩) 2 [3, (name.size : Int)] := two_rdAt _ _ _ _ _ rfl
  have d0a : ((w2.drewN n0).alloc (.cells #[.int .u8 3, .int .u8 (name.size : Int)] 5)).cell? ⟨w.heap.size, 0, none⟩ = some (.string name) := (((B2.drewN n0).alloc _).cell 0).trans b0
  refine stagePost_mk ?_ ?_
  · intro o ho
    simp only [pick, List.map_cons, List.map_nil, List.getD_cons_zero, List.getD_cons_succ, List.mem_cons, List.not_mem_nil, or_false] at ho
    rcases ho with rfl | rfl | rfl
    all_goals
      refine float_any ?_
      repeat (go_big_quiet_step (fail))
      refine wpQuiet_nil ?_
      rfl
  refine wpStages_step ?_
  simp only [pick, List.map_nil]
  refine wpQuiet_nil ?_
  intro n1
  simp only [pick, List.map_cons, List.map_nil, List.getD_cons_zero, List.getD_cons_succ]
  go_wp2_with (at_builtin; go_must (refine wpList_app _ rfl (.tmp 36) (.tmp 41) _ rfl w2.heap.size 5 _ 1 1 Tryd.underlying34 u8_info rfl (by omega) _ _ _ _ rfl (Own.nil _ _ _ _) _ _ _ _ _ rfl ((hrA.heap rfl).rd) (ints_cell _ _) (by unfold maxLen; omega) (by omega) (by simp <;> omega) ?_; intro A3 c3 w3 own3 ch3 at3))
  simp only [Nat.zero_add, List.nil_append] at own3
  have C4 : Ch [] w2 w3 := (C3.drewN n1).step ch3 (by simp [blkOf])
  have hz3 := C4.size
  have d0b : w3.cell? ⟨w.heap.size, 0, none⟩ = some (.string name) := ((B2.ch C4 (by simp)).cell 0).trans b0
  refine stagePost_mk ?_ ?_
  · intro o ho
    simp only [pick, List.map_cons, List.map_nil, List.getD_cons_zero, List.getD_cons_succ, List.mem_cons, List.not_mem_nil, or_false] at ho
    rcases ho with rfl | rfl
    all_goals
      refine float_any ?_
      repeat (go_big_quiet_step (fail))
      refine wpQuiet_nil ?_
      rfl
  refine wpStages_step ?_
  simp only [pick, List.map_nil]
  refine wpQuiet_nil ?_
  intro n2
  simp only [pick, List.map_cons, List.map_nil, List.getD_cons_zero, List.getD_cons_succ]
  go_wp2_with (at_builtin; go_must (refine wpList_appStr rfl (.tmp 42) (.tmp 44) _ _ rfl w2.heap.size 5 Tryd.underlying34 Tryd.underlying9 u8_info _ _ _ _ rfl (own3.drewN n2) name rfl (by unfold maxLen; omega) (by omega) (by simp <;> omega) ?_; intro A4 c4 w4 own4 ch4))
  have C5 : Ch [] w2 w4 := (C4.drewN n2).step ch4 (fun b hb4 => .inr (own3.blks b hb4).1)
  have hz4 := C5.size
  have d18' : w4.cell? ⟨w.heap.size, 18, none⟩ = some (.int .i64 port) := ((B2.ch C5 (by simp)).cell 18).trans b18
  have HRB : Hid (∀ n, RdI .u8 ((w4.drewN n).alloc (.cells #[.int .u8 (port / 256), .int .u8 (port % 256)] 5)) (w4.heap.size + 1) (some ⟨w4.heap.size, 0, none⟩) 2 [port / 256, port % 256]) := fun n => two_rdAt _ _ _ _ _ rfl
  refine stagePost_mk (by simp [pick]) ?_
  refine wpStages_last ?_
  simp only [pick, List.map_cons, List.map_nil, List.getD_cons_zero, List.getD_cons_succ]
  repeat (go_big_quiet_step (fail))
  refine wpQuiet_nil ?_
  intro n3
  go_wp2_with (first
    | (at_builtin; go_must (refine wpList_app _ rfl (.tmp 57) (.tmp 65) _ rfl w2.heap.size 5 _ 1 1 Tryd.underlying34 u8_info rfl (by omega) _ _ _ _ rfl ((own4.drewN n3).alloc _) _ _ _ _ _ rfl ((HRB.out n3).rd) (ints_cell _ _) (by unfold maxLen; omega) (by omega) (by simp <;> omega) ?_; intro A5 c5 w5 own5 ch5 at5; have hR5 : RdI .u8 w5 w5.heap.size A5 _ (3 :: (name.size : Int) :: (numsOf name ++ [port / 256, port % 256])) := Rd.ints (by simpa using own5.rd)))
    | (refine wpList_strOf rfl _ _ _ _ rfl Tryd.underlying34 Tryd.underlying5 Tryd.underlying9 _ _ _ w5.heap.size (3 :: (name.size : Int) :: (numsOf name ++ [port / 256, port % 256])) rfl hR5 ?_))
  go_ret2
  exact ⟨rfl, hC.trans (C2.trans (((C5.drewN n3).alloc _).step ch5 (fun b hb5 => .inr (own4.blks b hb5).1)))⟩
end Go.Proofs.YtiffpjlmgeklkaaDoor
