/- reply.EncodeTarget and reply.Encode at a target without a name that is an IPv4 address. -/
import Derived.Test.YtiffpjlmgeklkaaDoorIpValid
import Derived.Deep.MidRow
namespace Go.Proofs.YtiffpjlmgeklkaaDoor
open Go.RowKit

/-- The cells of a target: the name, the address, the port. -/
def targC (name : ByteArray) (six : Bool) (bs : List Int) (port : Int) : List Value := .string name :: (addrC six bs ++ [.int .i64 port])

theorem wpList_load_want {P : Program} {ops : Array Oper} {rest : List Oper} {op : Oper} {a : Act} {w : World} {Q : Exit → Act → World → Prop} (hw : Region.wanted op (yielded ops a.tmps) = true) (ty : TypeId) (x : Operand) (ho : op.op = .load ty x)
    (b o : Nat) (hx : a.eval x = .pointer (some ⟨b, o, none⟩)) (cs : List Value) (d : TypeDesc) (hc : w.rangeAt b o cs)
    (hu : P.underlying ty = some d) (hd : d.isRow = true) (hi : (P.info? ty).map (·.size) = some cs.length)
    (h : wpList P ops Q rest (a.put op.dst (.agg cs.toArray)) w) : wpList P ops Q (op :: rest) a w := by
  unfold wpList
  rw [if_pos hw]
  exact .inl (wp_load_mid ty x ho b o hx cs d hc hu hd hi h)

theorem blk_ints {k : IntKind} {w : World} {g : Nat} {t : TypeId} {cs : List Value} (h : Blk w g t cs) (off n : Nat) (xs : List Int) (hl : xs.length = n) (hc : ∀ i (_ : i < xs.length), cs[off + i]? = some (.int k xs[i])) :
    RdI k w (g + 1) (some ⟨g, off, none⟩) n xs :=
  ⟨hl, fun _ => ⟨g, off, rfl, by omega, fun i hi => by rw [h.cell, hc i (by omega)]; simp [at_, List.getD, List.getElem?_eq_getElem (show i < xs.length by omega)]⟩⟩

theorem targ_byte {name : ByteArray} {six : Bool} {bs : List Int} {port : Int} (i : Nat) (h : i < bs.length) : (targC name six bs port)[2 + i]? = some (.int .u8 bs[i]) := by
  unfold targC addrC
  rw [show 2 + i = (i + 1) + 1 by omega, List.getElem?_cons_succ, List.cons_append, List.getElem?_cons_succ, List.getElem?_append_left (by rw [List.length_map]; exact h), List.getElem?_map, List.getElem?_eq_getElem h]
  rfl

set_option maxRecDepth 100000 in
set_option maxHeartbeats 2000000 in
theorem encT4 (bs : List Int) (port : Int) (hl : bs.length = 16) (hb : ∀ x ∈ bs, 0 ≤ x ∧ x ≤ 255) (hv : (bs.drop 4).all (· == 0) = true) (hp : 0 ≤ port ∧ port < 65536) (w : World) :
    Calls Tryd.prog 11 #[.agg (targC ⟨#[]⟩ false bs port).toArray] w fun e w' => e = .returned (.tuple #[.string (strOfNums (1 :: (bs.take 4 ++ [port / 256, port % 256]))), .bool true]) ∧ Ch [] w w' := by
  obtain ⟨p0, p1⟩ := hp
  have hB : Blk (w.alloc (.cells (targC ⟨#[]⟩ false bs port).toArray 26)) w.heap.size 26 (targC ⟨#[]⟩ false bs port) := Blk.new w _ _
  have hC : Ch [] w (w.alloc (.cells (targC ⟨#[]⟩ false bs port).toArray 26)) := (Ch.refl _ _).alloc _
  have c0 : (w.alloc (.cells (targC ⟨#[]⟩ false bs port).toArray 26)).cell? ⟨w.heap.size, 0, none⟩ = some (.string ⟨#[]⟩) := hB.cell 0
  have c1 : (w.alloc (.cells (targC ⟨#[]⟩ false bs port).toArray 26)).cell? ⟨w.heap.size, 1, none⟩ = some (.bool false) := hB.cell 1
  have b18 : (targC ⟨#[]⟩ false bs port)[18]? = some (.int .i64 port) := by
    unfold targC addrC
    simp [hl]
  have c18 : (w.alloc (.cells (targC ⟨#[]⟩ false bs port).toArray 26)).cell? ⟨w.heap.size, 18, none⟩ = some (.int .i64 port) := by
    rw [hB.cell]; exact b18
  have hld : (w.alloc (.cells (targC ⟨#[]⟩ false bs port).toArray 26)).rangeAt w.heap.size 1 (addrC false bs) := fun j v hj => by
    rw [hB.cell, Nat.add_comm 1 j]
    unfold targC
    rw [List.getElem?_cons_succ, List.getElem?_append_left (List.getElem?_eq_some_iff.1 hj).1]
    exact hj
  have hli : (Tryd.prog.info? 24).map (·.size) = some (addrC false bs).length := by
    rw [show (addrC false bs).length = 17 by unfold addrC; rw [List.length_cons, List.length_map, hl]]; kernel_rfl
  have HLD := hid hld
  have HLI := hid hli
  have hby := fun i h => targ_byte (name := ⟨#[]⟩) (six := false) (bs := bs) (port := port) i h
  generalize hvs : targC ⟨#[]⟩ false bs port = cs at hB hC c0 c1 c18 HLD hby b18 ⊢
  clear hvs hld hli
  have HV : Hid (validA false bs = true) := by show _ = _; unfold validA; rw [hv]; rfl
  clear hv
  go_enter Tryd.func11, Tryd.ntmps11
  go_wp2_with (first
    | (refine wpList_load_want rfl 24 _ rfl w.heap.size 1 rfl (addrC false bs) _ HLD.out Tryd.underlying24 rfl HLI.out ?_)
    | (go_at_call 28; (with_reducible refine (ipValid false bs hl hb _).mono ?_); rw [HV.out]; rintro e w2 ⟨rfl, C2⟩; have B2 := hB.ch C2 (by simp); have d0 : w2.cell? ⟨w.heap.size, 0, none⟩ = some (.string ⟨#[]⟩) := (C2.cell (p := ⟨w.heap.size, 0, none⟩) hB.lt (by simp)).trans c0; have d1 : w2.cell? ⟨w.heap.size, 1, none⟩ = some (.bool false) := (C2.cell (p := ⟨w.heap.size, 1, none⟩) hB.lt (by simp)).trans c1; have d18 : w2.cell? ⟨w.heap.size, 18, none⟩ = some (.int .i64 port) := (C2.cell (p := ⟨w.heap.size, 18, none⟩) hB.lt (by simp)).trans c18))
  have hR : ∀ w', Ch [] w2 w' → RdI .u8 w' (w.heap.size + 1) (some ⟨w.heap.size, 2, none⟩) 4 (bs.take 4) := fun w' C => blk_ints (B2.ch C (by simp)) 2 4 _ (by simp [hl]) (fun i hi => by rw [List.length_take] at hi; rw [hby i (by omega), List.getElem_take])
  have hrun : ∀ w' n, Ch [] w2 w' → (convert 34 9 (.slice (some ⟨w.heap.size, 2, none⟩) 4 16)).run Tryd.prog (w'.drewN n) = .ok (.string (strOfNums (bs.take 4))) (w'.drewN n) := fun w' n C => run_strOf 34 9 5 Tryd.underlying34 Tryd.underlying5 Tryd.underlying9 _ 4 16 _ _ (hR _ (C.drewN n))
  refine wp_region_stagesM [⟨0, 0, 33554432⟩, ⟨1, 33554432, 67108864⟩, ⟨0, 2, 134217728⟩, ⟨4, 134217728, 268435456⟩, ⟨8, 268435456, 536870912⟩, ⟨16, 536870912, 1073741824⟩, ⟨34, 1140850688, 2147483648⟩, ⟨127, 2147483648, 16⟩] [([2, 3, 4, 5], 0, [2, 3, 4, 5])] [1, 6, 7] (by kernel_rfl) (by kernel_rfl) ?_
  refine wpStages_step ?_
  simp only [pick, List.map_cons, List.map_nil, List.getD_cons_zero, List.getD_cons_succ]
  have hrun0 := fun n => hrun w2 n (Ch.refl _ _)
  repeat (go_big_quiet_step (fail))
  refine wpQuiet_nil ?_
  intro n0
  simp only [pick, List.map_cons, List.map_nil, List.getD_cons_zero]
  go_wp2
  have C3 : Ch [] w2 ((w2.drewN n0).alloc (.cells #[.int .u8 1] 5)) := ((Ch.refl _ _).drewN _).alloc _
  have hrun1 := fun n => hrun _ n C3
  have hrA : RdI .u8 ((w2.drewN n0).alloc (.cells #[.int .u8 1] 5)) (w2.heap.size + 1) (some ⟨w2.heap.size, 0, none⟩) 1 [1] := blk_ints (Blk.new (w2.drewN n0) 5 [.int .u8 1]) 0 1 [1] rfl (fun i hi => by
    obtain rfl : i = 0 := by simpa using hi
    rfl)
  have hrunA : ∀ n, (convert 34 9 (.slice (some ⟨w2.heap.size, 0, none⟩) 1 1)).run Tryd.prog (((w2.drewN n0).alloc (.cells #[.int .u8 1] 5)).drewN n) = .ok (.string (strOfNums [1])) (((w2.drewN n0).alloc (.cells #[.int .u8 1] 5)).drewN n) := fun n => run_strOf 34 9 5 Tryd.underlying34 Tryd.underlying5 Tryd.underlying9 _ 1 1 _ _ (hrA.heap rfl)
  have hrunB : ∀ n, (convert 34 9 (.slice (some ⟨w2.heap.size + 1, 0, none⟩) 2 2)).run Tryd.prog ((((w2.drewN n0).alloc (.cells #[.int .u8 1] 5)).drewN n).alloc (.cells #[.int .u8 (port / 256), .int .u8 (port % 256)] 5)) = .ok (.string (strOfNums [port / 256, port % 256])) ((((w2.drewN n0).alloc (.cells #[.int .u8 1] 5)).drewN n).alloc (.cells #[.int .u8 (port / 256), .int .u8 (port % 256)] 5)) := fun n =>
    run_strOf 34 9 5 Tryd.underlying34 Tryd.underlying5 Tryd.underlying9 _ 2 2 _ [port / 256, port % 256] (blk_ints (Blk.newAt (((w2.drewN n0).alloc (.cells #[.int .u8 1] 5)).drewN n) 5 [.int .u8 (port / 256), .int .u8 (port % 256)] (by simp)) 0 2 _ rfl (fun i hi => by
      rcases (show i = 0 ∨ i = 1 by simp at hi; omega) with rfl | rfl <;> rfl))
  have s3 : (strOfNums [port / 256, port % 256]).size ≤ 2 := by rw [strOf_size]; simp
  have s1 : (strOfNums [1]).size ≤ 1 := by rw [strOf_size]; simp
  have s2 : (strOfNums (bs.take 4)).size ≤ 4 := by rw [strOf_size, List.length_take]; omega
  have B3 := B2.ch C3 (by simp)
  have g18 : ((w2.drewN n0).alloc (.cells #[.int .u8 1] 5)).cell? ⟨w.heap.size, 18, none⟩ = some (.int .i64 port) := (B3.cell 18).trans b18
  refine stagePost_mk ?_ ?_
  · intro o ho
    simp only [pick, List.map_cons, List.map_nil, List.getD_cons_zero, List.getD_cons_succ, List.mem_cons, List.not_mem_nil, or_false] at ho
    rcases ho with rfl | rfl | rfl | rfl
    all_goals
      refine float_any ?_
      repeat (go_big_quiet_step (fail))
      refine wpQuiet_nil ?_
      rfl
  refine wpStages_last ?_
  simp only [pick, List.map_cons, List.map_nil, List.getD_cons_zero, List.getD_cons_succ]
  repeat (go_big_quiet_step (fail))
  refine wpQuiet_nil ?_
  intro n1
  go_wp2
  go_ret2
  exact ⟨by rw [strOf_append, strOf_append]; rfl, hC.trans (C2.trans ((C3.drewN _).alloc _))⟩

set_option maxRecDepth 100000 in
theorem encR4 (code : Int) (bs : List Int) (port : Int) (h0 : 0 ≤ code) (h1 : code ≤ 255) (hl : bs.length = 16) (hb : ∀ x ∈ bs, 0 ≤ x ∧ x ≤ 255) (hv : (bs.drop 4).all (· == 0) = true) (hp : 0 ≤ port ∧ port < 65536) (w : World) :
    Calls Tryd.prog 17 #[.int .i64 code, .agg (targC ⟨#[]⟩ false bs port).toArray] w fun e w' => e = .returned (.string (strOfNums (5 :: code :: 0 :: 1 :: (bs.take 4 ++ [port / 256, port % 256])))) ∧ Ch [] w w' := by
  have hB : Blk (w.alloc (.cells (targC ⟨#[]⟩ false bs port).toArray 26)) w.heap.size 26 (targC ⟨#[]⟩ false bs port) := Blk.new w _ _
  have hC : Ch [] w (w.alloc (.cells (targC ⟨#[]⟩ false bs port).toArray 26)) := (Ch.refl _ _).alloc _
  have HLD : Hid ((w.alloc (.cells (targC ⟨#[]⟩ false bs port).toArray 26)).rangeAt w.heap.size 0 (targC ⟨#[]⟩ false bs port)) := fun j v hj => by
    rw [hB.cell, Nat.zero_add]; exact hj
  have HLI : Hid ((Tryd.prog.info? 26).map (·.size) = some (targC ⟨#[]⟩ false bs port).length) := by
    show _ = _
    rw [show (targC ⟨#[]⟩ false bs port).length = 19 by unfold targC addrC; simp [hl]]; kernel_rfl
  have HV := hid hv
  have HE := fun w => encT4 bs port hl hb HV.out hp w
  generalize targC ⟨#[]⟩ false bs port = cs at hB hC HLD HLI HE ⊢
  obtain ⟨S, hS⟩ : ∃ S, 1 :: (bs.take 4 ++ [port / 256, port % 256]) = S := ⟨_, rfl⟩
  have hSl : S.length ≤ 7 := by rw [← hS, List.length_cons, List.length_append, List.length_take]; simp; omega
  have hs : (strOfNums S).size ≤ 7 := by rw [strOf_size]; exact hSl
  have h3 : (strOfNums [5, code, 0]).size ≤ 3 := by rw [strOf_size]; simp
  rw [hS] at HE ⊢
  clear hv hS
  have hrunB : ∀ w2 : World, (convert 34 9 (.slice (some ⟨w2.heap.size, 0, none⟩) 3 3)).run Tryd.prog (w2.alloc (.cells #[.int .u8 5, .int .u8 code, .int .u8 0] 5)) = .ok (.string (strOfNums [5, code, 0])) (w2.alloc (.cells #[.int .u8 5, .int .u8 code, .int .u8 0] 5)) := fun w2 =>
    run_strOf 34 9 5 Tryd.underlying34 Tryd.underlying5 Tryd.underlying9 _ 3 3 _ [5, code, 0] (blk_ints (Blk.new w2 5 [.int .u8 5, .int .u8 code, .int .u8 0]) 0 3 _ rfl (fun i hi => by
      rcases (show i = 0 ∨ i = 1 ∨ i = 2 by simp at hi; omega) with rfl | rfl | rfl <;> rfl))
  go_enter Tryd.func17, Tryd.ntmps17
  go_wp2_with (first
    | (refine wpList_load_want rfl 26 _ rfl w.heap.size 0 rfl cs _ HLD.out Tryd.underlying26 rfl HLI.out ?_)
    | (go_at_call 11; (with_reducible refine (HE _).mono ?_); rintro e w2 ⟨rfl, C2⟩))
  go_ret
  exact ⟨by rw [strOf_append]; rfl, (hC.trans C2).alloc _⟩

theorem rplyZero (code : Int) (h0 : 0 ≤ code) (h1 : code ≤ 255) (w : World) :
    Calls Tryd.prog 17 #[.int .i64 code, .agg #[.string ⟨#[]⟩, .bool false, .int .u8 0, .int .u8 0, .int .u8 0, .int .u8 0, .int .u8 0, .int .u8 0, .int .u8 0, .int .u8 0, .int .u8 0, .int .u8 0, .int .u8 0, .int .u8 0, .int .u8 0, .int .u8 0, .int .u8 0, .int .u8 0, .int .i64 0]] w fun e w' => e = .returned (.string (strOfNums [5, code, 0, 1, 0, 0, 0, 0, 0, 0])) ∧ Ch [] w w' :=
  encR4 code (List.replicate 16 0) 0 h0 h1 rfl (fun x hx => by rw [List.eq_of_mem_replicate hx]; omega) rfl (by omega) w
end Go.Proofs.YtiffpjlmgeklkaaDoor
