/- Several texts in one: ShelfS, LowH, Host, Host2, RefNmR, AclH, AclR. -/
import Derived.Test.YtbmbnibamhgfmaaDoorMA
import Derived.Test.YtbmbnibamhgfmaaDoorMB
import Derived.Test.YtbmbnibamhgfmaaDoorMC
import Derived.Test.YtbmbnibamhgfmaaDoorMD
import Derived.Shelf.LaysM
import Derived.Shelf.Strings.Split
import Derived.Shelf.Strings.SlTrimAscii
import Derived.Shelf.Strings.Prefix
import Derived.LaidSub
import Derived.MakeChecks
import Derived.BigQuiet
import Derived.Shelf.Strings.Count
/- The shelf's contracts of strings.Split, Trim, TrimSuffix, laid for this program. -/
namespace Go.Proofs.YtbmbnibamhgfmaaDoor
open Go.RowKit

def laysSplit_ren : Go.Shelf.Ren := ⟨fun | 146 => 83 | 221 => 104 | 268 => 119 | 138 => 61 | 143 => 81 | 195 => 85 | 197 => 116 | 218 => 86 | 219 => 96 | 260 => 124 | 217 => 111 | 225 => 112 | 224 => 113 | 267 => 114 | 266 => 122 | 314 => 123 | n => n, fun | 9 => 9 | 31 => 115 | 3 => 3 | 4 => 4 | 0 => 0 | 105 => 163 | 21 => 21 | 5 => 5 | 46 => 77 | 119 => 173 | 139 => 176 | 138 => 175 | 146 => 169 | 51 => 168 | n => n, fun | 1 => 0 | 3 => 1 | 4 => 2 | n => n⟩
theorem laysSplit : Go.Proofs.LaysM.n146 Tryd.prog laysSplit_ren where
  mixed := by kernel_rfl
  f138 := Tryd.func61.trans (congrArg some (by kernel_rfl))
  f143 := Tryd.func81.trans (congrArg some (by kernel_rfl))
  f146 := Tryd.func83.trans (congrArg some (by kernel_rfl))
  f195 := Tryd.func85.trans (congrArg some (by kernel_rfl))
  f197 := Tryd.func116.trans (congrArg some (by kernel_rfl))
  f217 := Tryd.func111.trans (congrArg some (by kernel_rfl))
  f218 := Tryd.func86.trans (congrArg some (by kernel_rfl))
  f219 := Tryd.func96.trans (congrArg some (by kernel_rfl))
  f221 := Tryd.func104.trans (congrArg some (by kernel_rfl))
  f224 := Tryd.func113.trans (congrArg some (by kernel_rfl))
  f225 := Tryd.func112.trans (congrArg some (by kernel_rfl))
  f260 := Tryd.func124.trans (congrArg some (by kernel_rfl))
  f266 := Tryd.func122.trans (congrArg some (by kernel_rfl))
  f267 := Tryd.func114.trans (congrArg some (by kernel_rfl))
  f268 := Tryd.func119.trans (congrArg some (by kernel_rfl))
  f314 := Tryd.func123.trans (congrArg some (by kernel_rfl))
  t0 := Tryd.underlying0
  a0 := Tryd.isAgg0
  z0 := Tryd.sizeOf0
  v0 := Tryd.zeroValue0
  t3 := Tryd.underlying3
  a3 := Tryd.isAgg3
  z3 := Tryd.sizeOf3
  v3 := Tryd.zeroValue3
  t4 := Tryd.underlying4
  a4 := Tryd.isAgg4
  z4 := Tryd.sizeOf4
  v4 := Tryd.zeroValue4
  t5 := Tryd.underlying5
  a5 := Tryd.isAgg5
  z5 := Tryd.sizeOf5
  v5 := Tryd.zeroValue5
  t9 := Tryd.underlying9
  a9 := Tryd.isAgg9
  z9 := Tryd.sizeOf9
  v9 := Tryd.zeroValue9
  t21 := Tryd.underlying21
  a21 := Tryd.isAgg21
  z21 := Tryd.sizeOf21
  v21 := Tryd.zeroValue21
  t31 := Tryd.underlying115
  a31 := Tryd.isAgg115
  z31 := Tryd.sizeOf115
  v31 := Tryd.zeroValue115
  t46 := Tryd.underlying77
  a46 := Tryd.isAgg77
  z46 := Tryd.sizeOf77
  v46 := Tryd.zeroValue77
  t51 := Tryd.underlying168
  a51 := Tryd.isAgg168
  z51 := Tryd.sizeOf168
  v51 := Tryd.zeroValue168
  t105 := Tryd.underlying163
  a105 := Tryd.isAgg163
  z105 := Tryd.sizeOf163
  v105 := Tryd.zeroValue163
  t119 := Tryd.underlying173
  a119 := Tryd.isAgg173
  z119 := Tryd.sizeOf173
  t138 := Tryd.underlying175
  a138 := Tryd.isAgg175
  z138 := Tryd.sizeOf175
  v138 := Tryd.zeroValue175
  t139 := Tryd.underlying176
  a139 := Tryd.isAgg176
  z139 := Tryd.sizeOf176
  v139 := Tryd.zeroValue176
  t146 := Tryd.underlying169
  a146 := Tryd.isAgg169
  z146 := Tryd.sizeOf169
  v146 := Tryd.zeroValue169
  g1 := by kernel_rfl
  g3 := by kernel_rfl
  g4 := by kernel_rfl
  i0 := by kernel_rfl
  i3 := by kernel_rfl
  i4 := by kernel_rfl
  i5 := by kernel_rfl
  i9 := by kernel_rfl
  i21 := by kernel_rfl
  i31 := by kernel_rfl
  i46 := by kernel_rfl
  i51 := by kernel_rfl
  i105 := by kernel_rfl
  i138 := by kernel_rfl
  i139 := by kernel_rfl
  i146 := by kernel_rfl
  m1 := by kernel_rfl
  s1_3 := fun w h => Go.Proofs.cell_of_shapedOpen_int (zero := #[.int .i64 0]) (t := 3) h (of_decide_eq_true (by kernel_rfl)) (by kernel_rfl) rfl (by kernel_rfl) (by kernel_rfl) Tryd.underlying3
  m3 := by kernel_rfl
  m4 := by kernel_rfl

def laysTrim_ren : Go.Shelf.Ren := ⟨fun | 160 => 82 | 232 => 98 | 231 => 97 | 227 => 99 | 234 => 101 | 233 => 100 | 236 => 103 | 235 => 102 | 228 => 115 | 271 => 118 | 151 => 117 | 197 => 116 | 120 => 126 | 152 => 125 | 260 => 124 | 137 => 128 | 119 => 129 | 224 => 113 | 225 => 112 | 217 => 111 | 266 => 122 | n => n, fun | 9 => 9 | 4 => 4 | 3 => 3 | 5 => 5 | 117 => 154 | 116 => 153 | 0 => 0 | 124 => 157 | 21 => 21 | 105 => 163 | 46 => 77 | 119 => 173 | 139 => 176 | 138 => 175 | n => n, fun | 3 => 1 | 4 => 2 | n => n⟩
theorem laysTrim : Go.Proofs.LaysM.n160 Tryd.prog laysTrim_ren where
  mixed := by kernel_rfl
  f119 := Tryd.func129.trans (congrArg some (by kernel_rfl))
  f120 := Tryd.func126.trans (congrArg some (by kernel_rfl))
  f137 := Tryd.func128.trans (congrArg some (by kernel_rfl))
  f151 := Tryd.func117.trans (congrArg some (by kernel_rfl))
  f152 := Tryd.func125.trans (congrArg some (by kernel_rfl))
  f160 := Tryd.func82.trans (congrArg some (by kernel_rfl))
  f197 := Tryd.func116.trans (congrArg some (by kernel_rfl))
  f217 := Tryd.func111.trans (congrArg some (by kernel_rfl))
  f224 := Tryd.func113.trans (congrArg some (by kernel_rfl))
  f225 := Tryd.func112.trans (congrArg some (by kernel_rfl))
  f227 := Tryd.func99.trans (congrArg some (by kernel_rfl))
  f228 := Tryd.func115.trans (congrArg some (by kernel_rfl))
  f231 := Tryd.func97.trans (congrArg some (by kernel_rfl))
  f232 := Tryd.func98.trans (congrArg some (by kernel_rfl))
  f233 := Tryd.func100.trans (congrArg some (by kernel_rfl))
  f234 := Tryd.func101.trans (congrArg some (by kernel_rfl))
  f235 := Tryd.func102.trans (congrArg some (by kernel_rfl))
  f236 := Tryd.func103.trans (congrArg some (by kernel_rfl))
  f260 := Tryd.func124.trans (congrArg some (by kernel_rfl))
  f266 := Tryd.func122.trans (congrArg some (by kernel_rfl))
  f271 := Tryd.func118.trans (congrArg some (by kernel_rfl))
  t0 := Tryd.underlying0
  a0 := Tryd.isAgg0
  z0 := Tryd.sizeOf0
  v0 := Tryd.zeroValue0
  t3 := Tryd.underlying3
  a3 := Tryd.isAgg3
  z3 := Tryd.sizeOf3
  v3 := Tryd.zeroValue3
  t4 := Tryd.underlying4
  a4 := Tryd.isAgg4
  z4 := Tryd.sizeOf4
  v4 := Tryd.zeroValue4
  t5 := Tryd.underlying5
  a5 := Tryd.isAgg5
  z5 := Tryd.sizeOf5
  v5 := Tryd.zeroValue5
  t9 := Tryd.underlying9
  a9 := Tryd.isAgg9
  z9 := Tryd.sizeOf9
  v9 := Tryd.zeroValue9
  t21 := Tryd.underlying21
  a21 := Tryd.isAgg21
  z21 := Tryd.sizeOf21
  v21 := Tryd.zeroValue21
  t46 := Tryd.underlying77
  a46 := Tryd.isAgg77
  z46 := Tryd.sizeOf77
  v46 := Tryd.zeroValue77
  t105 := Tryd.underlying163
  a105 := Tryd.isAgg163
  z105 := Tryd.sizeOf163
  v105 := Tryd.zeroValue163
  t116 := Tryd.underlying153
  a116 := Tryd.isAgg153
  z116 := Tryd.sizeOf153
  t117 := Tryd.underlying154
  a117 := Tryd.isAgg154
  z117 := Tryd.sizeOf154
  v117 := Tryd.zeroValue154
  t119 := Tryd.underlying173
  a119 := Tryd.isAgg173
  z119 := Tryd.sizeOf173
  t124 := Tryd.underlying157
  a124 := Tryd.isAgg157
  z124 := Tryd.sizeOf157
  v124 := Tryd.zeroValue157
  t138 := Tryd.underlying175
  a138 := Tryd.isAgg175
  z138 := Tryd.sizeOf175
  v138 := Tryd.zeroValue175
  t139 := Tryd.underlying176
  a139 := Tryd.isAgg176
  z139 := Tryd.sizeOf176
  v139 := Tryd.zeroValue176
  g3 := by kernel_rfl
  g4 := by kernel_rfl
  i0 := by kernel_rfl
  i3 := by kernel_rfl
  i4 := by kernel_rfl
  i5 := by kernel_rfl
  i9 := by kernel_rfl
  i21 := by kernel_rfl
  i46 := by kernel_rfl
  i105 := by kernel_rfl
  i117 := by kernel_rfl
  i124 := by kernel_rfl
  i138 := by kernel_rfl
  i139 := by kernel_rfl
  m3 := by kernel_rfl
  m4 := by kernel_rfl

end Go.Proofs.YtbmbnibamhgfmaaDoor

/- '[]byte(s)' written in place; host.lower. -/
namespace Go.Proofs.YtbmbnibamhgfmaaDoor
open Go.RowKit

/-- A block whose first cells are bytes; the run-time's mark lies behind them. -/
def BRow (w : World) (g : Nat) (e : TypeId) (xs : List Int) : Prop := ∃ (arr : Array Value) (k : Nat), w.heap[g]? = some (.cells arr e (k, k + 1)) ∧ xs.length ≤ k ∧ xs.length ≤ arr.size ∧ ∀ i, (h : i < xs.length) → arr[i]? = some (.int .u8 (at_ xs i))
section
variable {w w' : World} {g : Nat} {e : TypeId} {xs : List Int} {S : List Nat}
theorem BRow.lt (h : BRow w g e xs) : g < w.heap.size := by
  obtain ⟨arr, k, h, _⟩ := h
  rcases Nat.lt_or_ge g w.heap.size with hlt | hge
  · exact hlt
  · rw [Array.getElem?_eq_none hge] at h; cases h
theorem BRow.cell (h : BRow w g e xs) {i : Nat} (hi : i < xs.length) : w.cell? ⟨g, i, none⟩ = some (.int .u8 (at_ xs i)) := by
  obtain ⟨arr, k, h, _, _, hc⟩ := h
  simp [World.cell?, h, hc i hi]
theorem BRow.frozen (h : BRow w g e xs) {i : Nat} (hi : i < xs.length) : w.frozen? ⟨g, i, none⟩ = false := by
  obtain ⟨arr, k, h, h1, _⟩ := h
  simp [World.frozen?, h]
  omega
theorem BRow.ch (h : BRow w g e xs) (hc : Ch S w w') (hn : g ∉ S) : BRow w' g e xs := by
  have hl := h.lt
  obtain ⟨arr, k, h, r⟩ := h
  exact ⟨arr, k, (hc.block g hl hn).trans h, r⟩
theorem BRow.set (h : BRow w g e xs) {i : Nat} (hi : i < xs.length) (v : Int) : BRow (w.setCell ⟨g, i, none⟩ (.int .u8 v)) g e (xs.set i v) := by
  obtain ⟨arr, k, h, h1, h2, h3⟩ := h
  refine ⟨arr.set! i (.int .u8 v), k, ?_, by rw [List.length_set]; exact h1, by rw [List.length_set]; simpa using h2, fun j hj => ?_⟩
  · simp [World.setCell, Array.getElem?_modify, h]
  · rw [List.length_set] at hj
    have hj2 : j < arr.size := by omega
    have hi2 : i < arr.size := by omega
    by_cases e : i = j
    · subst e
      simp [at_, List.getD, hi, hi2, Array.set!]
    · have := h3 j hj
      simp only [Array.set!, Array.getElem?_setIfInBounds, if_neg e, this]
      simp [at_, List.getD, e]
theorem BRow.rd (h : BRow w g e xs) : RdI .u8 w w.heap.size (some ⟨g, 0, none⟩) xs.length xs := by
  refine ⟨rfl, fun _ => ⟨g, 0, rfl, h.lt, fun i hi => ?_⟩⟩
  rw [Nat.zero_add]
  exact h.cell hi
end
section
variable {P : Program} {w : World} {ops : Array Oper} {rest : List Oper} {o : Oper} {a : Act} {Q : Exit → Act → World → Prop}
theorem wpList_bytesRow (hgd : o.guard = none) (src dst e : TypeId) (x : Operand) (ho : o.op = .convert src dst x) (hs : P.underlying src = some .string) (hd : P.underlying dst = some (.slice e)) (he : P.underlying e = some (.int .u8))
    (s : ByteArray) (hx : a.eval x = .string s) (hm : s.size ≤ maxLen)
    (h : ∀ c w', s.size ≤ c → c ≤ maxLen → BRow w' w.heap.size e (numsOf s) → Ch [] w w' → w'.heap.size = w.heap.size + 1 → wpList P ops Q rest (a.put o.dst (.slice (some ⟨w.heap.size, 0, none⟩) s.size c)) w') :
    wpList P ops Q (o :: rest) a w :=
  wpList_plain hgd fun K hK => by
    unfold Oper.wp execOp
    simp only [ho, Sem.run_bind, hx, run_bytes_of_string w src dst e s hs hd he, Result.andThen_ok]
    have hsz : (bytesRow s (grownCap w s.size 0 e)).size = s.size + (grownCap w s.size 0 e - s.size) := by
      unfold bytesRow
      rw [Array.size_append, Array.size_map, Array.size_replicate]; rfl
    refine hK _ _ (h _ _ (grownCap_ge ..) (grownCap_le_maxLen _ _ _ _ hm) ⟨bytesRow s (grownCap w s.size 0 e), (bytesRow s (grownCap w s.size 0 e)).size, ?_, by rw [numsOf_length, hsz]; omega, by rw [numsOf_length, hsz]; omega, fun i hi => ?_⟩ ((Ch.refl _ _).drew.alloc _) (by simp))
    · exact heap_alloc_new w.drew (.cells (bytesRow s (grownCap w s.size 0 e)) e ((bytesRow s (grownCap w s.size 0 e)).size, (bytesRow s (grownCap w s.size 0 e)).size + 1))
    · rw [numsOf_length] at hi
      have hi' : i < s.data.size := hi
      rw [numsOf_at s i hi']
      exact bytesRow_at s (grownCap w s.size 0 e) i hi'
end

def lw (x : Int) : Int := if 65 ≤ x ∧ x ≤ 90 then x + 32 else x
theorem lw_up {x : Int} (h : 65 ≤ x ∧ x ≤ 90) : lw x = x + 32 := if_pos h
theorem lw_no {x : Int} (h : ¬ (65 ≤ x ∧ x ≤ 90)) : lw x = x := if_neg h
def lowS (s : ByteArray) : ByteArray := strOfNums ((numsOf s).map lw)
theorem lw_byte {x : Int} (h : 0 ≤ x ∧ x ≤ 255) : 0 ≤ lw x ∧ lw x ≤ 255 := by unfold lw; split <;> omega
end Go.Proofs.YtbmbnibamhgfmaaDoor

/- strings.Split at a dot, strings.Trim at the labels' letters and at the digits; host.validLabel, validName, ParseName. -/
namespace Go.Proofs.YtbmbnibamhgfmaaDoor
open Go.RowKit

theorem trimSet (s cs : ByteArray) (p : Int → Bool) (h : ∀ n : Fin 256, cs.data.toList.contains (UInt8.ofNat n.val) = p n.val) (hs : s.size ≤ 1000000) (hc : cs.size < 4294967281) (ha : cs.data.toList.all (fun b => decide (b.toNat < 128)) = true) (w : World) :
    Calls Tryd.prog 82 #[.string s, .string cs] w fun e w' => (∃ t, e = .returned (.string t) ∧ (((numsOf s).all p = true ∧ t = ⟨#[]⟩) ∨ ((numsOf s).all p = false ∧ t.toList.isEmpty = false))) ∧ Ch [] w w' := by
  refine Calls.mono (Any.strings_Trim_laid { laysTrim with } (by kernel_rfl) s cs w (by omega) hc (ascii_of_all ha)) ?_
  rintro e w' ⟨rfl, hb⟩
  exact ⟨⟨_, rfl, trim_all s cs p h⟩, Ch.of_below hb []⟩
theorem trimLab (s : ByteArray) (hs : s.size ≤ 1000000) (w : World) : Calls Tryd.prog 82 #[.string s, .string labC] w fun e w' => (∃ t, e = .returned (.string t) ∧ (((numsOf s).all chrOk = true ∧ t = ⟨#[]⟩) ∨ ((numsOf s).all chrOk = false ∧ t.toList.isEmpty = false))) ∧ Ch [] w w' :=
  trimSet s labC chrOk labC_has hs (by decide) (by decide +kernel) w
theorem trimDig (s : ByteArray) (hs : s.size ≤ 1000000) (w : World) : Calls Tryd.prog 82 #[.string s, .string digC] w fun e w' => (∃ t, e = .returned (.string t) ∧ (((numsOf s).all digOk = true ∧ t = ⟨#[]⟩) ∨ ((numsOf s).all digOk = false ∧ t.toList.isEmpty = false))) ∧ Ch [] w w' :=
  trimSet s digC digOk digC_has hs (by decide) (by decide +kernel) w

theorem genSplitD (s : ByteArray) (hs : s.size ≤ 1000000) (w : World) : Calls Tryd.prog 104 #[.string s, .string dotS, .int .i64 0, .int .i64 (-1)] w fun e w' =>
    e = .returned (.slice (some ⟨w.heap.size, 0, none⟩) (Lib.splitB dotS 0 (Lib.countB s dotS) s).length (Lib.splitB dotS 0 (Lib.countB s dotS) s).length) ∧ w' = w.alloc (.cells ((Lib.splitB dotS 0 (Lib.countB s dotS) s).map Value.string).toArray 9) := by
  have hle := Lib.countB_le dotS (by decide) s.size s (Nat.le_refl _)
  have hlen := Lib.splitB_all dotS (by decide) 0 _ s rfl
  have e1 : Lib.countB s dotS = Lib.countByte s.data.toList 46 := Lib.count_one 46 s.data.toList
  have e2 (x : ByteArray) : Lib.indexB x dotS = Lib.indexByte x.data.toList 46 := Lib.index_one x.data.toList 46
  have c := Any.strings_genSplit_core (P := Tryd.prog) (ρ := laysSplit_ren) { laysSplit with } (by kernel_rfl) s dotS 0 (-1) (Lib.countB s dotS + 1) w (by omega) (by decide) (Nat.zero_le _)
    (fun x cc hx => (Any.strings_Index_one { laysSplit with } x 46 _).mono fun e w' h => by rw [e2]; exact h)
    ((Any.strings_Count_one { laysSplit with } s 46 w).mono fun e w' h => by rw [e1]; exact h)
    (by decide) (by decide) (by rw [if_pos (by decide)]; omega)
  rw [Nat.add_sub_cancel] at c
  have e3 : Lib.cellsOf (Lib.splitB dotS 0 (Lib.countB s dotS) s) (Lib.countB s dotS + 1) = ((Lib.splitB dotS 0 (Lib.countB s dotS) s).map Value.string).toArray := by rw [← hlen]; exact Lib.cellsOf_full _
  rw [e3, hlen] at c
  rw [hlen]
  exact c
theorem hostSplit (s : ByteArray) (hs : s.size ≤ 1000000) (w : World) : Calls Tryd.prog 83 #[.string s, .string dotS] w fun e w' => ∃ ps : List ByteArray,
    e = .returned (.slice (some ⟨w.heap.size, 0, none⟩) ps.length ps.length) ∧ ps.map numsOf = splitD (numsOf s) ∧ Blk w' w.heap.size 9 (ps.map Value.string) ∧ Ch [] w w' := by
  have hsm := split_same _ s rfl
  have hg := genSplitD s hs w
  go_enter Tryd.func83, Tryd.ntmps83
  go_wp2_with (go_at_call 104; go_must (refine hg.mono ?_; rintro e w' ⟨rfl, rfl⟩))
  go_ret
  exact ⟨_, rfl, hsm, Blk.new w 9 _, (Ch.refl _ _).alloc _⟩

end Go.Proofs.YtbmbnibamhgfmaaDoor

/- host.validLabel, validName, ParseName. -/
namespace Go.Proofs.YtbmbnibamhgfmaaDoor
open Go.RowKit

theorem labOk_def (s : ByteArray) (r : Bool) (h : (decide (1 ≤ s.size ∧ s.size ≤ 63) && !decide (byt s 0 = 45) && !decide (byt s (s.size - 1) = 45) && (numsOf s).all chrOk) = r) (h0 : 1 ≤ s.size ∨ r = false) : labOk (numsOf s) = r := by
  unfold labOk
  rw [numsOf_length]
  by_cases h1 : 1 ≤ s.size
  · rw [← byt_at (show 0 < s.size by omega), ← byt_at (show s.size - 1 < s.size by omega)]
    exact h
  · have hd : decide (1 ≤ s.size ∧ s.size ≤ 63) = false := by simp; omega
    rw [hd]
    rcases h0 with h0 | h0
    · omega
    · rw [h0]; rfl

set_option maxRecDepth 20000 in
set_option maxHeartbeats 1000000 in
theorem hostLabel (s : ByteArray) (hs : s.size ≤ 1000000) (w : World) : Calls Tryd.prog 84 #[.string s] w fun e w' => e = .returned (.bool (labOk (numsOf s))) ∧ Ch [] w w' := by
  by_cases h1 : 1 ≤ s.size
  · by_cases h2 : s.size ≤ 63
    · have hp0 : 0 < s.size := by omega
      have hp1 : s.size - 1 < s.size := by omega
      have e0 : ((s[0]'hp0).toNat : Int) = byt s 0 := byt_get hp0
      have e1 : ((s[s.size - 1]'hp1).toNat : Int) = byt s (s.size - 1) := byt_get hp1
      have hb2 : 1 ≤ (s.size : Int) ∧ (s.size : Int) - 1 < s.size := by omega
      by_cases c0 : byt s 0 = 45
      · have HL : labOk (numsOf s) = false := labOk_def s false (by simp [c0]) (.inr rfl)
        rw [HL]
        clear HL
        rw [c0] at e0
        clear c0
        go_enter Tryd.func84, Tryd.ntmps84
        go_wp2
        go_ret
        exact ⟨rfl, Ch.refl _ _⟩
      · by_cases c1 : byt s (s.size - 1) = 45
        · have HL : labOk (numsOf s) = false := labOk_def s false (by simp [c1]) (.inr rfl)
          rw [HL]
          clear HL
          rw [c1] at e1
          have hne : ¬ ((s[0]'hp0).toNat : Int) = 45 := by rw [e0]; exact c0
          have hnb : (((s[0]'hp0).toNat : Int) == 45) = false := by simpa using hne
          clear c1 c0 e0
          go_enter Tryd.func84, Tryd.ntmps84
          go_wp2
          go_ret
          exact ⟨rfl, Ch.refl _ _⟩
        · have hne : ¬ ((s[0]'hp0).toNat : Int) = 45 := by rw [e0]; exact c0
          have hme : ¬ ((s[s.size - 1]'hp1).toNat : Int) = 45 := by rw [e1]; exact c1
          have hnb : (((s[0]'hp0).toNat : Int) == 45) = false := by simpa using hne
          have hmb : (((s[s.size - 1]'hp1).toNat : Int) == 45) = false := by simpa using hme
          have HL : labOk (numsOf s) = (numsOf s).all chrOk := labOk_def s _ (by simp [c0, c1, h1, h2]) (.inl h1)
          rw [HL]
          clear HL c0 c1 e0 e1
          have HT := hid (trimLab s hs)
          go_enter Tryd.func84, Tryd.ntmps84
          go_wp2_with (go_at_call 82; go_must (refine (HT.out _).mono ?_; rintro e w2 ⟨⟨t, rfl, ht⟩, C2⟩))
          rcases ht with ⟨h, rfl⟩ | ⟨h, ht⟩
          · have HH := hid h
            clear h
            go_wp2
            go_ret
            exact ⟨ret_bool (by rw [HH.out]; simp [hne, hme, ByteArray.toList_eq]), C2⟩
          · have HH := hid h
            have hte : ¬ t.toList = [] := by intro h0; rw [h0] at ht; simp at ht
            clear h
            go_wp2
            go_ret
            exact ⟨ret_bool (by rw [HH.out]; simp [hte]), C2⟩
    · have HL : labOk (numsOf s) = false := labOk_def s false (by simp; omega) (.inr rfl)
      rw [HL]
      clear HL
      go_enter Tryd.func84, Tryd.ntmps84
      go_wp2
      go_ret
      exact ⟨rfl, Ch.refl _ _⟩
  · have HL : labOk (numsOf s) = false := labOk_def s false (by simp; omega) (.inr rfl)
    rw [HL]
    clear HL
    go_enter Tryd.func84, Tryd.ntmps84
    go_wp2
    go_ret
    exact ⟨rfl, Ch.refl _ _⟩

theorem at_map (ps : List ByteArray) (k : Nat) (x : ByteArray) (h : ps[k]? = some x) (w : World) (g : Nat) (hB : Blk w g 9 (ps.map Value.string)) : w.cell? ⟨g, k, none⟩ = some (.string x) := by
  rw [hB.cell, List.getElem?_map, h]; rfl
theorem lastD_eq {α : Type} (l : List α) (d : α) (h : l ≠ []) : l[l.length - 1]? = some (l.getLastD d) := by
  rw [List.getLastD_eq_getLast?, ← List.getLast?_eq_getElem?]
  cases hl : l.getLast? with
  | none => simp at hl; exact absurd hl h
  | some a => rfl
theorem pieces_size (l : List Int) : ∀ x ∈ splitD l, x.length ≤ l.length := by
  induction l with
  | nil => intro x hx; simp [splitD] at hx; subst hx; simp
  | cons c l ih =>
    intro x hx
    unfold splitD at hx
    split at hx
    · rcases List.mem_cons.1 hx with rfl | hx
      · simp
      · have := ih x hx; simp; omega
    · split at hx
      · rename_i y r hy
        rcases List.mem_cons.1 hx with rfl | hx
        · have := ih y (by rw [hy]; simp); simp; omega
        · have := ih x (by rw [hy]; simp [hx]); simp; omega
      · simp at hx; subst hx; simp

set_option maxRecDepth 20000 in
set_option maxHeartbeats 1000000 in
theorem hostValid (s : ByteArray) (hs : s.size ≤ 1000000) (w : World) : Calls Tryd.prog 60 #[.string s] w fun e w' => e = .returned (.bool (namOk (numsOf s))) ∧ Ch [] w w' := by
  by_cases h1 : s.size ≤ 253
  · have HSP := hid (hostSplit s hs)
    have HN : Hid (namOk (numsOf s) = ((splitD (numsOf s)).all labOk && !((splitD (numsOf s)).getLastD []).all digOk)) := by
      show _ = _
      unfold namOk
      rw [numsOf_length]
      simp [h1]
    have HZ := hid (pieces_size (numsOf s))
    have HNE := hid (splitD_ne (numsOf s))
    go_enter Tryd.func60, Tryd.ntmps60
    go_wp2_with (go_at_call 83; go_must (refine (HSP.out _).mono ?_; rintro e w1 ⟨ps, rfl, hps, hB, C1⟩))
    have HPS := hid hps
    have HPZ : Hid (∀ x ∈ ps, x.size ≤ 253) := fun x hx => by
      have := HZ.out (numsOf x) (by rw [← hps]; exact List.mem_map.2 ⟨x, hx, rfl⟩)
      rw [numsOf_length, numsOf_length] at this
      omega
    have hpl : 1 ≤ ps.length := by
      rcases Nat.eq_zero_or_pos ps.length with h0 | h0
      · exfalso
        apply HNE.out
        rw [← hps, List.length_eq_zero_iff.1 h0]; rfl
      · exact h0
    have hpm : ps.length ≤ 1000000 := by
      have h5 : (splitD (numsOf s)).length ≤ (numsOf s).length + 1 := by
        have hgen : ∀ l : List Int, (splitD l).length ≤ l.length + 1 := by
          intro l
          induction l with
          | nil => simp [splitD]
          | cons c l ih =>
            unfold splitD
            split
            · simp; omega
            · split
              · rename_i y r hy; rw [hy] at ih; simp at ih ⊢; omega
              · simp
        exact hgen _
      rw [← hps, List.length_map, numsOf_length] at h5
      omega
    clear hps
    obtain ⟨g, hg⟩ : ∃ g, w.heap.size = g := ⟨_, rfl⟩
    rw [hg] at hB ⊢
    have hgl : g < w1.heap.size := hB.lt
    go_loopw [13] (fun i wr => ∃ k : Nat, k ≤ ps.length ∧ i = .int .i64 k ∧ Ch [] w wr ∧ Blk wr g 9 (ps.map Value.string) ∧ Hid (∀ j x, j < k → ps[j]? = some x → labOk (numsOf x) = true)) (fun i _ => ps.length - (intOf i).toNat)
    case atStart => exact ⟨0, Nat.zero_le _, rfl, C1, hB, fun j x hj => absurd hj (by omega)⟩
    case round =>
      clear hB C1
      obtain ⟨k, hk, rfl, C, hB, hall⟩ := hrel
      by_cases hp : k < ps.length
      · obtain ⟨x, hx⟩ : ∃ x, ps[k]? = some x := ⟨_, List.getElem?_eq_getElem hp⟩
        have hc := at_map ps k x hx wr g hB
        have hxs : x.size ≤ 253 := HPZ.out x (List.mem_of_getElem? hx)
        have HX := hid hx
        clear hx
        have HLB := hid (hostLabel x (by omega))
        cases hb : labOk (numsOf x) with
        | true =>
          have HB := hid hb
          clear hb
          go_wp2_with (go_at_call 84; go_must (refine (HLB.out _).mono ?_; rw [HB.out]; rintro e w2 ⟨rfl, C2⟩))
          go_roundw
          case rel =>
            refine ⟨k + 1, by omega, by go_num, C.trans C2, hB.ch C2 (by simp), ?_⟩
            intro j y hj hy
            rcases Nat.lt_or_ge j k with h | h
            · exact hall.out j y h hy
            · obtain rfl : j = k := by omega
              rw [HX.out] at hy
              obtain rfl := Option.some.inj hy
              exact HB.out
          case measure => simp [intOf]; omega
        | false =>
          have HB := hid hb
          clear hb
          go_wp2_with (go_at_call 84; go_must (refine (HLB.out _).mono ?_; rw [HB.out]; rintro e w2 ⟨rfl, C2⟩))
          go_ret
          refine ⟨ret_bool ?_, C.trans C2⟩
          rw [HN.out, ← HPS.out]
          have : (ps.map numsOf).all labOk = false := by
            rw [List.all_eq_false]
            exact ⟨numsOf x, List.mem_map.2 ⟨x, List.mem_of_getElem? HX.out, rfl⟩, by simp [HB.out]⟩
          rw [this]; rfl
      · obtain rfl : k = ps.length := by omega
        obtain ⟨x, hx⟩ : ∃ x, ps[ps.length - 1]? = some x := ⟨_, List.getElem?_eq_getElem (by omega)⟩
        have hc := at_map ps _ x hx wr g hB
        have hxs : x.size ≤ 253 := HPZ.out x (List.mem_of_getElem? hx)
        have hb2 : 1 ≤ (ps.length : Int) ∧ (ps.length : Int) - 1 < ps.length ∧ (ps.length : Int) - 1 = ((ps.length - 1 : Nat) : Int) := by omega
        have HALL : Hid ((splitD (numsOf s)).all labOk = true) := by
          show _ = _
          rw [← HPS.out, List.all_eq_true]
          intro y hy
          obtain ⟨z, hz, rfl⟩ := List.mem_map.1 hy
          obtain ⟨j, hj⟩ := List.mem_iff_getElem?.1 hz
          have hjl : j < ps.length := by
            rcases Nat.lt_or_ge j ps.length with h | h
            · exact h
            · rw [List.getElem?_eq_none h] at hj; cases hj
          exact hall.out j z hjl hj
        have HLA : Hid ((splitD (numsOf s)).getLastD [] = numsOf x) := by
          show _ = _
          have h1 := lastD_eq (splitD (numsOf s)) [] HNE.out
          rw [← HPS.out, List.length_map, List.getElem?_map, hx] at h1
          rw [← HPS.out]
          exact (Option.some.inj h1).symm
        clear hx
        have HT := hid (trimDig x (by omega))
        go_wp2_with (go_at_call 82; go_must (refine (HT.out _).mono ?_; rintro e w2 ⟨⟨t, rfl, ht⟩, C2⟩))
        rcases ht with ⟨h, rfl⟩ | ⟨h, ht⟩
        · have HH := hid h
          clear h
          go_wp2
          go_ret
          exact ⟨ret_bool (by rw [HN.out, HALL.out, HLA.out, HH.out]; simp [ByteArray.toList_eq]), C.trans C2⟩
        · have HH := hid h
          have hte : ¬ t.toList = [] := by intro h0; rw [h0] at ht; simp at ht
          clear h
          go_wp2
          go_ret
          exact ⟨ret_bool (by rw [HN.out, HALL.out, HLA.out, HH.out]; simp [hte]), C.trans C2⟩
  · have HN : namOk (numsOf s) = false := by
      unfold namOk
      rw [numsOf_length]
      simp; omega
    rw [HN]
    clear HN
    go_enter Tryd.func60, Tryd.ntmps60
    go_wp2
    go_ret
    exact ⟨rfl, Ch.refl _ _⟩
end Go.Proofs.YtbmbnibamhgfmaaDoor

/- ginnelref07.ValidName: a name's labels. -/
namespace Go.Proofs.YtbmbnibamhgfmaaDoor
open Go.RowKit

theorem nam_bad (l : List Int) (k : Nat) (x : List Int) (hx : (splitD l)[k]? = some x) (hb : labOk x = false) : namOk l = false := by
  unfold namOk
  have : (splitD l).all labOk = false := by
    rw [List.all_eq_false]
    exact ⟨x, List.mem_of_getElem? hx, by simp [hb]⟩
  rw [this]; simp
theorem nam_dig (l : List Int) (x : List Int) (hx : (splitD l)[(splitD l).length - 1]? = some x) (hd : x.all digOk = true) : namOk l = false := by
  unfold namOk
  have h1 := lastD_eq (splitD l) [] (splitD_ne l)
  rw [hx] at h1
  rw [← Option.some.inj h1, hd]; simp
theorem nam_yes (l : List Int) (hl : l.length ≤ 253) (h : ∀ (j : Nat) (x : List Int), (splitD l)[j]? = some x → labOk x = true) (x : List Int) (hx : (splitD l)[(splitD l).length - 1]? = some x) (hd : x.all digOk = false) : namOk l = true := by
  unfold namOk
  have h1 := lastD_eq (splitD l) [] (splitD_ne l)
  rw [hx] at h1
  have h2 : (splitD l).all labOk = true := by
    rw [List.all_eq_true]
    intro y hy
    obtain ⟨j, hj⟩ := List.mem_iff_getElem?.1 hy
    exact h j y hj
  rw [← Option.some.inj h1, hd, h2]; simp [hl]
theorem all_take {p : Int → Bool} {l : List Int} {k : Nat} (h : k < l.length) : (l.take (k + 1)).all p = ((l.take k).all p && p (at_ l k)) := by
  have h2 : at_ l k = l[k] := by simp [at_, List.getD, List.getElem?_eq_getElem h]
  rw [List.take_succ_eq_append_getElem h, List.all_append, List.all_cons, List.all_nil, Bool.and_true, h2]
theorem all_bad {p : Int → Bool} {l : List Int} {k : Nat} (h : k < l.length) (hb : p (at_ l k) = false) : l.all p = false := by
  rw [List.all_eq_false]
  exact ⟨l[k], List.getElem_mem h, by
    have : at_ l k = l[k] := by simp [at_, List.getD, List.getElem?_eq_getElem h]
    rw [← this, hb]; simp⟩
theorem own_strN {w : World} {B n cp k : Nat} {A : Option Addr} {e : TypeId} {ps : List ByteArray} {g : Nat} {x : ByteArray} (h : Own w B e 1 A n cp (ps.map Value.string)) (hA : A = some ⟨g, 0, none⟩) (hx : ps[k]? = some x) : w.cell? ⟨g, k, none⟩ = some (.string x) := by
  subst hA
  have hlt : k < n := by
    have h1 := h.len
    have h2 := (List.getElem?_eq_some_iff.1 hx).1
    rw [List.length_map] at h1
    omega
  obtain ⟨b, off, e1, _, hc⟩ := h.rd.2 (by omega)
  simp only [Option.some.injEq, Addr.mk.injEq] at e1
  obtain ⟨rfl, rfl, _⟩ := e1
  have := hc k (.string x) (by rw [List.getElem?_map, hx]; rfl)
  rwa [Nat.zero_add] at this
theorem emp_of {s : ByteArray} (h : s.size = 0) : s = ⟨#[]⟩ := str_ext (List.eq_nil_of_length_eq_zero (by rw [Array.length_toList]; exact h))
set_option maxRecDepth 20000 in
set_option maxHeartbeats 4000000 in
theorem refName (s : ByteArray) (hs : s.size ≤ 140737488351232) (w : World) : Calls Tryd.prog 39 #[.string s] w fun e w' => e = .returned (.bool (namOk (numsOf s))) ∧ Ch [] w w' := by
  by_cases h0 : s.size = 0
  · obtain rfl : s = ⟨#[]⟩ := emp_of h0
    have HN : namOk (numsOf ⟨#[]⟩) = false := by decide +kernel
    rw [HN]
    clear HN h0
    go_enter Tryd.func39, Tryd.ntmps39
    go_wp2_with fail
    go_ret
    exact ⟨rfl, Ch.refl _ _⟩
  have hne : s.toList.isEmpty = false := notEmp (by omega)
  by_cases h1 : s.size ≤ 253
  · have h1' : (s.size : Int) ≤ 253 := by omega
    have HSP := hid (refSplit s 46 (by omega))
    have HLN : Hid ((numsOf s).length ≤ 253) := by show _ ≤ _; rw [numsOf_length]; exact h1
    have HZ := hid (pieces_size (numsOf s))
    have HNE := hid (splitD_ne (numsOf s))
    have HLL := hid (splitC_len 46 (numsOf s))
    go_enter Tryd.func39, Tryd.ntmps39
    go_wp2_with (go_at_call 65; go_must (refine (HSP.out _).mono ?_; rintro e w1 ⟨A, cp, ps, rfl, hps, own, C1⟩))
    rw [splitC_46] at hps
    have HPS := hid hps
    have HPZ : Hid (∀ x ∈ ps, x.size ≤ 253) := fun x hx => by
      have := HZ.out (numsOf x) (by rw [← hps]; exact List.mem_map.2 ⟨x, hx, rfl⟩)
      rw [numsOf_length, numsOf_length] at this
      omega
    have hpl : 1 ≤ ps.length := by
      rcases Nat.eq_zero_or_pos ps.length with h0 | h0
      · exfalso
        apply HNE.out
        rw [← hps, List.length_eq_zero_iff.1 h0]; rfl
      · exact h0
    have hpm : ps.length ≤ 254 := by
      have h5 := HLL.out
      rw [splitC_46, ← hps, List.length_map, numsOf_length] at h5
      omega
    clear hps
    obtain ⟨g, rfl, hgw, hgl⟩ := own.form (by omega)
    have HGET (k : Nat) (x : ByteArray) (hx : ps[k]? = some x) : (splitD (numsOf s))[k]? = some (numsOf x) := by rw [← HPS.out, List.getElem?_map, hx]; rfl
    have HGT := hid HGET
    clear HGET
    have HLEN : Hid ((splitD (numsOf s)).length = ps.length) := by show _ = _; rw [← HPS.out, List.length_map]
    go_loopw [4] (fun i wr => ∃ k : Nat, k ≤ ps.length ∧ i = .int .i64 k ∧ Ch [] w wr ∧ Own wr w.heap.size 9 1 (some ⟨g, 0, none⟩) ps.length cp (ps.map Value.string) ∧ Hid (∀ j x, j < k → ps[j]? = some x → labOk (numsOf x) = true) ∧ Hid (k = ps.length → ∀ x, ps[ps.length - 1]? = some x → (numsOf x).all digOk = false)) (fun i _ => ps.length - (intOf i).toNat)
    case atStart => exact ⟨0, Nat.zero_le _, rfl, C1, own, fun j x hj => absurd hj (by omega), fun h => by omega⟩
    case round =>
      clear own C1
      obtain ⟨k, hk, rfl, C, own, hall, hlast⟩ := hrel
      by_cases hp : k < ps.length
      · clear hlast
        obtain ⟨x, hx⟩ : ∃ x, ps[k]? = some x := ⟨_, List.getElem?_eq_getElem hp⟩
        have hc := own_strN own rfl hx
        have hxs : x.size ≤ 253 := HPZ.out x (List.mem_of_getElem? hx)
        have HXG := hid (HGT.out k x hx)
        have HX := hid hx
        clear hx
        by_cases hx0 : x.size = 0
        · have HB : Hid (namOk (numsOf s) = false) := nam_bad _ k _ HXG.out (labOk_def x false (by simp [hx0]) (.inr rfl))
          obtain rfl : x = ⟨#[]⟩ := emp_of hx0
          clear hx0 hxs
          go_wp2_with fail
          go_ret
          exact ⟨ret_bool HB.out.symm, C⟩
        have hxe : x.toList.isEmpty = false := notEmp (by omega)
        by_cases hx63 : x.size ≤ 63
        case neg =>
          have HB : Hid (namOk (numsOf s) = false) := nam_bad _ k _ HXG.out (labOk_def x false (by simp; omega) (.inr rfl))
          have hx63' : (63 : Int) < x.size := by omega
          go_wp2_with fail
          go_ret
          exact ⟨ret_bool HB.out.symm, C⟩
        have hx63' : (x.size : Int) ≤ 63 := by omega
        have hx0' : (0 : Int) < x.size := by omega
        have hp0 : 0 < x.size := by omega
        have hp1 : x.size - 1 < x.size := by omega
        have hpl' : 1 ≤ (x.size : Int) ∧ (x.size : Int) - 1 < x.size := by omega
        have e0 : ((x[0]'hp0).toNat : Int) = byt x 0 := byt_get hp0
        have e1 : ((x[x.size - 1]'hp1).toNat : Int) = byt x (x.size - 1) := byt_get hp1
        by_cases c0 : byt x 0 = 45
        case pos =>
          have HB : Hid (namOk (numsOf s) = false) := nam_bad _ k _ HXG.out (labOk_def x false (by simp [c0]) (.inr rfl))
          rw [c0] at e0
          clear c0
          go_wp2_with fail
          go_ret
          exact ⟨ret_bool HB.out.symm, C⟩
        by_cases c1 : byt x (x.size - 1) = 45
        case pos =>
          have HB : Hid (namOk (numsOf s) = false) := nam_bad _ k _ HXG.out (labOk_def x false (by simp [c1]) (.inr rfl))
          have hnb : (byt x 0 == 45) = false := by simpa using c0
          rw [c1] at e1
          clear c0 c1
          generalize byt x 0 = y0 at e0 hnb
          go_wp2_with fail
          go_ret
          exact ⟨ret_bool HB.out.symm, C⟩
        have HLO : Hid (∀ b, (numsOf x).all chrOk = b → labOk (numsOf x) = b) := fun b hb => labOk_def x _ (by simp [c0, c1, hx63, hb]; omega) (.inl (by omega))
        have hnb : (byt x 0 == 45) = false := by simpa using c0
        have hmb : (byt x (x.size - 1) == 45) = false := by simpa using c1
        clear c0 c1
        generalize byt x 0 = y0 at e0 hnb
        generalize byt x (x.size - 1) = y1 at e1 hmb
        go_wp2_with fail
        go_loopw [6, 7] (fun d q w2 => ∃ (b : Bool) (j : Nat), d = .bool b ∧ q = .int .i64 j ∧ j ≤ x.size ∧ Hid (((numsOf x).take j).all chrOk = true) ∧ Hid (((numsOf x).take j).all digOk = b) ∧ Ch [] w w2 ∧ Own w2 w.heap.size 9 1 (some ⟨g, 0, none⟩) ps.length cp (ps.map Value.string)) (fun _ q _ => x.size - (intOf q).toNat)
        case atStart => exact ⟨true, 0, rfl, rfl, Nat.zero_le _, rfl, rfl, C, own⟩
        case round =>
          rename World => w2
          clear own C hc
          obtain ⟨b, j, rfl, rfl, hj, HC, HD, C, own⟩ := hrel
          by_cases hjx : j < x.size
          · have hcc : ((x[j]'hjx).toNat : Int) = byt x j := byt_get hjx
            have hjl : j < (numsOf x).length := by rw [numsOf_length]; exact hjx
            have HAT : Hid (at_ (numsOf x) j = byt x j) := (byt_at hjx).symm
            have HBAD : Hid (chrOk (byt x j) = false → namOk (numsOf s) = false) := fun h => nam_bad _ k _ HXG.out (HLO.out false (all_bad hjl (by rw [HAT.out]; exact h)))
            have HC2 : Hid (chrOk (byt x j) = true → ((numsOf x).take (j + 1)).all chrOk = true) := fun h => by rw [all_take hjl, HC.out, HAT.out, h]; rfl
            have HD2 : Hid (((numsOf x).take (j + 1)).all digOk = (b && digOk (byt x j))) := by show _ = _; rw [all_take hjl, HD.out, HAT.out]
            clear HAT hjl
            generalize byt x j = c at hcc HBAD HC2 HD2
            rcases (show c < 45 ∨ c = 45 ∨ (45 < c ∧ c < 48) ∨ (48 ≤ c ∧ c ≤ 57) ∨ (57 < c ∧ c < 97) ∨ (97 ≤ c ∧ c ≤ 122) ∨ 122 < c by omega) with h | h | ⟨h, h2⟩ | ⟨h, h2⟩ | ⟨h, h2⟩ | ⟨h, h2⟩ | h
            · have HB : Hid (namOk (numsOf s) = false) := HBAD.out (by simp [chrOk]; omega)
              have n1 : ¬ (97 ≤ c) := by omega
              have n2 : ¬ (48 ≤ c) := by omega
              have n3 : (c == 45) = false := by simp; omega
              go_wp2_with fail
              go_ret
              exact ⟨ret_bool HB.out.symm, C⟩
            · subst h
              have HC3 := hid (HC2.out (by decide))
              have HD3 : Hid (((numsOf x).take (j + 1)).all digOk = false) := by show _ = _; rw [HD2.out]; simp [digOk]
              cases b
              · go_wp2_with fail
                go_roundw
                case rel => exact ⟨false, j + 1, rfl, by go_num, by omega, HC3, HD3, C, own⟩
                case measure => simp [intOf]; omega
              · go_wp2_with fail
                go_roundw
                case rel => exact ⟨false, j + 1, rfl, by go_num, by omega, HC3, HD3, C, own⟩
                case measure => simp [intOf]; omega
            · have HB : Hid (namOk (numsOf s) = false) := HBAD.out (by simp [chrOk]; omega)
              have n1 : ¬ (97 ≤ c) := by omega
              have n2 : ¬ (48 ≤ c) := by omega
              have n3 : (c == 45) = false := by simp; omega
              go_wp2_with fail
              go_ret
              exact ⟨ret_bool HB.out.symm, C⟩
            · have HC3 := hid (HC2.out (by simp [chrOk]; omega))
              have hdig : digOk c = true := by simp [digOk]; omega
              have n1 : ¬ (97 ≤ c) := by omega
              rw [hdig, Bool.and_true] at HD2
              cases b
              · go_wp2_with fail
                go_roundw
                case rel => exact ⟨false, j + 1, rfl, by go_num, by omega, HC3, HD2, C, own⟩
                case measure => simp [intOf]; omega
              · go_wp2_with fail
                go_roundw
                case rel => exact ⟨true, j + 1, rfl, by go_num, by omega, HC3, HD2, C, own⟩
                case measure => simp [intOf]; omega
            · have HB : Hid (namOk (numsOf s) = false) := HBAD.out (by simp [chrOk]; omega)
              have n1 : ¬ (97 ≤ c) := by omega
              have n2 : 48 ≤ c := by omega
              have n4 : ¬ (c ≤ 57) := by omega
              have n3 : (c == 45) = false := by simp; omega
              go_wp2_with fail
              go_ret
              exact ⟨ret_bool HB.out.symm, C⟩
            · have HC3 := hid (HC2.out (by simp [chrOk]; omega))
              have HD3 : Hid (((numsOf x).take (j + 1)).all digOk = false) := by show _ = _; rw [HD2.out]; simp [digOk]; omega
              have n2 : 48 ≤ c := by omega
              have n4 : ¬ (c ≤ 57) := by omega
              cases b
              · go_wp2_with fail
                go_roundw
                case rel => exact ⟨false, j + 1, rfl, by go_num, by omega, HC3, HD3, C, own⟩
                case measure => simp [intOf]; omega
              · go_wp2_with fail
                go_roundw
                case rel => exact ⟨false, j + 1, rfl, by go_num, by omega, HC3, HD3, C, own⟩
                case measure => simp [intOf]; omega
            · have HB : Hid (namOk (numsOf s) = false) := HBAD.out (by simp [chrOk]; omega)
              have n1 : 97 ≤ c := by omega
              have n5 : ¬ (c ≤ 122) := by omega
              have n2 : 48 ≤ c := by omega
              have n4 : ¬ (c ≤ 57) := by omega
              have n3 : (c == 45) = false := by simp; omega
              go_wp2_with fail
              go_ret
              exact ⟨ret_bool HB.out.symm, C⟩
          · obtain rfl : j = x.size := by omega
            have hfull : (numsOf x).take x.size = numsOf x := List.take_of_length_le (by rw [numsOf_length]; exact Nat.le_refl _)
            rw [hfull] at HC HD
            have HL := hid (HLO.out true HC.out)
            have HALL : Hid (∀ i y, i < k + 1 → ps[i]? = some y → labOk (numsOf y) = true) := by
              intro i y hi hy
              rcases Nat.lt_or_ge i k with h | h
              · exact hall.out i y h hy
              · obtain rfl : i = k := by omega
                rw [HX.out] at hy
                obtain rfl := Option.some.inj hy
                exact HL.out
            have hb3 : 1 ≤ (ps.length : Int) := by omega
            cases b
            · have HLA : Hid (k + 1 = ps.length → ∀ y, ps[ps.length - 1]? = some y → (numsOf y).all digOk = false) := by
                intro h y hy
                rw [← h, Nat.add_sub_cancel, HX.out] at hy
                obtain rfl := Option.some.inj hy
                exact HD.out
              go_wp2_with fail
              go_roundw
              case rel => exact ⟨k + 1, by omega, by go_num, C, own, HALL, HLA⟩
              case measure => simp [intOf]; omega
            · by_cases hkl : k + 1 = ps.length
              · have HB : Hid (namOk (numsOf s) = false) := nam_dig _ (numsOf x) (by rw [HLEN.out, ← hkl, Nat.add_sub_cancel]; exact HXG.out) HD.out
                have hke : (k : Int) = ps.length - 1 := by omega
                go_wp2_with fail
                go_ret
                exact ⟨ret_bool HB.out.symm, C⟩
              · have HLA : Hid (k + 1 = ps.length → ∀ y, ps[ps.length - 1]? = some y → (numsOf y).all digOk = false) := fun h => absurd h hkl
                have hke : ((k : Int) == ps.length - 1) = false := by simp; omega
                go_wp2_with fail
                go_roundw
                case rel => exact ⟨k + 1, by omega, by go_num, C, own, HALL, HLA⟩
                case measure => simp [intOf]; omega
      · obtain rfl : k = ps.length := by omega
        have HB : Hid (namOk (numsOf s) = true) := by
          obtain ⟨x, hx⟩ : ∃ x, ps[ps.length - 1]? = some x := ⟨_, List.getElem?_eq_getElem (by omega)⟩
          refine nam_yes _ HLN.out (fun j y hy => ?_) (numsOf x) (by rw [HLEN.out]; exact HGT.out _ _ hx) (hlast.out rfl x hx)
          rw [← HPS.out, List.getElem?_map] at hy
          cases hj : ps[j]? with
          | none => rw [hj] at hy; cases hy
          | some z =>
            rw [hj] at hy
            obtain rfl := Option.some.inj hy
            have hjl : j < ps.length := by
              rcases Nat.lt_or_ge j ps.length with h | h
              · exact h
              · rw [List.getElem?_eq_none h] at hj; cases hj
            exact hall.out j z hjl hj
        go_wp2_with fail
        go_ret
        exact ⟨ret_bool HB.out.symm, C⟩
  · have HN : namOk (numsOf s) = false := by
      unfold namOk
      rw [numsOf_length]
      simp; omega
    have h1' : (253 : Int) < s.size := by omega
    rw [HN]
    clear HN
    go_enter Tryd.func39, Tryd.ntmps39
    go_wp2_with fail
    go_ret
    exact ⟨rfl, Ch.refl _ _⟩
end Go.Proofs.YtbmbnibamhgfmaaDoor

/- host.validName at every string, LabelCount, IsSubdomain; the reference's LabelCount, IsSubdomain. -/
namespace Go.Proofs.YtbmbnibamhgfmaaDoor
open Go.RowKit

def laysCount_ren : Go.Shelf.Ren := ⟨fun | 138 => 61 | 195 => 85 | 218 => 86 | 143 => 81 | 219 => 96 | 217 => 111 | 225 => 112 | 224 => 113 | 267 => 114 | 266 => 122 | 314 => 123 | n => n, fun | 9 => 9 | 3 => 3 | 4 => 4 | 5 => 5 | 0 => 0 | 46 => 77 | 146 => 169 | 51 => 168 | n => n, fun | 1 => 0 | n => n⟩
theorem laysCount : Go.Proofs.LaysM.n138 Tryd.prog laysCount_ren where
  mixed := by kernel_rfl
  f138 := Tryd.func61.trans (congrArg some (by kernel_rfl))
  f143 := Tryd.func81.trans (congrArg some (by kernel_rfl))
  f195 := Tryd.func85.trans (congrArg some (by kernel_rfl))
  f217 := Tryd.func111.trans (congrArg some (by kernel_rfl))
  f218 := Tryd.func86.trans (congrArg some (by kernel_rfl))
  f219 := Tryd.func96.trans (congrArg some (by kernel_rfl))
  f224 := Tryd.func113.trans (congrArg some (by kernel_rfl))
  f225 := Tryd.func112.trans (congrArg some (by kernel_rfl))
  f266 := Tryd.func122.trans (congrArg some (by kernel_rfl))
  f267 := Tryd.func114.trans (congrArg some (by kernel_rfl))
  f314 := Tryd.func123.trans (congrArg some (by kernel_rfl))
  t0 := Tryd.underlying0
  a0 := Tryd.isAgg0
  z0 := Tryd.sizeOf0
  v0 := Tryd.zeroValue0
  t3 := Tryd.underlying3
  a3 := Tryd.isAgg3
  z3 := Tryd.sizeOf3
  v3 := Tryd.zeroValue3
  t4 := Tryd.underlying4
  a4 := Tryd.isAgg4
  z4 := Tryd.sizeOf4
  v4 := Tryd.zeroValue4
  t5 := Tryd.underlying5
  a5 := Tryd.isAgg5
  z5 := Tryd.sizeOf5
  v5 := Tryd.zeroValue5
  t9 := Tryd.underlying9
  a9 := Tryd.isAgg9
  z9 := Tryd.sizeOf9
  v9 := Tryd.zeroValue9
  t46 := Tryd.underlying77
  a46 := Tryd.isAgg77
  z46 := Tryd.sizeOf77
  v46 := Tryd.zeroValue77
  t51 := Tryd.underlying168
  a51 := Tryd.isAgg168
  z51 := Tryd.sizeOf168
  v51 := Tryd.zeroValue168
  t146 := Tryd.underlying169
  a146 := Tryd.isAgg169
  z146 := Tryd.sizeOf169
  v146 := Tryd.zeroValue169
  g1 := by kernel_rfl
  i0 := by kernel_rfl
  i3 := by kernel_rfl
  i4 := by kernel_rfl
  i5 := by kernel_rfl
  i9 := by kernel_rfl
  i46 := by kernel_rfl
  i51 := by kernel_rfl
  i146 := by kernel_rfl
  m1 := by kernel_rfl
  s1_3 := fun w h => Go.Proofs.cell_of_shapedOpen_int (zero := #[.int .i64 0]) (t := 3) h (of_decide_eq_true (by kernel_rfl)) (by kernel_rfl) rfl (by kernel_rfl) (by kernel_rfl) Tryd.underlying3

def laysHasSuf_ren : Go.Shelf.Ren := ⟨fun | 100 => 95 | 207 => 110 | n => n, fun | 9 => 9 | 4 => 4 | 3 => 3 | n => n, fun | n => n⟩
theorem laysHasSuf : Go.Proofs.LaysM.n100 Tryd.prog laysHasSuf_ren where
  mixed := by kernel_rfl
  f100 := Tryd.func95.trans (congrArg some (by kernel_rfl))
  f207 := Tryd.func110.trans (congrArg some (by kernel_rfl))
  t3 := Tryd.underlying3
  a3 := Tryd.isAgg3
  z3 := Tryd.sizeOf3
  v3 := Tryd.zeroValue3
  t4 := Tryd.underlying4
  a4 := Tryd.isAgg4
  z4 := Tryd.sizeOf4
  v4 := Tryd.zeroValue4
  t9 := Tryd.underlying9
  a9 := Tryd.isAgg9
  z9 := Tryd.sizeOf9
  v9 := Tryd.zeroValue9
  i3 := by kernel_rfl
  i4 := by kernel_rfl
  i9 := by kernel_rfl

theorem hostValidA (s : ByteArray) (hs : s.size ≤ 140737488351232) (w : World) : Calls Tryd.prog 60 #[.string s] w fun e w' => e = .returned (.bool (namOk (numsOf s))) ∧ Ch [] w w' := by
  by_cases h : s.size ≤ 253
  · exact hostValid s (by omega) w
  · have hn : namOk (numsOf s) = false := by
      unfold namOk
      rw [numsOf_length]
      simp [h]
    rw [hn]
    have h1 : (s.size : Int) > 253 := by omega
    clear hn h
    go_enter Tryd.func60, Tryd.ntmps60
    go_wp2_with fail
    go_ret
    exact ⟨rfl, Ch.refl _ _⟩
/-- The number of a name's labels; 0 if it is none. -/
def labN (l : List Int) : Nat := if namOk l then (splitD l).length else 0
theorem splitD_count : ∀ l : List Int, (splitD l).length = 1 + l.count 46
  | [] => rfl
  | c :: l => by
    unfold splitD
    split
    · rename_i h
      subst h
      rw [List.length_cons, splitD_count l, List.count_cons_self]
      omega
    · rename_i h
      have hl := splitD_count l
      rw [List.count_cons_of_ne (by simpa using h)]
      split
      · rename_i x r hx
        rw [hx] at hl
        simpa using hl
      · rename_i hx
        exact absurd hx (splitD_ne l)
theorem count_nums (s : ByteArray) : (numsOf s).count 46 = Lib.countByte s.data.toList 46 := by
  unfold numsOf Lib.countByte
  induction s.data.toList with
  | nil => rfl
  | cons b l ih =>
    rw [List.map_cons, List.count_cons, List.count_cons, ih]
    congr 1
    by_cases h : b = 46
    · subst h; rfl
    · rw [if_neg (by simpa using fun e => h ((u8_46 b).2 e)), if_neg (by simpa using h)]
theorem labN_eq (s : ByteArray) : (labN (numsOf s) : Int) = if namOk (numsOf s) then 1 + (Lib.countByte s.data.toList 46 : Int) else 0 := by
  unfold labN
  split
  · rw [splitD_count, count_nums]; omega
  · rfl
theorem countB_le (s : ByteArray) : Lib.countByte s.data.toList 46 ≤ s.size := by
  unfold Lib.countByte
  exact Nat.le_trans List.count_le_length (Nat.le_of_eq (by rw [Array.length_toList]; rfl))
theorem namOk_size {s : ByteArray} (h : namOk (numsOf s) = true) : s.size ≤ 253 := by
  unfold namOk at h
  rw [numsOf_length] at h
  simp only [Bool.and_eq_true, decide_eq_true_eq] at h
  exact h.1.1
theorem hostLabels (s : ByteArray) (hs : s.size ≤ 140737488351232) (w : World) : Calls Tryd.prog 37 #[.string s] w fun e w' => e = .returned (.int .i64 (labN (numsOf s))) ∧ Ch [] w w' := by
  rw [labN_eq]
  have HV := hid (hostValidA s hs)
  have HC : Hid (∀ w, Calls Tryd.prog 61 #[.string s, .string ⟨#[46]⟩] w fun e w' => e = .returned (.int .i64 (Lib.countByte s.data.toList 46)) ∧ w = w') := fun w =>
    (Any.strings_Count_one { laysCount with } s 46 w).mono fun e w' ⟨h1, h2⟩ => ⟨h1, h2.symm⟩
  have hcl := countB_le s
  generalize Lib.countByte s.data.toList 46 = k at HC hcl
  cases hv : namOk (numsOf s)
  · have HV' : Hid (∀ w, Calls Tryd.prog 60 #[.string s] w fun e w' => e = .returned (.bool false) ∧ Ch [] w w') := by rw [← hv]; exact HV.out
    clear HV hv HC
    go_enter Tryd.func37, Tryd.ntmps37
    go_wp2_with (go_at_call 60; (with_reducible refine (HV'.out _).mono ?_); rintro e w1 ⟨rfl, C1⟩)
    go_ret
    exact ⟨rfl, C1⟩
  · have HV' : Hid (∀ w, Calls Tryd.prog 60 #[.string s] w fun e w' => e = .returned (.bool true) ∧ Ch [] w w') := by rw [← hv]; exact HV.out
    clear HV hv
    go_enter Tryd.func37, Tryd.ntmps37
    go_wp2_with (first
      | (go_at_call 60; (with_reducible refine (HV'.out _).mono ?_); rintro e w1 ⟨rfl, C1⟩)
      | (go_at_call 61; (with_reducible refine (HC.out _).mono ?_); rintro e w2 ⟨rfl, rfl⟩))
    go_ret
    exact ⟨rfl, C1⟩
/-- A name is the other, or ends in '.' and the other. -/
def subS (a b : ByteArray) : Bool := namOk (numsOf a) && namOk (numsOf b) && (a.data.toList == b.data.toList || Lib.hasSuffix a.data.toList (46 :: b.data.toList))
theorem toL (a : ByteArray) : a.toList = a.data.toList := ByteArray.toList_eq a
set_option maxHeartbeats 1000000 in
theorem hostSub (a b : ByteArray) (ha : a.size ≤ 140737488351232) (hb : b.size ≤ 140737488351232) (w : World) : Calls Tryd.prog 79 #[.string a, .string b] w fun e w' => e = .returned (.bool (subS a b)) ∧ Ch [] w w' := by
  have HA := hid (hostValidA a ha)
  have HB := hid (hostValidA b hb)
  unfold subS
  cases hva : namOk (numsOf a)
  · rw [hva] at HA
    clear HB hva
    go_enter Tryd.func79, Tryd.ntmps79
    go_wp2_with (first | go_big_skip | (go_at_call 60; (with_reducible refine (HA.out _).mono ?_); rintro e w1 ⟨rfl, C1⟩))
    go_ret
    exact ⟨rfl, C1⟩
  · cases hvb : namOk (numsOf b)
    · rw [hva] at HA
      rw [hvb] at HB
      clear hva hvb
      go_enter Tryd.func79, Tryd.ntmps79
      go_wp2_with (first | go_big_skip | (go_at_call 60; (with_reducible refine (HA.out _).mono ?_); rintro e w1 ⟨rfl, C1⟩) | (go_at_call 60; (with_reducible refine (HB.out _).mono ?_); rintro e w2 ⟨rfl, C2⟩))
      go_ret
      exact ⟨rfl, C1.trans C2⟩
    · have ha2 := namOk_size hva
      have hb2 := namOk_size hvb
      have HS : Hid (∀ t : ByteArray, t.data.toList = 46 :: b.data.toList → ∀ w, Calls Tryd.prog 95 #[.string a, .string t] w fun e w' => e = .returned (.bool (Lib.hasSuffix a.data.toList (46 :: b.data.toList))) ∧ w = w') := fun t ht w => by
        rw [← ht]
        exact (Any.strings_HasSuffix { laysHasSuf with } a t w (by omega)).mono fun e w' ⟨h1, h2⟩ => ⟨h1, h2.symm⟩
      rw [hva] at HA
      rw [hvb] at HB
      cases he : (a.data.toList == b.data.toList)
      · have he2 : (a.toList == b.toList) = false := by rw [toL, toL]; exact he
        clear hva hvb he
        go_enter Tryd.func79, Tryd.ntmps79
        go_wp2_with (first | go_big_skip | (go_at_call 60; (with_reducible refine (HA.out _).mono ?_); rintro e w1 ⟨rfl, C1⟩) | (go_at_call 60; (with_reducible refine (HB.out _).mono ?_); rintro e w2 ⟨rfl, C2⟩) | (go_at_call 95; (with_reducible refine (HS.out _ ?_ _).mono ?_); exact (by simp); rintro e w3 ⟨rfl, rfl⟩))
        go_ret
        exact ⟨by simp, C1.trans C2⟩
      · have he2 : (a.toList == b.toList) = true := by rw [toL, toL]; exact he
        clear hva hvb he HS
        go_enter Tryd.func79, Tryd.ntmps79
        go_wp2_with (first | go_big_skip | (go_at_call 60; (with_reducible refine (HA.out _).mono ?_); rintro e w1 ⟨rfl, C1⟩) | (go_at_call 60; (with_reducible refine (HB.out _).mono ?_); rintro e w2 ⟨rfl, C2⟩))
        go_ret
        exact ⟨rfl, C1.trans C2⟩
theorem suf_no {a b : ByteArray} (h : a.size ≤ b.size) : Lib.hasSuffix a.data.toList (46 :: b.data.toList) = false := by
  rw [Bool.eq_false_iff]
  intro hs
  have := (List.isSuffixOf_iff_suffix.1 hs).length_le
  rw [List.length_cons, Array.length_toList, Array.length_toList] at this
  have h1 : a.data.size ≤ b.data.size := h
  omega
theorem suf_yes {a b : ByteArray} {k : Nat} (h : a.size = k + 1 + b.size) : Lib.hasSuffix a.data.toList (46 :: b.data.toList) = ((a.extract (k + 1) a.size).data.toList == b.data.toList && decide (byt a k = 46)) := by
  have hl : a.data.toList.length = k + 1 + b.data.toList.length := by rw [Array.length_toList, Array.length_toList]; exact h
  have e1 : (a.extract (k + 1) a.size).data.toList = a.data.toList.drop (k + 1) := by
    rw [ByteArray.data_extract, Array.toList_extract, List.extract_eq_take_drop]
    refine List.take_of_length_le ?_
    rw [List.length_drop, Array.length_toList]
    exact Nat.le_refl _
  have e2 : byt a k = 46 ↔ a.data.toList[k]? = some 46 := by
    unfold byt
    have hk : k < a.data.size := by have h1 : a.data.size = k + 1 + b.data.size := h; omega
    rw [Array.getElem?_eq_getElem hk, Array.getElem?_toList, Array.getElem?_eq_getElem hk]
    simp only [Option.getD_some, Option.some.injEq]
    exact (u8_46 _).symm
  rw [e1, Bool.eq_iff_iff, Bool.and_eq_true, beq_iff_eq, decide_eq_true_eq, e2]
  constructor
  · intro hs
    obtain ⟨t, ht⟩ := List.isSuffixOf_iff_suffix.1 hs
    have htl : t.length = k := by
      have := congrArg List.length ht
      rw [List.length_append, List.length_cons, hl] at this
      omega
    rw [← ht]
    refine ⟨?_, ?_⟩
    · rw [show t ++ 46 :: b.data.toList = (t ++ [46]) ++ b.data.toList by simp, List.drop_left' (by simp [htl])]
    · rw [List.getElem?_append_right (by omega), htl, Nat.sub_self]; rfl
  · rintro ⟨h1, h2⟩
    refine List.isSuffixOf_iff_suffix.2 ⟨a.data.toList.take k, ?_⟩
    conv => rhs; rw [← List.take_append_drop k a.data.toList]
    congr 1
    obtain ⟨hk, hk2⟩ := List.getElem?_eq_some_iff.1 h2
    rw [List.drop_eq_getElem_cons hk, hk2, h1]
end Go.Proofs.YtbmbnibamhgfmaaDoor

/- Rules as they lie in memory; acl.ValidRule. -/
namespace Go.Proofs.YtbmbnibamhgfmaaDoor
open Go.RowKit

/-- Allow, Suffix, Prefix, PortMin, PortMax. -/
abbrev Rl := Bool × ByteArray × Pfx × Int × Int
def rulC (r : Rl) : List Value := .bool r.1 :: .string r.2.1 :: (pfxC r.2.2.1 ++ [.int .i64 r.2.2.2.1, .int .i64 r.2.2.2.2])
def zeroP : Pfx := (false, zeros, 0)
def GoodR (r : Rl) : Prop := GoodA r.2.2.1.2.1 ∧ r.2.1.size ≤ 140737488351232
def validR (r : Rl) : Bool := decide (0 ≤ r.2.2.2.1) && decide (r.2.2.2.1 ≤ r.2.2.2.2) && decide (r.2.2.2.2 ≤ 65535) && (if r.2.1.size = 0 then validP r.2.2.1 else namOk (numsOf r.2.1) && decide (r.2.2.1 = zeroP))
theorem rul_len {r : Rl} (h : r.2.2.1.2.1.length = 16) : (rulC r).length = 22 := by
  unfold rulC
  rw [List.length_cons, List.length_cons, List.length_append, pfx_len h]; rfl
theorem rul_info : (Tryd.prog.info? 61).map (·.size) = some 22 := by kernel_rfl
theorem rul_inf {r : Rl} (h : r.2.2.1.2.1.length = 16) : (Tryd.prog.info? 61).map (·.size) = some (rulC r).length := by rw [rul_len h]; exact rul_info
theorem rul_infoZ : (Tryd.prog.info? 61).map (fun i => (i.zero, i.size, i.bytes)) = some (some (Value.agg #[.bool false, .string ⟨#[]⟩, .bool false, .int .u8 0, .int .u8 0, .int .u8 0, .int .u8 0, .int .u8 0, .int .u8 0, .int .u8 0, .int .u8 0, .int .u8 0, .int .u8 0, .int .u8 0, .int .u8 0, .int .u8 0, .int .u8 0, .int .u8 0, .int .u8 0, .int .i64 0, .int .i64 0, .int .i64 0]), 22, 72) := by kernel_rfl
theorem rul_one (r : Rl) : (rulC r).all (·.oneCell') = true := by
  unfold rulC
  rw [List.all_cons, List.all_cons, List.all_append, pfx_one]; rfl
theorem rul_pfx {r : Rl} {j : Nat} {v : Value} (hj : (pfxC r.2.2.1)[j]? = some v) : (rulC r)[2 + j]? = some v := by
  unfold rulC
  rw [Nat.add_comm, List.getElem?_cons_succ, List.getElem?_cons_succ, List.getElem?_append_left (List.getElem?_eq_some_iff.1 hj).1]
  exact hj
theorem rul_lo {r : Rl} (h : r.2.2.1.2.1.length = 16) : (rulC r)[20]? = some (.int .i64 r.2.2.2.1) := by
  unfold rulC
  rw [show (20 : Nat) = 18 + 1 + 1 from rfl, List.getElem?_cons_succ, List.getElem?_cons_succ, List.getElem?_append_right (by rw [pfx_len h]; omega), pfx_len h]
  rfl
theorem rul_hi {r : Rl} (h : r.2.2.1.2.1.length = 16) : (rulC r)[21]? = some (.int .i64 r.2.2.2.2) := by
  unfold rulC
  rw [show (21 : Nat) = 19 + 1 + 1 from rfl, List.getElem?_cons_succ, List.getElem?_cons_succ, List.getElem?_append_right (by rw [pfx_len h]; omega), pfx_len h]
  rfl
theorem pfx_zero (p : Pfx) (h : p.2.1.length = 16) (w : World) : (Op.equalIn 10000 59 (.agg (pfxC p).toArray) (.agg #[.bool false, .int .u8 0, .int .u8 0, .int .u8 0, .int .u8 0, .int .u8 0, .int .u8 0, .int .u8 0, .int .u8 0, .int .u8 0, .int .u8 0, .int .u8 0, .int .u8 0, .int .u8 0, .int .u8 0, .int .u8 0, .int .u8 0, .int .i64 0])).run Tryd.prog w = .ok (decide (p = zeroP)) w := pfx_eqD p zeroP h rfl w
theorem emp0 {s : ByteArray} (h : s.size = 0) : s.toList.isEmpty = true := by
  rw [toL, List.isEmpty_iff]
  exact List.eq_nil_of_length_eq_zero (by rw [Array.length_toList]; exact h)
theorem emp1 {s : ByteArray} (h : s.size ≠ 0) : s.toList.isEmpty = false := by
  rw [toL, List.isEmpty_eq_false_iff]
  intro e
  exact h (by have := congrArg List.length e; rwa [Array.length_toList] at this)
set_option maxRecDepth 100000 in
set_option maxHeartbeats 4000000 in
theorem aclValid (r : Rl) (hg : GoodR r) (w : World) : Calls Tryd.prog 24 #[.agg (rulC r).toArray] w fun e w' => e = .returned (.bool (validR r)) ∧ Ch [] w w' := by
  have B0 : Blk (w.alloc (.cells (rulC r).toArray 61)) w.heap.size 61 (rulC r) := Blk.new w _ _
  have C0 : Ch [] w (w.alloc (.cells (rulC r).toArray 61)) := (Ch.refl _ _).alloc _
  have e1 : (w.alloc (.cells (rulC r).toArray 61)).cell? ⟨w.heap.size, 1, none⟩ = some (.string r.2.1) := B0.cell 1
  have e20 : (w.alloc (.cells (rulC r).toArray 61)).cell? ⟨w.heap.size, 20, none⟩ = some (.int .i64 r.2.2.2.1) := (B0.cell 20).trans (rul_lo hg.1.1)
  have e21 : (w.alloc (.cells (rulC r).toArray 61)).cell? ⟨w.heap.size, 21, none⟩ = some (.int .i64 r.2.2.2.2) := (B0.cell 21).trans (rul_hi hg.1.1)
  have HP : Hid (∀ j v, (pfxC r.2.2.1)[j]? = some v → (rulC r)[2 + j]? = some v) := fun j v hj => rul_pfx hj
  have HIP := hid (pfx_inf (p := r.2.2.1) hg.1.1)
  have HV : Hid (∀ w, Calls Tryd.prog 36 #[.agg (pfxC r.2.2.1).toArray] w fun e w' => e = .returned (.bool (validP r.2.2.1)) ∧ Ch [] w w') := fun w => validPfx r.2.2.1.1 r.2.2.1.2.1 r.2.2.1.2.2 hg.1 w
  have HL := hid (hostLabels r.2.1 hg.2)
  have hq := pfx_zero r.2.2.1 hg.1.1
  have HN : Hid (labN (numsOf r.2.1) = 0 ∧ namOk (numsOf r.2.1) = false ∨ 0 < labN (numsOf r.2.1) ∧ namOk (numsOf r.2.1) = true) := by
    show _ ∨ _
    unfold labN
    cases namOk (numsOf r.2.1)
    · exact .inl ⟨rfl, rfl⟩
    · exact .inr ⟨by rw [if_pos rfl]; exact List.length_pos_iff.2 (splitD_ne _), rfl⟩
  unfold validR
  clear hg
  generalize decide (r.2.2.1 = zeroP) = dz at hq ⊢
  generalize validP r.2.2.1 = vp at HV ⊢
  generalize namOk (numsOf r.2.1) = nm at HN ⊢
  generalize labN (numsOf r.2.1) = ln at HN HL
  generalize rulC r = rc at B0 C0 e1 e20 e21 HP
  generalize pfxC r.2.2.1 = pc at HP HIP HV hq
  generalize r.2.2.2.1 = lo at e20 ⊢
  generalize r.2.2.2.2 = hi at e21 ⊢
  generalize r.2.1 = sx at e1 HL ⊢
  by_cases h1 : lo < 0
  · have d1 : decide (0 ≤ lo) = false := by simpa using h1
    rw [d1]
    simp only [Bool.false_and]
    clear d1
    go_enter Tryd.func24, Tryd.ntmps24
    go_wp2_with go_big_skip
    go_ret
    exact ⟨rfl, C0⟩
  · have d1 : decide (0 ≤ lo) = true := by simpa using h1
    rw [d1]
    by_cases h2 : lo > hi
    · have d2 : decide (lo ≤ hi) = false := by simpa using h2
      rw [d2]
      simp only [Bool.false_and, Bool.and_false]
      clear d1 d2
      go_enter Tryd.func24, Tryd.ntmps24
      go_wp2_with go_big_skip
      go_ret
      exact ⟨rfl, C0⟩
    · have d2 : decide (lo ≤ hi) = true := by simpa using h2
      rw [d2]
      by_cases h3 : hi ≥ 65536
      · have d3 : decide (hi ≤ 65535) = false := by simp; omega
        rw [d3]
        simp only [Bool.false_and, Bool.and_false]
        clear d1 d2 d3
        go_enter Tryd.func24, Tryd.ntmps24
        go_wp2_with go_big_skip
        go_ret
        exact ⟨rfl, C0⟩
      · have d3 : decide (hi ≤ 65535) = true := by simp; omega
        rw [d3]
        clear d1 d2 d3
        by_cases hs : sx.size = 0
        · rw [if_pos hs]
          have he := emp0 hs
          have he2 : sx.toList = [] := List.isEmpty_iff.1 he
          clear hs HN HL hq
          go_enter Tryd.func24, Tryd.ntmps24
          go_wp2_with (first
            | go_big_skip
            | (refine wpList_load_want rfl 59 _ rfl w.heap.size 2 rfl pc _ (B0.rangeMid 2 _ HP.out) Tryd.underlying59 rfl HIP.out ?_)
            | (go_at_call 36; (with_reducible refine (HV.out _).mono ?_); rintro e w1 ⟨rfl, C1⟩))
          go_ret
          exact ⟨rfl, C0.trans C1⟩
        · rw [if_neg hs]
          have he := emp1 hs
          clear hs HV
          rcases HN.out with ⟨rfl, rfl⟩ | ⟨hl, rfl⟩
          · clear HN
            go_enter Tryd.func24, Tryd.ntmps24
            go_wp2_with (first
              | go_big_skip
              | (go_at_call 37; (with_reducible refine (HL.out _).mono ?_); rintro e w1 ⟨rfl, C1⟩))
            go_ret
            exact ⟨rfl, C0.trans C1⟩
          · clear HN
            have hl2 : (ln : Int) > 0 := by omega
            go_enter Tryd.func24, Tryd.ntmps24
            go_wp2_with (first
              | go_big_skip
              | (refine wpList_load_want rfl 59 _ rfl w.heap.size 2 rfl pc _ ((B0.ch C1 (by simp)).rangeMid 2 _ HP.out) Tryd.underlying59 rfl HIP.out ?_)
              | (go_at_call 37; (with_reducible refine (HL.out _).mono ?_); rintro e w1 ⟨rfl, C1⟩))
            go_ret
            exact ⟨by simp, C0.trans C1⟩
end Go.Proofs.YtbmbnibamhgfmaaDoor
