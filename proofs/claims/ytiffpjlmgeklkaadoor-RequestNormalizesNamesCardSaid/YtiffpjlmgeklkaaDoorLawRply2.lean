/- The walks of ReplyTargetRoundTrip and ReplyIsIncremental. -/
import Derived.Test.YtiffpjlmgeklkaaDoorLawRply
import Derived.Test.YtiffpjlmgeklkaaDoorGenT
import Derived.Test.YtiffpjlmgeklkaaDoorArgs
import Derived.Lib.SmallJoins
namespace Go.Proofs.YtiffpjlmgeklkaaDoor
open Go.ChangeShapes Go.WideShapes Go.ChangeAt Go.RowKit

section
variable {H : Type} {enc : TypeId × Value → H} {W : World}
/-- An argument that is a target. -/
theorem Arg.target {v : Value} {d : DataW H} (h : Arg enc Tryd.prog W 26 v d) : ∃ t : Tgt, v = .agg (tgtC t).toArray ∧ GoodT t ∧ t.1.size ≤ 140737488351232 ∧ -9223372036854775808 ≤ t.2.2.2 ∧ t.2.2.2 ≤ 9223372036854775807 := by
  obtain ⟨⟨base, hv⟩, _, _⟩ := id h
  obtain ⟨cs, rfl, hsz⟩ := okWide_struct Tryd.underlying26 hv
  have hcl : Cl enc Tryd.prog W 26 cs.toList := h.cl
  obtain ⟨name, e0, hn⟩ := (hcl.field Tryd.underlying26 0 9 0 1 (by kernel_rfl) (by kernel_rfl)).string Tryd.underlying9
  have f1 := hcl.field Tryd.underlying26 1 24 1 17 (by kernel_rfl) (by kernel_rfl)
  obtain ⟨port, e2, hp⟩ := (hcl.field Tryd.underlying26 2 3 18 1 (by kernel_rfl) (by kernel_rfl)).i64 Tryd.underlying3
  obtain ⟨six, e3⟩ := (f1.field Tryd.underlying24 0 4 0 1 (by kernel_rfl) (by kernel_rfl)).bool Tryd.underlying4
  have g1 := f1.field Tryd.underlying24 1 22 1 16 (by kernel_rfl) (by kernel_rfl)
  have g2 := g1.array Tryd.underlying22
  rw [show Tryd.prog.cellsOf 22 = 16 by kernel_rfl, show Tryd.prog.cellsOf 5 = 1 by kernel_rfl] at g2
  obtain ⟨hl16, hel⟩ := g2
  have key : ∀ i, i < 16 → ∃ z : Int, (((((cs.toList.drop 1).take 17).drop 1).take 16))[i]? = some (.int .u8 z) ∧ 0 ≤ z ∧ z ≤ 255 := by
    intro i hi
    obtain ⟨z, hz, hw⟩ := (hel i hi).int Tryd.underlying5
    refine ⟨z, ?_, bounds_u8 hw⟩
    rw [Nat.mul_one] at hz
    have := congrArg (fun l => l[0]?) hz
    simpa [List.getElem?_take, List.getElem?_drop] using this
  obtain ⟨f, hf⟩ := Go.Deep.choose_lt (α := Int) key
  have hbs : ((((cs.toList.drop 1).take 17).drop 1).take 16) = ((List.range 16).map f).map (Value.int .u8) := by
    apply List.ext_getElem?
    intro i
    rcases Nat.lt_or_ge i 16 with h | h
    · rw [(hf i h).1]; simp [h]
    · rw [List.getElem?_eq_none (by omega), List.getElem?_eq_none (by simp; omega)]
  have hlen : cs.toList.length = 19 := by rw [Array.length_toList, hsz]; kernel_rfl
  have hall : cs.toList = tgtC (name, six, (List.range 16).map f, port) := by
    have s1 : cs.toList = (cs.toList.drop 0).take 1 ++ ((cs.toList.drop 1).take 17 ++ (cs.toList.drop 18).take 1) := by
      rw [List.drop_zero]
      conv => lhs; rw [← List.take_append_drop 1 cs.toList]
      congr 1
      conv => lhs; rw [← List.take_append_drop 17 (cs.toList.drop 1)]
      congr 1
      rw [List.drop_drop, List.take_of_length_le (by rw [List.length_drop]; omega)]
    have s2 : (cs.toList.drop 1).take 17 = (((cs.toList.drop 1).take 17).drop 0).take 1 ++ (((cs.toList.drop 1).take 17).drop 1).take 16 := by
      rw [List.drop_zero]
      conv => lhs; rw [← List.take_append_drop 1 ((cs.toList.drop 1).take 17)]
      congr 1
      rw [List.take_of_length_le (l := ((cs.toList.drop 1).take 17).drop 1) (by rw [List.length_drop, List.length_take, List.length_drop]; omega)]
    rw [s1, s2, e0, e3, hbs, e2]
    rfl
  refine ⟨(name, six, (List.range 16).map f, port), ?_, ⟨by simp, fun x hx => ?_⟩, hn, hp⟩
  · rw [← hall]
  · obtain ⟨i, hi, rfl⟩ := List.mem_map.1 hx
    exact (hf i (by simpa using hi)).2
end

theorem encT_bytes {t : Tgt} (hg : GoodT t) (h : okT t = true) : ∀ x ∈ encT' t, 0 ≤ x ∧ x ≤ 255 := by
  obtain ⟨name, six, bs, port⟩ := t
  simp only [okT, Bool.and_eq_true, decide_eq_true_eq] at h
  obtain ⟨⟨⟨h1, _⟩, h3⟩, h4⟩ := h
  have hb : ∀ x ∈ bs, 0 ≤ x ∧ x ≤ 255 := hg.2
  intro x hx
  unfold encT' headT at hx
  rcases List.mem_append.1 hx with hx | hx
  · split at hx
    · rcases List.mem_cons.1 hx with rfl | hx
      · omega
      · rcases List.mem_cons.1 hx with rfl | hx
        · show (0 : Int) ≤ name.size ∧ (name.size : Int) ≤ 255; omega
        · exact nums_bytes name x hx
    · split at hx
      · rcases List.mem_cons.1 hx with rfl | hx
        · omega
        · exact hb x hx
      · rcases List.mem_cons.1 hx with rfl | hx
        · omega
        · exact hb x (List.mem_of_mem_take hx)
  · simp only [List.mem_cons, List.not_mem_nil, or_false] at hx
    rcases hx with rfl | rfl
    · show 0 ≤ port / 256 ∧ port / 256 ≤ 255; omega
    · show 0 ≤ port % 256 ∧ port % 256 ≤ 255; omega
theorem strOf_bytes (d : List Int) (h : ∀ x ∈ d, 0 ≤ x ∧ x ≤ 255) : numsOf (strOfNums d) = d := by
  unfold numsOf
  rw [strOfNums_data, List.map_map]
  conv => rhs; rw [← List.map_id d]
  apply List.map_congr_left
  intro x hx
  obtain ⟨h0, h1⟩ := h x hx
  obtain ⟨n, rfl⟩ := Int.eq_ofNat_of_zero_le h0
  simp
  omega
theorem nums_app (s t : ByteArray) : numsOf (s ++ t) = numsOf s ++ numsOf t := by unfold numsOf; rw [ByteArray.data_append, Array.toList_append, List.map_append]

set_option maxRecDepth 100000 in
set_option maxHeartbeats 4000000 in
theorem replyTargetRoundTrip_came {H : Type} {enc : TypeId × Value → H} (W : World) (args : Array Value) (ds : List (DataW H)) (_ : laidMetH Tryd.prog Rows.replyTargetRoundTripRow.laid W) (h : Came enc Tryd.prog Tryd.f3 W args ds) :
    Calls Tryd.prog 3 args W fun e W' => e = .returned (.bool true) ∧ Below W.heap.size W W' := by
  obtain ⟨v0, v1, v2, d0, d1, d2, rfl, a0, a1, a2⟩ := h.args3 rfl
  obtain ⟨t, rfl, hg, hns, _⟩ := a0.target
  obtain ⟨n, rfl, hn, hn'⟩ := a1.i64 Tryd.underlying3
  obtain ⟨b, rfl, hbs⟩ := a2.string Tryd.underlying9
  clear h a0 a1 a2
  have h1 := encP t hg (by omega)
  have h2 := encQ t hg (by omega)
  have i1 := tgt_inf hg.1
  generalize encTgt t = o at h1 h2
  have g1 : ∀ w, Calls Tryd.prog 11 #[.agg (tgtC t).toArray] w fun e w' => e = .returned (.tuple #[.string (strOfNums (o.getD [])), .bool o.isSome]) ∧ Ch [] w w' := h1
  have g2 : ∀ w, Calls Tryd.prog 12 #[.agg (tgtC t).toArray] w fun e w' => e = .returned (.tuple #[.string (strOfNums (o.getD [])), .bool o.isSome]) ∧ Ch [] w w' := h2
  generalize strOfNums (o.getD []) = X at g1 g2
  generalize o.isSome = y at g1 g2
  have H1 := hid g1
  have H2 := hid g2
  have I1 := hid i1
  clear h1 h2 g1 g2 i1
  have B0 : Blk (W.alloc (.cells (tgtC t).toArray 26)) W.heap.size 26 (tgtC t) := Blk.new W _ _
  have C0 : Ch [] W (W.alloc (.cells (tgtC t).toArray 26)) := (Ch.refl _ _).alloc _
  generalize tgtC t = cs at H1 H2 I1 B0 C0 ⊢
  have HB : Hid (∀ u : Tgt, GoodT u → okT u = true → backT u = u → ∃ E : ByteArray, E.size ≤ 259 ∧ (∀ w, Calls Tryd.prog 11 #[.agg (tgtC u).toArray] w fun e w' => e = .returned (.tuple #[.string E, .bool true]) ∧ Ch [] w w') ∧ (∀ w, Calls Tryd.prog 14 #[.string (E ++ b)] w fun e w' => e = .returned (.tuple #[.agg (tgtC u).toArray, .int .i64 E.size, .int .i64 1]) ∧ Ch [] w w')) := by
    intro u hu ok hback
    have hns2 : u.1.size ≤ 255 := by
      simp only [okT, Bool.and_eq_true, decide_eq_true_eq] at ok
      exact ok.1.1.1
    have q1 := encP u hu (by omega)
    rw [encT_some ok rfl] at q1
    have hE : (strOfNums (encT' u)).size = (encT' u).length := strOf_size _
    have hle := encT_len hu ok
    refine ⟨strOfNums (encT' u), by omega, q1, fun w => ?_⟩
    have q2 := parseTP (strOfNums (encT' u) ++ b) (by rw [ByteArray.size_append]; omega) w
    rw [nums_app, strOf_bytes _ (encT_bytes hu ok), parse_enc u hu ok, hback] at q2
    rw [hE]
    exact q2
  go_enter Tryd.func3, Tryd.ntmps3
  go_wp2_with (first
    | (refine wpList_loadB rfl 26 _ rfl W.heap.size 26 cs _ rfl B0 Tryd.underlying26 rfl I1.out ?_)
    | (refine wpList_loadB rfl 26 _ rfl W.heap.size 26 cs _ rfl B1 Tryd.underlying26 rfl I1.out ?_)
    | (refine wpList_loadB rfl 26 _ rfl w3.heap.size 26 (tgtC u) _ rfl B4 Tryd.underlying26 rfl I2.out ?_)
    | (refine wpList_load_want rfl 26 _ rfl w6.heap.size 0 rfl (tgtC u) _ B8.range Tryd.underlying26 rfl I2.out ?_)
    | (refine wpList_load_want rfl 26 _ rfl w3.heap.size 0 rfl (tgtC u) _ B4d.range Tryd.underlying26 rfl I2.out ?_)
    | (refine wpList_storeB rfl 26 _ _ rfl w6.heap.size 26 (tgtC tgt0) (tgtC u) rfl rfl (Blk.new _ _ _) I2.out ((tgt_len (t := tgt0) rfl).trans (tgt_len lu).symm) (tgt_one _) ?_; intro w7 B7 K7 Z7; have C7 := ((C5.trans C6).alloc _).step K7 (fun i hi => .inr (by simp at hi; omega)); have B4c := (B4b.alloc _).ch K7 (by simp; omega))
    | (refine wpList_storeB rfl 26 _ _ rfl w3.heap.size 26 (tgtC tgt0) (tgtC u) rfl rfl (Blk.new _ _ _) I2.out ((tgt_len (t := tgt0) rfl).trans (tgt_len lu).symm) (tgt_one _) ?_; intro w4 B4 K4 Z4; have C4 := ((C2.trans C3).alloc _).step K4 (fun i hi => .inr (by simp at hi; omega)))
    | (go_at_call 15; (with_reducible refine (awake18 _).mono ?_); rintro e w8 ⟨rfl, C8⟩; have B8 := B7.ch C8 (by simp); have B4d := B4c.ch C8 (by simp))
    | (go_at_call 14; (with_reducible refine (E3.out _).mono ?_); rintro e w6 ⟨rfl, C6⟩; have B4b := (B4.ch C4b (by simp)).ch C6 (by simp); have lt6 := B4b.lt; have z6 := (C5.trans C6).size)
    | (go_at_call 11; (with_reducible refine (E2.out _).mono ?_); rintro e w5 ⟨rfl, C4b⟩; have C5 := C4.trans C4b)
    | (go_at_call 13; (with_reducible refine (genTarget _ _).mono ?_); rintro e w3 ⟨⟨u, rfl, hu, hok, hback⟩, C3⟩; obtain ⟨E, hEs, q2, q3⟩ := HB.out u hu hok hback; have E2 := hid q2; have E3 := hid q3; have I2 := hid (tgt_inf hu.1); have lu := hu.1; have eqs := fun w => tgt_same u hu.1 w; clear q2 q3 hok hback hu; have z3 := (C2.trans C3).size; have m1 : E.size + b.size ≤ maxLen := (by unfold maxLen; omega))
    | (go_at_call 12; (with_reducible refine (H2.out _).mono ?_); rintro e w2 ⟨rfl, C1b⟩; have C2 := C1.trans C1b)
    | (go_at_call 11; (with_reducible refine (H1.out _).mono ?_); rintro e w1 ⟨rfl, C1a⟩; have C1 := C0.trans C1a; have B1 := B0.ch C1a (by simp)))
  go_ret
  exact ⟨rfl, (C7.trans C8).nil_below⟩
end Go.Proofs.YtiffpjlmgeklkaaDoor
