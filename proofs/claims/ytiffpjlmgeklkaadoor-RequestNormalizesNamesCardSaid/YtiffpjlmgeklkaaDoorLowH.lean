/- '[]byte(s)' written in place; host.lower. -/
import Derived.Test.YtiffpjlmgeklkaaDoorName
import Derived.BigQuiet
namespace Go.Proofs.YtiffpjlmgeklkaaDoor
open Go.RowKit

/-- A block whose first cells are bytes; the run-time's mark lies behind them. -/
def BRow (w : World) (g : Nat) (e : TypeId) (xs : List Int) : Prop := ∃ (arr : Array Value) (k : Nat), w.heap[g]? = some (.cells arr e (k, k + 1)) ∧ xs.length ≤ k ∧ xs.length ≤ arr.size ∧ ∀ i, (h : i < xs.length) → arr[i]? = some (.int .u8 (at_ xs i))
section
variable {w w' : World} {g : Nat} {e : TypeId} {xs : List Int} {S : List Nat}
theorem BRow.lt (h : BRow w g e xs) : g < w.heap.size := by
  obtain ⟨arr, k, h, _⟩ := h
  rcases Nat.lt_or_ge g w.heap.size with hlt | hge
  · exact hlt
  · rw [Array.getElem?_eq_none hge] at h; cases h
theorem BRow.cell (h : BRow w g e xs) {i : Nat} (hi : i < xs.length) : w.cell? ⟨g, i, none⟩ = some (.int .u8 (at_ xs i)) := by
  obtain ⟨arr, k, h, _, _, hc⟩ := h
  simp [World.cell?, h, hc i hi]
theorem BRow.frozen (h : BRow w g e xs) {i : Nat} (hi : i < xs.length) : w.frozen? ⟨g, i, none⟩ = false := by
  obtain ⟨arr, k, h, h1, _⟩ := h
  simp [World.frozen?, h]
  omega
theorem BRow.ch (h : BRow w g e xs) (hc : Ch S w w') (hn : g ∉ S) : BRow w' g e xs := by
  have hl := h.lt
  obtain ⟨arr, k, h, r⟩ := h
  exact ⟨arr, k, (hc.block g hl hn).trans h, r⟩
theorem BRow.set (h : BRow w g e xs) {i : Nat} (hi : i < xs.length) (v : Int) : BRow (w.setCell ⟨g, i, none⟩ (.int .u8 v)) g e (xs.set i v) := by
  obtain ⟨arr, k, h, h1, h2, h3⟩ := h
  refine ⟨arr.set! i (.int .u8 v), k, ?_, by rw [List.length_set]; exact h1, by rw [List.length_set]; simpa using h2, fun j hj => ?_⟩
  · simp [World.setCell, Array.getElem?_modify, h]
  · rw [List.length_set] at hj
    have hj2 : j < arr.size := by omega
    have hi2 : i < arr.size := by omega
    by_cases e : i = j
    · subst e
      simp [at_, List.getD, hi, hi2, Array.set!]
    · have := h3 j hj
      simp only [Array.set!, Array.getElem?_setIfInBounds, if_neg e, this]
      simp [at_, List.getD, e]
theorem BRow.rd (h : BRow w g e xs) : RdI .u8 w w.heap.size (some ⟨g, 0, none⟩) xs.length xs := by
  refine ⟨rfl, fun _ => ⟨g, 0, rfl, h.lt, fun i hi => ?_⟩⟩
  rw [Nat.zero_add]
  exact h.cell hi
end
section
variable {P : Program} {w : World} {ops : Array Oper} {rest : List Oper} {o : Oper} {a : Act} {Q : Exit → Act → World → Prop}
theorem wpList_bytesRow (hgd : o.guard = none) (src dst e : TypeId) (x : Operand) (ho : o.op = .convert src dst x) (hs : P.underlying src = some .string) (hd : P.underlying dst = some (.slice e)) (he : P.underlying e = some (.int .u8))
    (s : ByteArray) (hx : a.eval x = .string s) (hm : s.size ≤ maxLen)
    (h : ∀ c w', s.size ≤ c → c ≤ maxLen → BRow w' w.heap.size e (numsOf s) → Ch [] w w' → w'.heap.size = w.heap.size + 1 → wpList P ops Q rest (a.put o.dst (.slice (some ⟨w.heap.size, 0, none⟩) s.size c)) w') :
    wpList P ops Q (o :: rest) a w :=
  wpList_plain hgd fun K hK => by
    unfold Oper.wp execOp
    simp only [ho, Sem.run_bind, hx, run_bytes_of_string w src dst e s hs hd he, Result.andThen_ok]
    have hsz : (bytesRow s (grownCap w s.size 0 e)).size = s.size + (grownCap w s.size 0 e - s.size) := by
      unfold bytesRow
      rw [Array.size_append, Array.size_map, Array.size_replicate]; rfl
    refine hK _ _ (h _ _ (grownCap_ge ..) (grownCap_le_maxLen _ _ _ _ hm) ⟨bytesRow s (grownCap w s.size 0 e), (bytesRow s (grownCap w s.size 0 e)).size, ?_, by rw [numsOf_length, hsz]; omega, by rw [numsOf_length, hsz]; omega, fun i hi => ?_⟩ ((Ch.refl _ _).drew.alloc _) (by simp))
    · exact heap_alloc_new w.drew (.cells (bytesRow s (grownCap w s.size 0 e)) e ((bytesRow s (grownCap w s.size 0 e)).size, (bytesRow s (grownCap w s.size 0 e)).size + 1))
    · rw [numsOf_length] at hi
      have hi' : i < s.data.size := hi
      rw [numsOf_at s i hi']
      exact bytesRow_at s (grownCap w s.size 0 e) i hi'
end

def lw (x : Int) : Int := if 65 ≤ x ∧ x ≤ 90 then x + 32 else x
theorem lw_up {x : Int} (h : 65 ≤ x ∧ x ≤ 90) : lw x = x + 32 := if_pos h
theorem lw_no {x : Int} (h : ¬ (65 ≤ x ∧ x ≤ 90)) : lw x = x := if_neg h
def lowS (s : ByteArray) : ByteArray := strOfNums ((numsOf s).map lw)
theorem lw_byte {x : Int} (h : 0 ≤ x ∧ x ≤ 255) : 0 ≤ lw x ∧ lw x ≤ 255 := by unfold lw; split <;> omega
set_option maxHeartbeats 2000000 in
theorem lowP (s : ByteArray) (hm : s.size ≤ 1500000) (w : World) : Calls Tryd.prog 42 #[.string s] w fun e w' => e = .returned (.string (lowS s)) ∧ Ch [] w w' := by
  go_enter Tryd.func42, Tryd.ntmps42
  go_wp2_with (refine wpList_bytesRow rfl 9 34 5 _ rfl Tryd.underlying9 Tryd.underlying34 Tryd.underlying5 s rfl (by unfold maxLen; omega) ?_; intro c w1 hc1 hc2 hr C1 hz)
  obtain ⟨g, hg⟩ : ∃ g, w.heap.size = g := ⟨_, rfl⟩
  rw [hg] at hr ⊢
  go_loopw [10] (fun i wr => ∃ (k : Nat) (zs : List Int), i = .int .i64 k ∧ k ≤ s.size ∧ BRow wr g 5 zs ∧ zs.length = s.size ∧ Hid (zs = ((numsOf s).take k).map lw ++ (numsOf s).drop k) ∧ Ch [] w wr) (fun i _ => s.size - (intOf i).toNat)
  case atStart => exact ⟨0, numsOf s, rfl, Nat.zero_le _, hr, numsOf_length s, by show _ = _; simp, C1⟩
  case round =>
    clear hr
    obtain ⟨k, zs, rfl, hk, hr, hl, hZ, CC⟩ := hrel
    by_cases hp : k < s.size
    · have hkz : k < zs.length := by omega
      have hc := hr.cell hkz
      have hf := hr.frozen hkz
      have hat : at_ zs k = at_ (numsOf s) k := by
        rw [hZ.out]
        have h1 : (((numsOf s).take k).map lw).length = k := by rw [List.length_map, List.length_take, numsOf_length]; omega
        simp only [at_, List.getD]
        rw [List.getElem?_append_right (by omega), h1, Nat.sub_self, List.getElem?_drop, Nat.add_zero]
      have hrng : 0 ≤ at_ (numsOf s) k ∧ at_ (numsOf s) k ≤ 255 := by rw [← byt_at (by omega)]; exact byt_rng s k
      have hgo (y : Int) (hy : y = lw (at_ (numsOf s) k)) : zs.set k y = ((numsOf s).take (k + 1)).map lw ++ (numsOf s).drop (k + 1) := by
        have hlt : k < (numsOf s).length := by rw [numsOf_length]; omega
        have h1 : (((numsOf s).take k).map lw).length = k := by rw [List.length_map, List.length_take, numsOf_length]; omega
        rw [hZ.out, List.set_append_right _ _ (by omega), h1, Nat.sub_self, List.drop_eq_getElem_cons hlt, List.set_cons_zero, hy, List.take_succ_eq_append_getElem hlt, List.map_append, List.append_assoc]
        simp [at_, List.getD, List.getElem?_eq_getElem hlt]
      have HGO := hid hgo
      clear hgo
      have hstay : zs.set k (at_ (numsOf s) k) = zs := by
        rw [← hat]
        apply List.ext_getElem?
        intro j
        rw [List.getElem?_set]
        split
        · rename_i e; subst e; simp [at_, List.getD, List.getElem?_eq_getElem hkz]
        · rfl
      have HST := hid hstay
      clear hstay
      rw [hat] at hc
      clear hat
      have hglt := hr.lt
      generalize at_ (numsOf s) k = x at hc hrng HGO HST
      by_cases hx : 65 ≤ x ∧ x ≤ 90
      · have HL := hid (lw_up hx)
        obtain ⟨hx1, hx2⟩ := hx
        go_wp2_with fail
        go_roundw
        case rel => exact ⟨k + 1, zs.set k (x + 32), by go_num, by omega, by (have e : x - 65 + 97 = x + 32 := by omega); rw [e]; exact hr.set hkz _, by rw [List.length_set]; exact hl, HGO.out _ HL.out.symm, CC.setCell (p := ⟨g, k, none⟩) (.inr (by show _ ≤ g; omega)) _⟩
        case measure => simp [intOf]; omega
      · have HL := hid (lw_no hx)
        rcases (show x < 65 ∨ 65 ≤ x ∧ ¬ x ≤ 90 by omega) with hx1 | ⟨hx1, hx2⟩
        · clear hx
          go_wp2_with fail
          go_roundw
          case rel => exact ⟨k + 1, zs, by go_num, by omega, hr, hl, by show _ = _; rw [← HGO.out x HL.out.symm]; exact HST.out.symm, CC⟩
          case measure => simp [intOf]; omega
        · clear hx
          go_wp2_with fail
          go_roundw
          case rel => exact ⟨k + 1, zs, by go_num, by omega, hr, hl, by show _ = _; rw [← HGO.out x HL.out.symm]; exact HST.out.symm, CC⟩
          case measure => simp [intOf]; omega
    · obtain rfl : k = s.size := by omega
      have hz2 := hZ.out
      rw [List.drop_eq_nil_of_le (by rw [numsOf_length]; exact Nat.le_refl _), List.append_nil, List.take_of_length_le (by rw [numsOf_length]; exact Nat.le_refl _)] at hz2
      have hrd := hr.rd
      rw [hl] at hrd
      have HZ := hid hz2
      clear hz2 hZ
      go_wp2_with (refine wpList_strOf rfl 34 9 5 _ rfl Tryd.underlying34 Tryd.underlying5 Tryd.underlying9 _ s.size c wr.heap.size zs rfl hrd ?_)
      go_ret
      exact ⟨by rw [HZ.out]; rfl, CC⟩

end Go.Proofs.YtiffpjlmgeklkaaDoor
