/- host.ParseName. -/
import Derived.Test.YtiffpjlmgeklkaaDoorHost2
namespace Go.Proofs.YtiffpjlmgeklkaaDoor
open Go.RowKit

/-- A name in its canonical form, as numbers: in lower case, without a trailing dot. -/
def canN (l : List Int) : List Int := if 0 < l.length ∧ at_ l (l.length - 1) = 46 then (l.take (l.length - 1)).map lw else l.map lw
def canS (s : ByteArray) : ByteArray := strOfNums (canN (numsOf s))
theorem lw_46 (x : Int) : lw x = 46 ↔ x = 46 := by unfold lw; split <;> omega
theorem strOf_nums' (l : List Int) (h : ∀ x ∈ l, 0 ≤ x ∧ x ≤ 255) : numsOf (strOfNums l) = l := by
  unfold numsOf
  rw [strOfNums_data, List.map_map]
  conv => rhs; rw [← List.map_id l]
  apply List.map_congr_left
  intro x hx
  obtain ⟨h0, h1⟩ := h x hx
  obtain ⟨n, rfl⟩ := Int.eq_ofNat_of_zero_le h0
  simp
  omega
theorem nums_lowS (s : ByteArray) : numsOf (lowS s) = (numsOf s).map lw := strOf_nums' _ (fun x hx => by
  obtain ⟨y, hy, rfl⟩ := List.mem_map.1 hx
  exact lw_byte (nums_bytes s y hy))
theorem canN_bytes (s : ByteArray) : ∀ x ∈ canN (numsOf s), 0 ≤ x ∧ x ≤ 255 := by
  intro x hx
  unfold canN at hx
  split at hx
  · obtain ⟨y, hy, rfl⟩ := List.mem_map.1 hx
    exact lw_byte (nums_bytes s y (List.mem_of_mem_take hy))
  · obtain ⟨y, hy, rfl⟩ := List.mem_map.1 hx
    exact lw_byte (nums_bytes s y hy)
theorem nums_canS (s : ByteArray) : numsOf (canS s) = canN (numsOf s) := strOf_nums' _ (canN_bytes s)
theorem canN_len (l : List Int) : (canN l).length ≤ l.length := by
  unfold canN
  split
  · rw [List.length_map, List.length_take]; omega
  · rw [List.length_map]; omega
theorem canS_size (s : ByteArray) : (canS s).size ≤ s.size := by
  unfold canS
  rw [strOf_size]
  have := canN_len (numsOf s)
  rw [numsOf_length] at this
  exact this
theorem nums_inj' {s t : ByteArray} (h : numsOf s = numsOf t) : s = t := by rw [← strOf_nums s, ← strOf_nums t, h]
theorem trimSuf_one (L : List UInt8) (c : UInt8) : Lib.trimSuffix L [c] = if L.getLast? = some c then L.take (L.length - 1) else L := by
  unfold Lib.trimSuffix Lib.hasSuffix
  rcases List.eq_nil_or_concat L with rfl | ⟨M, b, rfl⟩
  · rfl
  · by_cases h : b = c
    · subst h
      have : [b].isSuffixOf (M ++ [b]) = true := List.isSuffixOf_iff_suffix.2 ⟨M, rfl⟩
      rw [List.concat_eq_append, this]
      simp
    · have : [c].isSuffixOf (M ++ [b]) = false := by
        cases hx : [c].isSuffixOf (M ++ [b]) with
        | false => rfl
        | true =>
          obtain ⟨N, hN⟩ := List.isSuffixOf_iff_suffix.1 hx
          have h2 := congrArg List.getLast? hN
          simp at h2
          exact absurd h2.symm h
      rw [List.concat_eq_append, this]
      simp [h]
theorem suf_can (s : ByteArray) : (⟨(Lib.trimSuffix (lowS s).data.toList [46]).toArray⟩ : ByteArray) = canS s := by
  apply nums_inj'
  rw [nums_canS, trimSuf_one]
  have hl := nums_lowS s
  unfold numsOf at hl ⊢
  have hlast := congrArg List.getLast? hl
  rw [List.getLast?_map, List.getLast?_map] at hlast
  unfold canN
  have hlen := congrArg List.length hl
  simp only [List.length_map] at hlen
  have hat (h0 : 0 < (s.data.toList.map (fun b => (b.toNat : Int))).length) : (s.data.toList.map (fun b => (b.toNat : Int))).getLast? = some (at_ (s.data.toList.map (fun b => (b.toNat : Int))) ((s.data.toList.map (fun b => (b.toNat : Int))).length - 1)) := by
    rw [List.getLast?_eq_getElem?]
    simp only [at_, List.getD]
    rw [List.getElem?_eq_getElem (by omega)]
    rfl
  generalize (lowS s).data.toList = L at *
  generalize (s.data.toList.map (fun b => (b.toNat : Int))) = N at *
  by_cases h0 : 0 < N.length
  · have h1 := hat h0
    rw [h1] at hlast
    simp only [Option.map_some] at hlast
    cases hL : L.getLast? with
    | none => rw [hL] at hlast; cases hlast
    | some b =>
      rw [hL] at hlast
      simp only [Option.map_some, Option.some.injEq] at hlast
      by_cases h2 : at_ N (N.length - 1) = 46
      · have hb : b = 46 := (u8_46 b).2 (by rw [hlast]; exact (lw_46 _).2 h2)
        have hln : L.length = N.length := by have := congrArg List.length hl; simpa using this
        rw [if_pos (show some b = some 46 by rw [hb]), if_pos ⟨h0, h2⟩]
        show List.map _ (List.take _ L) = _
        rw [List.map_take, hl, hln, List.map_take]
      · have hb : ¬ (some b = some (46 : UInt8)) := by
          intro hb
          have hb := Option.some.inj hb
          exact h2 ((lw_46 _).1 (hlast.symm.trans ((u8_46 b).1 hb)))
        rw [if_neg hb, if_neg (fun h => h2 h.2)]
        exact hl
  · have hN : N = [] := List.length_eq_zero_iff.1 (by omega)
    subst hN
    have hL : L = [] := by simpa using hl
    subst hL
    simp

theorem hostParse (s : ByteArray) (hs : s.size ≤ 1000000) (w : World) : Calls Tryd.prog 36 #[.string s] w fun e w' => e = .returned (.tuple #[.string (if namOk (numsOf (canS s)) = true then canS s else ⟨#[]⟩), .bool (namOk (numsOf (canS s)))]) ∧ Ch [] w w' := by
  have h1 := lowP s (by omega)
  have hsz : (lowS s).size = s.size := by unfold lowS; rw [strOf_size, List.length_map, numsOf_length]
  have h2 : ∀ w, Calls Tryd.prog 41 #[.string (lowS s), .string ⟨#[46]⟩] w fun e w' => e = .returned (.string (canS s)) ∧ w = w' := fun w => by have := trimSuf (lowS s) (by omega) w; rwa [suf_can] at this
  have h3 := hostValid (canS s) (by have := canS_size s; omega)
  have h2s := canS_size s
  generalize lowS s = L at *
  generalize canS s = C at *
  generalize namOk (numsOf C) = b at *
  cases b
  all_goals
    go_enter Tryd.func36, Tryd.ntmps36
    go_wp2_with (first
      | (go_at_call 42; (with_reducible refine (h1 _).mono ?_); rintro e w1 ⟨rfl, C1⟩)
      | (go_at_call 41; (with_reducible refine (h2 _).mono ?_); rintro e w2 ⟨rfl, rfl⟩)
      | (go_at_call 43; (with_reducible refine (h3 _).mono ?_); rintro e w3 ⟨rfl, C3⟩))
    go_ret2
    exact ⟨rfl, C1.trans C3⟩
end Go.Proofs.YtiffpjlmgeklkaaDoor
