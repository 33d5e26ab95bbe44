/- Tenants: the tuple, validT, an entry in memory, tenant.newEntry (printed by mk_ten.py). -/
import Derived.Test.YtbmbnibamhgfmaaDoorMH
import Derived.Test.YtbmbnibamhgfmaaDoorBudget
import Derived.Shelf.Strings.Search3
namespace Go.Proofs.YtbmbnibamhgfmaaDoor
open Go.RowKit

def laysContains_ren : Go.Shelf.Ren := ⟨fun | 144 => 55 | 143 => 81 | 219 => 96 | 217 => 111 | 225 => 112 | 224 => 113 | 267 => 114 | 266 => 122 | 314 => 123 | n => n, fun | 9 => 9 | 4 => 4 | 3 => 3 | 5 => 5 | 46 => 77 | 146 => 169 | 51 => 168 | n => n, fun | 1 => 0 | n => n⟩
theorem laysContains : Go.Proofs.LaysM.n144 Tryd.prog laysContains_ren where
  mixed := by kernel_rfl
  f143 := Tryd.func81.trans (congrArg some (by kernel_rfl))
  f144 := Tryd.func55.trans (congrArg some (by kernel_rfl))
  f217 := Tryd.func111.trans (congrArg some (by kernel_rfl))
  f219 := Tryd.func96.trans (congrArg some (by kernel_rfl))
  f224 := Tryd.func113.trans (congrArg some (by kernel_rfl))
  f225 := Tryd.func112.trans (congrArg some (by kernel_rfl))
  f266 := Tryd.func122.trans (congrArg some (by kernel_rfl))
  f267 := Tryd.func114.trans (congrArg some (by kernel_rfl))
  f314 := Tryd.func123.trans (congrArg some (by kernel_rfl))
  t3 := Tryd.underlying3
  a3 := Tryd.isAgg3
  z3 := Tryd.sizeOf3
  v3 := Tryd.zeroValue3
  t4 := Tryd.underlying4
  a4 := Tryd.isAgg4
  z4 := Tryd.sizeOf4
  v4 := Tryd.zeroValue4
  t5 := Tryd.underlying5
  a5 := Tryd.isAgg5
  z5 := Tryd.sizeOf5
  v5 := Tryd.zeroValue5
  t9 := Tryd.underlying9
  a9 := Tryd.isAgg9
  z9 := Tryd.sizeOf9
  v9 := Tryd.zeroValue9
  t46 := Tryd.underlying77
  a46 := Tryd.isAgg77
  z46 := Tryd.sizeOf77
  v46 := Tryd.zeroValue77
  t51 := Tryd.underlying168
  a51 := Tryd.isAgg168
  z51 := Tryd.sizeOf168
  v51 := Tryd.zeroValue168
  t146 := Tryd.underlying169
  a146 := Tryd.isAgg169
  z146 := Tryd.sizeOf169
  v146 := Tryd.zeroValue169
  g1 := by kernel_rfl
  i3 := by kernel_rfl
  i4 := by kernel_rfl
  i5 := by kernel_rfl
  i9 := by kernel_rfl
  i46 := by kernel_rfl
  i51 := by kernel_rfl
  i146 := by kernel_rfl
  m1 := by kernel_rfl
  s1_3 := fun w h => Go.Proofs.cell_of_shapedOpen_int (zero := #[.int .i64 0]) (t := 3) h (of_decide_eq_true (by kernel_rfl)) (by kernel_rfl) rfl (by kernel_rfl) (by kernel_rfl) Tryd.underlying3

/-- User, password, the rules' slice and its rules, budget, window, the most sessions. -/
structure Tn where
  u : ByteArray
  p : ByteArray
  A : Option Addr
  c : Nat
  L : List Rl
  b : Int
  w : Int
  m : Int
def tnC (t : Tn) : List Value := [.string t.u, .string t.p, .slice t.A t.L.length t.c, .int .i64 t.b, .int .u64 t.w, .int .i64 t.m]
theorem tn_info : (Tryd.prog.info? 47).map (·.size) = some 6 := by kernel_rfl
def credOk (s : ByteArray) : Bool := decide (1 ≤ s.size) && decide (s.size ≤ 255)
def colon (s : ByteArray) : Bool := decide (0 ≤ Lib.indexByte s.data.toList 58)
def validT (t : Tn) : Bool := credOk t.u && !colon t.u && credOk t.p && decide (1 ≤ t.m) && decide (t.m ≤ 64) && decide (t.L.length ≤ 32) && t.L.all validR && decide (0 ≤ t.b) && decide (t.b ≤ 1000) && decide (1 ≤ t.w) && decide (t.w ≤ 1099511627776)
structure GoodTn (t : Tn) : Prop where
  L : ∀ r ∈ t.L, GoodR r
  n : t.L.length ≤ 140737488351232
def entC (t : Tn) (ga gb : Nat) (act : Int) : List Value := [.string t.u, .string t.p, .slice none 0 0, .int .i64 t.b, .int .u64 t.w, .int .i64 t.m, .pointer (some ⟨ga, 0, none⟩), .pointer (some ⟨gb, 0, none⟩), .int .i64 act]
/-- An entry in memory; its blocks are among FF. -/
def EntM (w : World) (g : Nat) (t : Tn) (bd : Bud) (act : Int) (FF : List Nat) : Prop := ∃ (ga gb : Nat) (F : List Nat),
  Blk w g 81 (entC t ga gb act) ∧ AclM w ga t.L F ∧ Blk w gb 137 bd.cells ∧ g ≠ gb ∧ g ∉ F ∧ gb ∉ F ∧ g ∈ FF ∧ gb ∈ FF ∧ (∀ b ∈ F, b ∈ FF) ∧ ∀ b ∈ FF, b < w.heap.size
theorem EntM.ch {w w' : World} {g : Nat} {t : Tn} {bd : Bud} {act : Int} {FF S : List Nat} (h : EntM w g t bd act FF) (hc : Ch S w w') (hS : ∀ b ∈ FF, b ∉ S) : EntM w' g t bd act FF := by
  obtain ⟨ga, gb, F, h1, h2, h3, h4, h5, h6, h7, h8, h9, h10⟩ := h
  exact ⟨ga, gb, F, h1.ch hc (hS _ h7), h2.ch hc (fun b hb => hS _ (h9 b hb)), h3.ch hc (hS _ h8), h4, h5, h6, h7, h8, h9, fun b hb => Nat.lt_of_lt_of_le (h10 b hb) hc.size⟩
def NewRes (t : Tn) (w : World) (e : Ending) (w' : World) : Prop :=
  ((validT t = true ∧ ∃ g, e = .returned (.pointer (some ⟨g, 0, none⟩)) ∧ EntM w' g t ⟨t.b, t.w, 0, 0⟩ 0 (newB w w')) ∨ (validT t = false ∧ e = .returned (.pointer none))) ∧ Ch [] w w'
theorem validCred (s : ByteArray) (hs : s.size ≤ 140737488351232) (w : World) : Calls Tryd.prog 54 #[.string s] w fun e w' => e = .returned (.bool (credOk s)) ∧ w = w' := by
  unfold credOk
  by_cases h1 : 1 ≤ s.size
  · have hi1 : (1 : Int) ≤ s.size := by omega
    by_cases h2 : s.size ≤ 255
    · have hi2 : (s.size : Int) ≤ 255 := by omega
      rw [decide_eq_true h1, decide_eq_true h2]
      go_enter Tryd.func54, Tryd.ntmps54
      go_wp2_with go_big_skip
      go_ret
      exact ⟨rfl, rfl⟩
    · have hi2 : ¬ (s.size : Int) ≤ 255 := by omega
      rw [decide_eq_true h1, decide_eq_false h2]
      go_enter Tryd.func54, Tryd.ntmps54
      go_wp2_with go_big_skip
      go_ret
      exact ⟨rfl, rfl⟩
  · have hi1 : ¬ (1 : Int) ≤ s.size := by omega
    rw [decide_eq_false h1]
    simp only [Bool.false_and]
    go_enter Tryd.func54, Tryd.ntmps54
    go_wp2_with go_big_skip
    go_ret
    exact ⟨rfl, rfl⟩
set_option maxRecDepth 100000 in
set_option maxHeartbeats 8000000 in
theorem newEnt (w : World) (t : Tn) (B : Nat) (hg : GoodTn t) (hu : t.u.size ≤ 140737488351232) (hp : t.p.size ≤ 140737488351232) (hr : Rd w B 22 t.A t.L.length (t.L.flatMap rulC)) (hB : B ≤ w.heap.size) :
    Calls Tryd.prog 31 #[.agg (tnC t).toArray] w (NewRes t w) := by
  have HA1 : Hid (∀ w', Ch [] w w' → Calls Tryd.prog 27 #[.slice t.A t.L.length t.c] w' (AclRes t.L w')) := fun w' c => aclNew w' t.A t.L.length t.c B t.L (hr.ch c hB (by simp)) (Nat.le_trans hB c.size) hg.n hg.L
  have HVU := hid (validCred t.u hu)
  have HVP := hid (validCred t.p hp)
  have HCO : Hid (∀ w, Calls Tryd.prog 55 #[.string t.u, .string ⟨#[58]⟩] w fun e w' => e = .returned (.bool (colon t.u)) ∧ w = w') := fun w => (Any.strings_Contains_one { laysContains with } t.u 58 w).mono fun e w' ⟨h1, h2⟩ => ⟨h1, h2.symm⟩
  obtain ⟨vt, hvt⟩ : ∃ vt, validT t = vt := ⟨_, rfl⟩
  unfold NewRes
  rw [hvt]
  unfold validT at hvt
  have HVT := hid hvt
  clear hvt hg hr hu hp
  obtain ⟨tu, tp, tA, tc, tL, tb, tw, tm⟩ := t
  simp only at HA1 HVU HVP HCO HVT
  have B0 : Blk (w.alloc (.cells #[.string tu, .string tp, .slice tA tL.length tc, .int .i64 tb, .int .u64 tw, .int .i64 tm] 47)) w.heap.size 47 [.string tu, .string tp, .slice tA tL.length tc, .int .i64 tb, .int .u64 tw, .int .i64 tm] := Blk.new w _ _
  have C0 : Ch [] w (w.alloc (.cells #[.string tu, .string tp, .slice tA tL.length tc, .int .i64 tb, .int .u64 tw, .int .i64 tm] 47)) := (Ch.refl _ _).alloc _
  show Calls Tryd.prog 31 #[.agg #[.string tu, .string tp, .slice tA tL.length tc, .int .i64 tb, .int .u64 tw, .int .i64 tm]] w _
  have e0 := B0.cell 0
  have e1 := B0.cell 1
  have e2 := B0.cell 2
  have e5 := B0.cell 5
  generalize hcu : credOk tu = cu at HVU HVT
  generalize hcp : credOk tp = cp at HVP HVT
  generalize hcc : colon tu = cc at HCO HVT
  clear hcu hcp hcc
  cases cu
  · go_enter Tryd.func31, Tryd.ntmps31
    go_wp2_with (first
      | go_big_skip
      | (go_at_call 54; (with_reducible refine (HVU.out _).mono ?_); rintro e w2 ⟨rfl, rfl⟩)
      | (go_at_call 54; (with_reducible refine (HVP.out _).mono ?_); rintro e w2 ⟨rfl, rfl⟩)
      | (go_at_call 55; (with_reducible refine (HCO.out _).mono ?_); rintro e w2 ⟨rfl, rfl⟩))
    go_ret
    exact ⟨.inr ⟨by rw [← HVT.out]; simp, rfl⟩, C0⟩
  · cases cc
    · cases cp
      · go_enter Tryd.func31, Tryd.ntmps31
        go_wp2_with (first
          | go_big_skip
          | (go_at_call 54; (with_reducible refine (HVU.out _).mono ?_); rintro e w2 ⟨rfl, rfl⟩)
          | (go_at_call 54; (with_reducible refine (HVP.out _).mono ?_); rintro e w2 ⟨rfl, rfl⟩)
          | (go_at_call 55; (with_reducible refine (HCO.out _).mono ?_); rintro e w2 ⟨rfl, rfl⟩))
        go_ret
        exact ⟨.inr ⟨by rw [← HVT.out]; simp, rfl⟩, C0⟩
      · by_cases h1 : tm < 1
        · go_enter Tryd.func31, Tryd.ntmps31
          go_wp2_with (first
            | go_big_skip
            | (go_at_call 54; (with_reducible refine (HVU.out _).mono ?_); rintro e w2 ⟨rfl, rfl⟩)
            | (go_at_call 54; (with_reducible refine (HVP.out _).mono ?_); rintro e w2 ⟨rfl, rfl⟩)
            | (go_at_call 55; (with_reducible refine (HCO.out _).mono ?_); rintro e w2 ⟨rfl, rfl⟩))
          go_ret
          exact ⟨.inr ⟨by rw [← HVT.out]; simp; omega, rfl⟩, C0⟩
        · by_cases h2 : tm > 64
          · go_enter Tryd.func31, Tryd.ntmps31
            go_wp2_with (first
              | go_big_skip
              | (go_at_call 54; (with_reducible refine (HVU.out _).mono ?_); rintro e w2 ⟨rfl, rfl⟩)
              | (go_at_call 54; (with_reducible refine (HVP.out _).mono ?_); rintro e w2 ⟨rfl, rfl⟩)
              | (go_at_call 55; (with_reducible refine (HCO.out _).mono ?_); rintro e w2 ⟨rfl, rfl⟩))
            go_ret
            exact ⟨.inr ⟨by rw [← HVT.out]; simp; omega, rfl⟩, C0⟩
          · by_cases hL : tL.length ≤ 32 ∧ tL.all validR = true
            · have HAC : Hid (∀ w', Ch [] w w' → Calls Tryd.prog 27 #[.slice tA tL.length tc] w' fun e w'' => ∃ g, e = .returned (.tuple #[.pointer (some ⟨g, 0, none⟩), .int .i64 0]) ∧ AclM w'' g tL (newB w' w'') ∧ Ch [] w' w'') := fun w' c => (HA1.out w' c).mono fun e w'' h => by
                rcases h.1 with ⟨_, g, he, hm⟩ | ⟨hb, _⟩
                · exact ⟨g, he, hm, h.2⟩
                · exact absurd hL hb
              obtain ⟨hL1, hL2⟩ := hL
              have HL1 := hid hL1
              have HL2 := hid hL2
              clear hL1 hL2 HA1
              by_cases hb : tb < 0 ∨ 1000 < tb ∨ tw < 1 ∨ 1099511627776 < tw
              · have HBU := hid (fun w => budNew_bad tb tw w hb)
                have HNB : Hid (vt = false) := by
                  show vt = false
                  rw [← HVT.out, HL2.out]
                  rcases hb with h | h | h | h
                  · simp; omega
                  · simp; omega
                  · simp; omega
                  · simp; omega
                clear hb
                go_enter Tryd.func31, Tryd.ntmps31
                go_wp2_with (first
                  | go_big_skip
                  | (go_at_call 54; (with_reducible refine (HVU.out _).mono ?_); rintro e w2 ⟨rfl, rfl⟩)
                  | (go_at_call 54; (with_reducible refine (HVP.out _).mono ?_); rintro e w2 ⟨rfl, rfl⟩)
                  | (go_at_call 55; (with_reducible refine (HCO.out _).mono ?_); rintro e w2 ⟨rfl, rfl⟩)
                  | (go_at_call 27; (with_reducible refine (HAC.out _ C0).mono ?_); rintro e w1 ⟨ga, rfl, M, C1⟩; have B1 := B0.ch C1 (by simp); have e3 := B1.cell 3; have e4 := B1.cell 4)
                  | (go_at_call 56; (with_reducible refine (HBU.out _).mono ?_); rintro e w2 ⟨rfl, rfl⟩))
                go_ret
                exact ⟨.inr ⟨HNB.out, rfl⟩, C0.trans C1⟩
              · have HBU := hid (fun w => budNew_ok tb tw w (by omega) (by omega) (by omega) (by omega))
                have HYB : Hid (vt = true) := by
                  show vt = true
                  rw [← HVT.out, HL2.out]
                  simp only [Bool.not_false, Bool.and_true, Bool.true_and, Bool.and_eq_true, decide_eq_true_eq]
                  have := HL1.out
                  omega
                clear hb
                go_enter Tryd.func31, Tryd.ntmps31
                go_upto_region 9 with (first
                  | go_big_skip
                  | (go_at_call 54; (with_reducible refine (HVU.out _).mono ?_); rintro e w2 ⟨rfl, rfl⟩)
                  | (go_at_call 54; (with_reducible refine (HVP.out _).mono ?_); rintro e w2 ⟨rfl, rfl⟩)
                  | (go_at_call 55; (with_reducible refine (HCO.out _).mono ?_); rintro e w2 ⟨rfl, rfl⟩)
                  | (go_at_call 27; (with_reducible refine (HAC.out _ C0).mono ?_); rintro e w1 ⟨ga, rfl, M, C1⟩; have B1 := B0.ch C1 (by simp); have e3 := B1.cell 3; have e4 := B1.cell 4)
                  | (go_at_call 56; (with_reducible refine (HBU.out _).mono ?_); rintro e w2 ⟨rfl, h2⟩; have BB : Blk w2 w1.heap.size 137 (Bud.cells ⟨tb, tw, 0, 0⟩) := h2 ▸ Blk.new w1 _ _; have C2 : Ch [] w1 w2 := h2 ▸ (Ch.refl _ _).alloc _; clear h2))
                have B2 := B1.ch C2 (by simp)
                have M2 := M.nil C2
                have hlt := M.lt
                have s1 := C1.size
                have s2 := C2.size
                have s3 := BB.lt
                simp only [World.size_alloc] at s1
                clear e0 e1 e2 e3 e4 e5 B0 B1
                have e2 := B2.cell 2
                have f2 := B2.frozen 2
                go_upto_region 10 with fail
                have B3 : Blk (w2.setCell ⟨w.heap.size, 2, none⟩ (.slice none 0 0)) w.heap.size 47 [.string tu, .string tp, .slice none 0 0, .int .i64 tb, .int .u64 tw, .int .i64 tm] := B2.set 2 (.slice none 0 0)
                have D3 : Ch [w.heap.size] w2 (w2.setCell ⟨w.heap.size, 2, none⟩ (.slice none 0 0)) := (Ch.refl [w.heap.size] w2).setCell (p := ⟨w.heap.size, 2, none⟩) (.inl (by simp)) _
                generalize w2.setCell ⟨w.heap.size, 2, none⟩ (.slice none 0 0) = w3 at B3 D3 ⊢
                have HI := hid tn_info
                clear e2 f2
                go_wp2_with (first
                  | (refine wpList_load_want rfl 47 _ rfl w.heap.size 0 rfl [.string tu, .string tp, .slice none 0 0, .int .i64 tb, .int .u64 tw, .int .i64 tm] _ B3.range Tryd.underlying47 rfl HI.out ?_))
                go_ret
                have D4 : Ch [w.heap.size] w2 (w3.alloc _) := D3.alloc (.cells (entC ⟨tu, tp, tA, tc, tL, tb, tw, tm⟩ ga w1.heap.size 0).toArray 81)
                have hnw : ∀ b ∈ newB (w.alloc (.cells #[.string tu, .string tp, .slice tA tL.length tc, .int .i64 tb, .int .u64 tw, .int .i64 tm] 47)) w1, w.heap.size + 1 ≤ b ∧ b < w1.heap.size := fun b hb => by have := newB_ge hb; rwa [World.size_alloc] at this
                have s4 := D3.size
                have C4 : Ch [] w (w3.alloc _) := (((C0.trans C1).trans C2).step D4 (fun i hi => .inr (by rw [List.mem_singleton] at hi; omega)))
                refine ⟨.inl ⟨HYB.out, w3.heap.size, rfl, ga, w1.heap.size, _, Blk.new w3 _ _, M2.ch D4 (fun b hb h => ?_), (BB.ch D3 (by simp; omega)).alloc _, by omega, fun h => ?_, fun h => ?_, newB_mem (by omega) (by simp), newB_mem (by omega) (by simp; omega), fun b hb => newB_mem (by have := (hnw b hb).1; omega) (by have := (hnw b hb).2; simp; omega), fun b hb => (newB_ge hb).2⟩, C4⟩
                · rw [List.mem_singleton] at h
                  have := (hnw b hb).1
                  omega
                · have := (hnw _ h).2
                  omega
                · have := (hnw _ h).2
                  omega
            · have HAC : Hid (∀ w', Ch [] w w' → Calls Tryd.prog 27 #[.slice tA tL.length tc] w' fun e w'' => e = .returned (.tuple #[.pointer none, .int .i64 1]) ∧ Ch [] w' w'') := fun w' c => (HA1.out w' c).mono fun e w'' h => by
                rcases h.1 with ⟨hb, _⟩ | ⟨_, he⟩
                · exact absurd hb hL
                · exact ⟨he, h.2⟩
              have HNB : Hid (vt = false) := by
                show vt = false
                rw [← HVT.out]
                rcases Nat.lt_or_ge 32 tL.length with h | h
                · simp; omega
                · have : tL.all validR = false := by
                    cases hx : tL.all validR
                    · rfl
                    · exact absurd ⟨h, hx⟩ hL
                  rw [this]; simp
              clear hL HA1
              go_enter Tryd.func31, Tryd.ntmps31
              go_wp2_with (first
                | go_big_skip
                | (go_at_call 54; (with_reducible refine (HVU.out _).mono ?_); rintro e w2 ⟨rfl, rfl⟩)
                | (go_at_call 54; (with_reducible refine (HVP.out _).mono ?_); rintro e w2 ⟨rfl, rfl⟩)
                | (go_at_call 55; (with_reducible refine (HCO.out _).mono ?_); rintro e w2 ⟨rfl, rfl⟩)
                | (go_at_call 27; (with_reducible refine (HAC.out _ C0).mono ?_); rintro e w1 ⟨rfl, C1⟩))
              go_ret
              exact ⟨.inr ⟨HNB.out, rfl⟩, C0.trans C1⟩
    · go_enter Tryd.func31, Tryd.ntmps31
      go_wp2_with (first
        | go_big_skip
        | (go_at_call 54; (with_reducible refine (HVU.out _).mono ?_); rintro e w2 ⟨rfl, rfl⟩)
        | (go_at_call 54; (with_reducible refine (HVP.out _).mono ?_); rintro e w2 ⟨rfl, rfl⟩)
        | (go_at_call 55; (with_reducible refine (HCO.out _).mono ?_); rintro e w2 ⟨rfl, rfl⟩))
      go_ret
      exact ⟨.inr ⟨by rw [← HVT.out]; simp, rfl⟩, C0⟩
end Go.Proofs.YtbmbnibamhgfmaaDoor
