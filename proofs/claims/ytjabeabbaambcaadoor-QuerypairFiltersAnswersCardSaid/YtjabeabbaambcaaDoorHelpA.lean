/- ginnelhelp.Equal, Overwrite over api.Addr. -/
import Derived.Test.YtjabeabbaambcaaDoorThere
import Derived.Test.YtjabeabbaambcaaDoorEqS
import Derived.Test.YtjabeabbaambcaaDoorArgsA
namespace Go.Proofs.YtjabeabbaambcaaDoor
open Go.RowKit

def adrC (a : Bool × List Int) : List Value := addrC a.1 a.2
theorem adr_len {a : Bool × List Int} (h : a.2.length = 16) : (adrC a).length = 17 := addr_len h
theorem adr_inf {a : Bool × List Int} (h : a.2.length = 16) : (Tryd.prog.info? 29).map (·.size) = some (adrC a).length := addr_inf h
theorem adr_one (a : Bool × List Int) : (adrC a).all (·.oneCell') = true := addr_one' _ _
theorem adr_sameC (a : Bool × List Int) (h : a.2.length = 16) (w : World) : (Op.equalIn 10000 29 (.agg (adrC a).toArray) (.agg (adrC a).toArray)).run Tryd.prog w = .ok true w := adr_same a h w
theorem eqOneA (x : Bool × List Int) (hx : x.2.length = 16) (w : World) : Calls Tryd.prog 65 #[.agg (adrC x).toArray, .agg (adrC x).toArray] w fun e w' => e = .returned (.bool true) ∧ Ch [] w w' := by
  have hB1 : Blk ((w.alloc (.cells (adrC x).toArray 29)).alloc (.cells (adrC x).toArray 29)) w.heap.size 29 (adrC x) := (Blk.new w _ _).alloc _
  have hB2 : Blk ((w.alloc (.cells (adrC x).toArray 29)).alloc (.cells (adrC x).toArray 29)) (w.heap.size + 1) 29 (adrC x) := Blk.newAt _ _ _ (by simp)
  have hC : Ch [] w ((w.alloc (.cells (adrC x).toArray 29)).alloc (.cells (adrC x).toArray 29)) := ((Ch.refl _ _).alloc _).alloc _
  have HI := hid (adr_inf (a := x) hx)
  have hq : ∀ w, (Op.equalIn 10000 29 (.agg (adrC x).toArray) (.agg (adrC x).toArray)).run Tryd.prog w = .ok true w := fun w => adr_sameC x hx w
  generalize adrC x = cs at hB1 hB2 hC HI hq ⊢
  go_enter Tryd.func65, Tryd.ntmps65
  go_wp2_with (first
    | (refine wpList_loadB rfl 29 _ rfl w.heap.size 29 cs _ rfl hB1 Tryd.underlying29 rfl HI.out ?_)
    | (refine wpList_loadB rfl 29 _ rfl (w.heap.size + 1) 29 cs _ rfl hB2 Tryd.underlying29 rfl HI.out ?_))
  go_ret
  exact ⟨rfl, hC⟩
set_option maxRecDepth 20000 in
set_option maxHeartbeats 1000000 in
theorem eqFuncA (w : World) (A A' : Option Addr) (n cap cap' B B' : Nat) (l : List (Bool × List Int)) (h : Rd w B 17 A n (l.flatMap adrC)) (h' : Rd w B' 17 A' n (l.flatMap adrC)) (hB : B ≤ w.heap.size) (hB' : B' ≤ w.heap.size) (hl : n ≤ 140737488351232) (hG : ∀ x ∈ l, x.2.length = 16) :
    Calls Tryd.prog 64 #[.slice A n cap, .slice A' n cap', .func (.func 65) #[] #[]] w fun e w' => e = .returned (.bool true) ∧ Ch [] w w' := by
  have hf : ∀ x ∈ l, (adrC x).length = 17 := fun x hx => adr_len (hG x hx)
  obtain ⟨hn, h1⟩ := h.rangeE hf (by omega)
  obtain ⟨_, h2⟩ := h'.rangeE hf (by omega)
  have HN := hid hn
  have H1 := hid h1
  have H2 := hid h2
  have HG := hid hG
  clear h h' hn h1 h2 hf hG
  go_enter Tryd.func64, Tryd.ntmps64
  go_wp2_with fail
  go_loopw [7] (fun i wr => ∃ k : Nat, k ≤ n ∧ i = .int .i64 k ∧ Ch [] w wr) (fun i _ => n - (intOf i).toNat)
  case atStart => exact ⟨0, Nat.zero_le _, rfl, Ch.refl _ _⟩
  case round =>
    obtain ⟨k, hk, rfl, C⟩ := hrel
    by_cases hlt : k < n
    · obtain ⟨b1, off1, rfl, hb1, hr1⟩ := H1.out (by omega)
      obtain ⟨b2, off2, rfl, hb2, hr2⟩ := H2.out (by omega)
      obtain ⟨x, hx⟩ : ∃ x, l[k]? = some x := ⟨_, List.getElem?_eq_getElem (by rw [HN.out]; exact hlt)⟩
      have hgx := HG.out x (List.mem_of_getElem? hx)
      have HR1 : Hid (∀ w', Ch [] wr w' → w'.rangeAt b1 (off1 + k * 17) (adrC x)) := fun w' c => range_ch (hr1 k x hx) (C.trans c) (by omega) (by simp)
      have HR2 : Hid (∀ w', Ch [] wr w' → w'.rangeAt b2 (off2 + k * 17) (adrC x)) := fun w' c => range_ch (hr2 k x hx) (C.trans c) (by omega) (by simp)
      have HI := hid (adr_inf (a := x) hgx)
      have HO := hid (eqOneA x hgx)
      clear hx hgx hr1 hr2 H1 H2 hb1 hb2
      generalize adrC x = cs at HR1 HR2 HI HO
      have hi0 : (0 : Int) ≤ k := by omega
      have hi1 : (k : Int) < n := by omega
      go_wp2_with fail
      refine wp_region_quietA (wr) (by kernel_rfl) (by kernel_rfl) (Ch.refl _ _) ?_
      repeat (first
        | (go_big_quiet_want; refine quiet_rowA 29 _ rfl b1 (off1 + k * 17) rfl cs _ HR1.out Tryd.underlying29 rfl HI.out ?_; simp only [Act.put, List.setIfInBounds_toArray, List.set_cons_succ, List.set_cons_zero]; go_big_quiet_on)
        | (go_big_quiet_want; refine quiet_rowA 29 _ rfl b2 (off2 + k * 17) rfl cs _ HR2.out Tryd.underlying29 rfl HI.out ?_; simp only [Act.put, List.setIfInBounds_toArray, List.set_cons_succ, List.set_cons_zero]; go_big_quiet_on)
        | go_big_quiet_step (first
          | (go_at_call 65; with_reducible exact after_of (HO.out _))))
      refine wpQuiet_nil ?_
      intro wq hwq
      go_wp2_with fail
      go_roundw
      case rel => exact ⟨k + 1, by omega, by go_num, C.trans hwq⟩
      case measure => simp [intOf]; omega
    · obtain rfl : k = n := by omega
      go_wp2_with fail
      go_ret
      exact ⟨rfl, C⟩
theorem eqEqA (w : World) (A A' : Option Addr) (n cap cap' B B' : Nat) (l : List (Bool × List Int)) (h : Rd w B 17 A n (l.flatMap adrC)) (h' : Rd w B' 17 A' n (l.flatMap adrC)) (hB : B ≤ w.heap.size) (hB' : B' ≤ w.heap.size) (hl : n ≤ 140737488351232) (hG : ∀ x ∈ l, x.2.length = 16) :
    Calls Tryd.prog 22 #[.slice A n cap, .slice A' n cap'] w fun e w' => e = .returned (.bool true) ∧ Ch [] w w' := by
  have HF := hid (eqFuncA w A A' n cap cap' B B' l h h' hB hB' hl hG)
  clear h h' hG
  go_enter Tryd.func22, Tryd.ntmps22
  go_wp2_with (go_at_call 64; (with_reducible refine (HF.out).mono ?_); rintro e w2 ⟨rfl, C2⟩)
  go_ret
  exact ⟨rfl, C2⟩
theorem ovrA (w : World) (g off n cap : Nat) (ht : w.there g off (n * 17)) (hg : g < w.heap.size) (hl : n ≤ 140737488351232) :
    Calls Tryd.prog 19 #[.slice (some ⟨g, off, none⟩) n cap] w fun e w' => e = .returned (.tuple #[]) ∧ Ch [g] w w' := by
  have HI := hid (addr_inf (six := false) (bs := zeros) rfl)
  have hB0 : Blk (w.alloc (.cells (addrC false zeros).toArray 29)) w.heap.size 29 (addrC false zeros) := Blk.new _ _ _
  have HT0 : Hid ((w.alloc (.cells (addrC false zeros).toArray 29)).there g off (n * 17)) := World.there_alloc ht _
  have hC0 : Ch [g] w (w.alloc (.cells (addrC false zeros).toArray 29)) := (Ch.refl _ _).alloc _
  clear ht
  go_enter Tryd.func19, Tryd.ntmps19
  go_wp2_with fail
  go_loopw [3] (fun i wr => ∃ k : Nat, k ≤ n ∧ i = .int .i64 k ∧ Blk wr w.heap.size 29 (addrC false zeros) ∧ Hid (wr.there g off (n * 17)) ∧ Ch [g] w wr) (fun i _ => n - (intOf i).toNat)
  case atStart => exact ⟨0, Nat.zero_le _, rfl, hB0, HT0, hC0⟩
  case round =>
    clear hB0 HT0 hC0
    obtain ⟨k, hk, rfl, B0, HT, C⟩ := hrel
    by_cases hlt : k < n
    · have hi0 : (0 : Int) ≤ k := by omega
      have hi1 : (k : Int) < n := by omega
      have HS : Hid (wr.there g (off + k * 17) 17) := there_sub HT.out (by omega) (by omega)
      obtain ⟨cs, hcs⟩ : ∃ cs, (addrC false zeros) = cs := ⟨_, rfl⟩
      have HL : Hid (cs.length = 17 ∧ cs.all (·.oneCell') = true) := by rw [← hcs]; exact ⟨rfl, rfl⟩
      rw [hcs] at B0 HI
      have HCS := hid hcs
      clear hcs
      go_wp2_with (first
        | (refine wpList_loadB rfl 29 _ rfl w.heap.size 29 cs _ rfl B0 Tryd.underlying29 rfl HI.out ?_)
        | (refine wpList_storeT rfl 29 _ _ rfl g (off + k * 17) cs rfl rfl (by rw [HL.out.1]; exact HS.out) HI.out HL.out.2 ?_; intro w3 C3 T3))
      go_roundw
      case rel =>
        rw [← HCS.out] at B0
        exact ⟨k + 1, by omega, by go_num, B0.ch C3 (by simp; omega), T3 _ _ HT.out, C.step C3 (fun i hi => .inl hi)⟩
      case measure => simp [intOf]; omega
    · obtain rfl : k = n := by omega
      go_wp2_with fail
      go_end0
      exact ⟨rfl, C⟩
theorem ovrAOwn (w : World) (A : Option Addr) (n cap B : Nat) (e : TypeId) (xs : List Value) (h : Own w B e 17 A n cap xs) (hl : n ≤ 140737488351232) :
    Calls Tryd.prog 19 #[.slice A n cap] w fun e w' => e = .returned (.tuple #[]) ∧ Ch (blkOf A) w w' := by
  rcases A with _ | a
  · have hn : n = 0 := by
      rcases Nat.eq_zero_or_pos n with h0 | hp
      · exact h0
      · obtain ⟨g, hg, _⟩ := h.form hp
        cases hg
    subst hn
    clear h
    go_enter Tryd.func19, Tryd.ntmps19
    go_wp2_with fail
    go_loopw [3] (fun i wr => i = .int .i64 0 ∧ Ch [] w wr) (fun _ _ => 0)
    case atStart => exact ⟨rfl, (Ch.refl _ _).alloc _⟩
    case round =>
      obtain ⟨rfl, C⟩ := hrel
      go_wp2_with fail
      go_end0
      exact ⟨rfl, C⟩
  · obtain ⟨g, off, hh⟩ : ∃ g off, a = ⟨g, off, none⟩ ∧ off = 0 := by
      rcases h.2 with ⟨h0, _⟩ | ⟨b, cp, cur, hv, _⟩
      · cases h0
      · simp only [Value.slice.injEq, Option.some.injEq] at hv
        exact ⟨b, 0, hv.1, rfl⟩
    obtain ⟨rfl, rfl⟩ := hh
    exact ovrA w g 0 n cap h.there (h.blks g (by simp [blkOf])).2 hl
end Go.Proofs.YtjabeabbaambcaaDoor
