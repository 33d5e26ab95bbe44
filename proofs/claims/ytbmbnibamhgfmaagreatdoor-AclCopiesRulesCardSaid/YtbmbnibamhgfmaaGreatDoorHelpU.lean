/- ginnelhelp.Equal, Overwrite over api.Rule. -/
import Derived.Test.YtbmbnibamhgfmaaGreatDoorMD
import Derived.Test.YtbmbnibamhgfmaaGreatDoorME
namespace Go.Proofs.YtbmbnibamhgfmaaGreatDoor
open Go.RowKit

set_option maxRecDepth 100000 in
set_option maxHeartbeats 4000000 in
theorem rul_same0 (al : Bool) (sx : ByteArray) (six : Bool) (b0 b1 b2 b3 b4 b5 b6 b7 b8 b9 b10 b11 b12 b13 b14 b15 x lo hi : Int) (w : World) :
    (Op.equalIn 10000 58 (.agg #[.bool al, .string sx, .bool six, .int .u8 b0, .int .u8 b1, .int .u8 b2, .int .u8 b3, .int .u8 b4, .int .u8 b5, .int .u8 b6, .int .u8 b7, .int .u8 b8, .int .u8 b9, .int .u8 b10, .int .u8 b11, .int .u8 b12, .int .u8 b13, .int .u8 b14, .int .u8 b15, .int .i64 x, .int .i64 lo, .int .i64 hi]) (.agg #[.bool al, .string sx, .bool six, .int .u8 b0, .int .u8 b1, .int .u8 b2, .int .u8 b3, .int .u8 b4, .int .u8 b5, .int .u8 b6, .int .u8 b7, .int .u8 b8, .int .u8 b9, .int .u8 b10, .int .u8 b11, .int .u8 b12, .int .u8 b13, .int .u8 b14, .int .u8 b15, .int .i64 x, .int .i64 lo, .int .i64 hi])).run Tryz.prog w = .ok true w := by
  go_simp
  obtain ⟨i, hi, hc⟩ : ∃ i, Tryz.prog.info? 5 = some i ∧ Tryz.prog.cellsOf 5 = 1 := ⟨_, rfl, by kernel_rfl⟩
  rw [run_equalIn_array _ _ _ _ Tryz.underlying30 hi, hc]
  simp only [show List.range 16 = [0, 1, 2, 3, 4, 5, 6, 7, 8, 9, 10, 11, 12, 13, 14, 15] from rfl, Op.eqItems]
  go_simp
theorem rul_same (r : Rl) (h : r.2.2.1.2.1.length = 16) (w : World) : (Op.equalIn 10000 58 (.agg (rulC r).toArray) (.agg (rulC r).toArray)).run Tryz.prog w = .ok true w := by
  obtain ⟨al, sx, ⟨s, b, n⟩, m, k⟩ := r
  obtain ⟨b0, b1, b2, b3, b4, b5, b6, b7, b8, b9, b10, b11, b12, b13, b14, b15, rfl⟩ := len16 h
  exact rul_same0 al sx s b0 b1 b2 b3 b4 b5 b6 b7 b8 b9 b10 b11 b12 b13 b14 b15 n m k w
theorem eqOneU (x : Rl) (hx : x.2.2.1.2.1.length = 16) (w : World) : Calls Tryz.prog 94 #[.agg (rulC x).toArray, .agg (rulC x).toArray] w fun e w' => e = .returned (.bool true) ∧ Ch [] w w' := by
  have hB1 : Blk ((w.alloc (.cells (rulC x).toArray 58)).alloc (.cells (rulC x).toArray 58)) w.heap.size 58 (rulC x) := (Blk.new w _ _).alloc _
  have hB2 : Blk ((w.alloc (.cells (rulC x).toArray 58)).alloc (.cells (rulC x).toArray 58)) (w.heap.size + 1) 58 (rulC x) := Blk.newAt _ _ _ (by simp)
  have hC : Ch [] w ((w.alloc (.cells (rulC x).toArray 58)).alloc (.cells (rulC x).toArray 58)) := ((Ch.refl _ _).alloc _).alloc _
  have HI := hid (rul_inf (r := x) hx)
  have hq : ∀ w, (Op.equalIn 10000 58 (.agg (rulC x).toArray) (.agg (rulC x).toArray)).run Tryz.prog w = .ok true w := fun w => rul_same x hx w
  generalize rulC x = cs at hB1 hB2 hC HI hq ⊢
  go_enter Tryz.func94, Tryz.ntmps94
  go_wp2_with (first
    | (refine wpList_loadB rfl 58 _ rfl w.heap.size 58 cs _ rfl hB1 Tryz.underlying58 rfl HI.out ?_)
    | (refine wpList_loadB rfl 58 _ rfl (w.heap.size + 1) 58 cs _ rfl hB2 Tryz.underlying58 rfl HI.out ?_))
  go_ret
  exact ⟨rfl, hC⟩
set_option maxRecDepth 20000 in
set_option maxHeartbeats 1000000 in
theorem eqFuncU (w : World) (A A' : Option Addr) (n cap cap' B B' : Nat) (l : List (Rl)) (h : Rd w B 22 A n (l.flatMap rulC)) (h' : Rd w B' 22 A' n (l.flatMap rulC)) (hB : B ≤ w.heap.size) (hB' : B' ≤ w.heap.size) (hl : n ≤ 140737488351232) (hG : ∀ x ∈ l, x.2.2.1.2.1.length = 16) :
    Calls Tryz.prog 93 #[.slice A n cap, .slice A' n cap', .func (.func 94) #[] #[]] w fun e w' => e = .returned (.bool true) ∧ Ch [] w w' := by
  have hf : ∀ x ∈ l, (rulC x).length = 22 := fun x hx => rul_len (hG x hx)
  obtain ⟨hn, h1⟩ := h.rangeE hf (by omega)
  obtain ⟨_, h2⟩ := h'.rangeE hf (by omega)
  have HN := hid hn
  have H1 := hid h1
  have H2 := hid h2
  have HG := hid hG
  clear h h' hn h1 h2 hf hG
  go_enter Tryz.func93, Tryz.ntmps93
  go_wp2_with fail
  go_loopw [7] (fun i wr => ∃ k : Nat, k ≤ n ∧ i = .int .i64 k ∧ Ch [] w wr) (fun i _ => n - (intOf i).toNat)
  case atStart => exact ⟨0, Nat.zero_le _, rfl, Ch.refl _ _⟩
  case round =>
    obtain ⟨k, hk, rfl, C⟩ := hrel
    by_cases hlt : k < n
    · obtain ⟨b1, off1, rfl, hb1, hr1⟩ := H1.out (by omega)
      obtain ⟨b2, off2, rfl, hb2, hr2⟩ := H2.out (by omega)
      obtain ⟨x, hx⟩ : ∃ x, l[k]? = some x := ⟨_, List.getElem?_eq_getElem (by rw [HN.out]; exact hlt)⟩
      have hgx := HG.out x (List.mem_of_getElem? hx)
      have HR1 : Hid (∀ w', Ch [] wr w' → w'.rangeAt b1 (off1 + k * 22) (rulC x)) := fun w' c => range_ch (hr1 k x hx) (C.trans c) (by omega) (by simp)
      have HR2 : Hid (∀ w', Ch [] wr w' → w'.rangeAt b2 (off2 + k * 22) (rulC x)) := fun w' c => range_ch (hr2 k x hx) (C.trans c) (by omega) (by simp)
      have HI := hid (rul_inf (r := x) hgx)
      have HO := hid (eqOneU x hgx)
      clear hx hgx hr1 hr2 H1 H2 hb1 hb2
      generalize rulC x = cs at HR1 HR2 HI HO
      have hi0 : (0 : Int) ≤ k := by omega
      have hi1 : (k : Int) < n := by omega
      go_wp2_with fail
      refine wp_region_quietA (wr) (by kernel_rfl) (by kernel_rfl) (Ch.refl _ _) ?_
      repeat (first
        | (go_big_quiet_want; refine quiet_rowA 58 _ rfl b1 (off1 + k * 22) rfl cs _ HR1.out Tryz.underlying58 rfl HI.out ?_; simp only [Act.put, List.setIfInBounds_toArray, List.set_cons_succ, List.set_cons_zero]; go_big_quiet_on)
        | (go_big_quiet_want; refine quiet_rowA 58 _ rfl b2 (off2 + k * 22) rfl cs _ HR2.out Tryz.underlying58 rfl HI.out ?_; simp only [Act.put, List.setIfInBounds_toArray, List.set_cons_succ, List.set_cons_zero]; go_big_quiet_on)
        | go_big_quiet_step (first
          | (go_at_call 94; with_reducible exact after_of (HO.out _))))
      refine wpQuiet_nil ?_
      intro wq hwq
      go_wp2_with fail
      go_roundw
      case rel => exact ⟨k + 1, by omega, by go_num, C.trans hwq⟩
      case measure => simp [intOf]; omega
    · obtain rfl : k = n := by omega
      go_wp2_with fail
      go_ret
      exact ⟨rfl, C⟩
theorem eqEqU (w : World) (A A' : Option Addr) (n cap cap' B B' : Nat) (l : List (Rl)) (h : Rd w B 22 A n (l.flatMap rulC)) (h' : Rd w B' 22 A' n (l.flatMap rulC)) (hB : B ≤ w.heap.size) (hB' : B' ≤ w.heap.size) (hl : n ≤ 140737488351232) (hG : ∀ x ∈ l, x.2.2.1.2.1.length = 16) :
    Calls Tryz.prog 63 #[.slice A n cap, .slice A' n cap'] w fun e w' => e = .returned (.bool true) ∧ Ch [] w w' := by
  have HF := hid (eqFuncU w A A' n cap cap' B B' l h h' hB hB' hl hG)
  clear h h' hG
  go_enter Tryz.func63, Tryz.ntmps63
  go_wp2_with (go_at_call 93; (with_reducible refine (HF.out).mono ?_); rintro e w2 ⟨rfl, C2⟩)
  go_ret
  exact ⟨rfl, C2⟩
theorem ovrU (w : World) (g off n cap : Nat) (ht : w.there g off (n * 22)) (hg : g < w.heap.size) (hl : n ≤ 140737488351232) :
    Calls Tryz.prog 29 #[.slice (some ⟨g, off, none⟩) n cap] w fun e w' => e = .returned (.tuple #[]) ∧ Ch [g] w w' := by
  have HI := hid (rul_inf (r := (false, ⟨#[]⟩, zeroP, 0, 0)) rfl)
  have hB0 : Blk (w.alloc (.cells (rulC (false, ⟨#[]⟩, zeroP, 0, 0)).toArray 58)) w.heap.size 58 (rulC (false, ⟨#[]⟩, zeroP, 0, 0)) := Blk.new _ _ _
  have HT0 : Hid ((w.alloc (.cells (rulC (false, ⟨#[]⟩, zeroP, 0, 0)).toArray 58)).there g off (n * 22)) := World.there_alloc ht _
  have hC0 : Ch [g] w (w.alloc (.cells (rulC (false, ⟨#[]⟩, zeroP, 0, 0)).toArray 58)) := (Ch.refl _ _).alloc _
  clear ht
  go_enter Tryz.func29, Tryz.ntmps29
  go_wp2_with fail
  go_loopw [3] (fun i wr => ∃ k : Nat, k ≤ n ∧ i = .int .i64 k ∧ Blk wr w.heap.size 58 (rulC (false, ⟨#[]⟩, zeroP, 0, 0)) ∧ Hid (wr.there g off (n * 22)) ∧ Ch [g] w wr) (fun i _ => n - (intOf i).toNat)
  case atStart => exact ⟨0, Nat.zero_le _, rfl, hB0, HT0, hC0⟩
  case round =>
    clear hB0 HT0 hC0
    obtain ⟨k, hk, rfl, B0, HT, C⟩ := hrel
    by_cases hlt : k < n
    · have hi0 : (0 : Int) ≤ k := by omega
      have hi1 : (k : Int) < n := by omega
      have HS : Hid (wr.there g (off + k * 22) 22) := there_sub HT.out (by omega) (by omega)
      obtain ⟨cs, hcs⟩ : ∃ cs, (rulC (false, ⟨#[]⟩, zeroP, 0, 0)) = cs := ⟨_, rfl⟩
      have HL : Hid (cs.length = 22 ∧ cs.all (·.oneCell') = true) := by rw [← hcs]; exact ⟨rfl, rfl⟩
      rw [hcs] at B0 HI
      have HCS := hid hcs
      clear hcs
      go_wp2_with (first
        | (refine wpList_loadB rfl 58 _ rfl w.heap.size 58 cs _ rfl B0 Tryz.underlying58 rfl HI.out ?_)
        | (refine wpList_storeT rfl 58 _ _ rfl g (off + k * 22) cs rfl rfl (by rw [HL.out.1]; exact HS.out) HI.out HL.out.2 ?_; intro w3 C3 T3))
      go_roundw
      case rel =>
        rw [← HCS.out] at B0
        exact ⟨k + 1, by omega, by go_num, B0.ch C3 (by simp; omega), T3 _ _ HT.out, C.step C3 (fun i hi => .inl hi)⟩
      case measure => simp [intOf]; omega
    · obtain rfl : k = n := by omega
      go_wp2_with fail
      go_end0
      exact ⟨rfl, C⟩
theorem ovrUOwn (w : World) (A : Option Addr) (n cap B : Nat) (e : TypeId) (xs : List Value) (h : Own w B e 22 A n cap xs) (hl : n ≤ 140737488351232) :
    Calls Tryz.prog 29 #[.slice A n cap] w fun e w' => e = .returned (.tuple #[]) ∧ Ch (blkOf A) w w' := by
  rcases A with _ | a
  · have hn : n = 0 := by
      rcases Nat.eq_zero_or_pos n with h0 | hp
      · exact h0
      · obtain ⟨g, hg, _⟩ := h.form hp
        cases hg
    subst hn
    clear h
    go_enter Tryz.func29, Tryz.ntmps29
    go_wp2_with fail
    go_loopw [3] (fun i wr => i = .int .i64 0 ∧ Ch [] w wr) (fun _ _ => 0)
    case atStart => exact ⟨rfl, (Ch.refl _ _).alloc _⟩
    case round =>
      obtain ⟨rfl, C⟩ := hrel
      go_wp2_with fail
      go_end0
      exact ⟨rfl, C⟩
  · obtain ⟨g, off, hh⟩ : ∃ g off, a = ⟨g, off, none⟩ ∧ off = 0 := by
      rcases h.2 with ⟨h0, _⟩ | ⟨b, cp, cur, hv, _⟩
      · cases h0
      · simp only [Value.slice.injEq, Option.some.injEq] at hv
        exact ⟨b, 0, hv.1, rfl⟩
    obtain ⟨rfl, rfl⟩ := hh
    exact ovrU w g 0 n cap h.there (h.blks g (by simp [blkOf])).2 hl
end Go.Proofs.YtbmbnibamhgfmaaGreatDoor
