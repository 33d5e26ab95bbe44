/- Several texts in one: SlA, Somes, RefCA, Clone, QPair, QPl. -/
import Derived.Test.YtjabeabbaambcaaDoorHelpA
import Derived.Test.YtjabeabbaambcaaDoorGenD
import Derived.Test.YtjabeabbaambcaaDoorTick
import Derived.WalkSpells
/- slices.Index, slices.Contains over addresses. -/
namespace Go.Proofs.YtjabeabbaambcaaDoor
open Go.RowKit

def sameA (a x : Bool × List Int) : Bool := a.1 == x.1 && decide (a.2 = x.2)
def idxA (a : Bool × List Int) : List (Bool × List Int) → Nat → Int
  | [], _ => -1
  | x :: l, i => if sameA a x then (i : Int) else idxA a l (i + 1)
theorem sameA_iff {a x : Bool × List Int} : sameA a x = true ↔ a = x := by
  obtain ⟨s, b⟩ := a
  obtain ⟨t, c⟩ := x
  simp [sameA]
theorem idxA_hit {a x : Bool × List Int} : ∀ (l : List (Bool × List Int)) (i k : Nat), (∀ j y, j < k → l[j]? = some y → sameA a y = false) → l[k]? = some x → sameA a x = true → idxA a l i = (i + k : Nat)
  | [], _, _, _, h, _ => by simp at h
  | y :: l, i, 0, _, h, hc => by
    obtain rfl : y = x := by simpa using h
    rw [idxA, if_pos hc]; rfl
  | y :: l, i, k + 1, hn, h, hc => by
    have h0 := hn 0 y (by omega) rfl
    rw [idxA, h0, if_neg (by decide), idxA_hit l (i + 1) k (fun j x hj hx => hn (j + 1) x (by omega) (by simpa using hx)) (by simpa using h) hc]
    congr 1; omega
theorem idxA_miss {a : Bool × List Int} : ∀ (l : List (Bool × List Int)) (i : Nat), (∀ (j : Nat) (y : Bool × List Int), l[j]? = some y → sameA a y = false) → idxA a l i = -1
  | [], _, _ => rfl
  | y :: l, i, hn => by
    rw [idxA, hn 0 y rfl, if_neg (by decide)]
    exact idxA_miss l (i + 1) fun j x hx => hn (j + 1) x (by simpa using hx)
theorem idxA_mem {a : Bool × List Int} : ∀ (l : List (Bool × List Int)) (i : Nat), decide (0 ≤ idxA a l i) = decide (a ∈ l)
  | [], _ => by simp [idxA]
  | y :: l, i => by
    rw [idxA]
    cases h : sameA a y with
    | true => rw [if_pos rfl, sameA_iff.1 h]; simp
    | false =>
      rw [if_neg (by decide), idxA_mem l (i + 1)]
      have hne : a ≠ y := fun e => by rw [sameA_iff.2 e] at h; cases h
      simp [hne]

set_option maxRecDepth 20000 in
set_option maxHeartbeats 4000000 in
theorem slIdx (a : Bool × List Int) (ha : a.2.length = 16) (w : World) (A : Option Addr) (n cap B : Nat) (l : List (Bool × List Int)) (h : Rd w B 17 A n (l.flatMap adrC)) (hB : B ≤ w.heap.size) (hl : n ≤ 140737488351232) (hG : ∀ x ∈ l, x.2.length = 16) :
    Calls Tryd.prog 86 #[.slice A n cap, .agg (adrC a).toArray] w fun e w' => e = .returned (.int .i64 (idxA a l 0)) ∧ Ch [] w w' := by
  have hf : ∀ x ∈ l, (adrC x).length = 17 := fun x hx => adr_len (hG x hx)
  obtain ⟨hn, h1⟩ := h.rangeE hf (by omega)
  have HN := hid hn
  have H1 := hid h1
  have HG := hid hG
  have HI := hid (adr_inf (a := a) ha)
  have HA := hid ha
  have BA0 : Blk (w.alloc (.cells (adrC a).toArray 29)) w.heap.size 29 (adrC a) := Blk.new w _ _
  have CC0 : Ch [] w (w.alloc (.cells (adrC a).toArray 29)) := (Ch.refl _ _).alloc _
  clear h hn h1 hf hG ha
  go_enter Tryd.func86, Tryd.ntmps86
  go_wp2_with fail
  go_loopw [5, 8] (fun _ i wr => ∃ k : Nat, k ≤ n ∧ i = .int .i64 k ∧ Hid (∀ (j : Nat) (x : Bool × List Int), j < k → l[j]? = some x → sameA a x = false) ∧ Blk wr w.heap.size 29 (adrC a) ∧ Ch [] w wr) (fun _ i _ => n - (intOf i).toNat)
  case atStart => exact ⟨0, by omega, rfl, fun j x hj => absurd hj (by omega), BA0, CC0⟩
  case round =>
    clear BA0 CC0
    obtain ⟨k, hk, rfl, HH, BA, CC⟩ := hrel
    by_cases hlt : k < n
    · obtain ⟨b1, off1, rfl, hb1, hr1⟩ := H1.out (by omega)
      obtain ⟨x, hx⟩ : ∃ x, l[k]? = some x := ⟨_, List.getElem?_eq_getElem (by rw [HN.out]; exact hlt)⟩
      have hgx := HG.out x (List.mem_of_getElem? hx)
      have HR1 : Hid (∀ w', Ch [] wr w' → w'.rangeAt b1 (off1 + k * 17) (adrC x)) := fun w' c => range_ch (hr1 k x hx) (CC.trans c) (by omega) (by simp)
      have HRA : Hid (∀ w', Ch [] wr w' → w'.rangeAt w.heap.size 0 (adrC a)) := fun w' c => (BA.ch c (by simp)).range
      have HIX := hid (adr_inf (a := x) hgx)
      have hq : ∀ w, (Op.equalIn 10000 29 (.agg (adrC a).toArray) (.agg (adrC x).toArray)).run Tryd.prog w = .ok (sameA a x) w := fun w => addr_eq a.1 x.1 a.2 x.2 HA.out hgx w
      have HX := hid hx
      clear hx hgx hr1 H1 hb1
      have hi0 : (0 : Int) ≤ k := by omega
      have hi1 : (k : Int) < n := by omega
      cases hs : sameA a x with
      | true =>
        have HV := hid (idxA_hit l 0 k HH.out HX.out hs)
        rw [hs] at hq
        clear hs
        generalize adrC a = ca at BA HI HRA hq
        generalize adrC x = cx at HR1 HIX hq
        go_wp2_with fail
        refine wp_region_quietA (wr) (by kernel_rfl) (by kernel_rfl) (Ch.refl _ _) ?_
        repeat (first
          | (go_big_quiet_want; refine quiet_rowA 29 _ rfl w.heap.size 0 rfl ca _ HRA.out Tryd.underlying29 rfl HI.out ?_; simp only [Act.put, List.setIfInBounds_toArray, List.set_cons_succ, List.set_cons_zero]; go_big_quiet_on)
          | (go_big_quiet_want; refine quiet_rowA 29 _ rfl b1 (off1 + k * 17) rfl cx _ HR1.out Tryd.underlying29 rfl HIX.out ?_; simp only [Act.put, List.setIfInBounds_toArray, List.set_cons_succ, List.set_cons_zero]; go_big_quiet_on)
          | go_big_quiet_step (fail))
        refine wpQuiet_nil ?_
        intro wq hwq
        go_wp2_with fail
        go_ret
        exact ⟨by (rw [HV.out, Nat.zero_add]) <;> rfl, CC.trans hwq⟩
      | false =>
        have HH2 : Hid (∀ (j : Nat) (y : Bool × List Int), j < k + 1 → l[j]? = some y → sameA a y = false) := fun j y hj hy => by
          by_cases e : j = k
          · subst e
            rw [HX.out] at hy
            obtain rfl := Option.some.inj hy
            exact hs
          · exact HH.out j y (by omega) hy
        rw [hs] at hq
        clear hs
        obtain ⟨ca, hca⟩ : ∃ ca, adrC a = ca := ⟨_, rfl⟩
        have HCA := hid hca
        rw [hca] at BA HI HRA
        simp only [hca] at hq
        clear hca
        generalize adrC x = cx at HR1 HIX hq
        go_wp2_with fail
        refine wp_region_quietA (wr) (by kernel_rfl) (by kernel_rfl) (Ch.refl _ _) ?_
        repeat (first
          | (go_big_quiet_want; refine quiet_rowA 29 _ rfl w.heap.size 0 rfl ca _ HRA.out Tryd.underlying29 rfl HI.out ?_; simp only [Act.put, List.setIfInBounds_toArray, List.set_cons_succ, List.set_cons_zero]; go_big_quiet_on)
          | (go_big_quiet_want; refine quiet_rowA 29 _ rfl b1 (off1 + k * 17) rfl cx _ HR1.out Tryd.underlying29 rfl HIX.out ?_; simp only [Act.put, List.setIfInBounds_toArray, List.set_cons_succ, List.set_cons_zero]; go_big_quiet_on)
          | go_big_quiet_step (fail))
        refine wpQuiet_nil ?_
        intro wq hwq
        go_wp2_with fail
        go_roundw
        case rel => exact ⟨k + 1, by omega, by go_num, HH2, by rw [HCA.out]; exact BA.ch hwq (by simp), CC.trans hwq⟩
        case measure => simp [intOf]; omega
    · obtain rfl : k = n := by omega
      have HV := hid (idxA_miss (a := a) l 0 (fun j x hx => HH.out j x (by have := (List.getElem?_eq_some_iff.1 hx).1; rw [HN.out] at this; exact this) hx))
      go_wp2_with fail
      go_ret
      exact ⟨by (rw [HV.out]) <;> rfl, CC⟩
theorem slCont (a : Bool × List Int) (ha : a.2.length = 16) (w : World) (A : Option Addr) (n cap B : Nat) (l : List (Bool × List Int)) (h : Rd w B 17 A n (l.flatMap adrC)) (hB : B ≤ w.heap.size) (hl : n ≤ 140737488351232) (hG : ∀ x ∈ l, x.2.length = 16) :
    Calls Tryd.prog 59 #[.slice A n cap, .agg (adrC a).toArray] w fun e w' => e = .returned (.bool (decide (a ∈ l))) ∧ Ch [] w w' := by
  have CC : Ch [] w (w.alloc (.cells (adrC a).toArray 29)) := (Ch.refl _ _).alloc _
  have BA : Blk (w.alloc (.cells (adrC a).toArray 29)) w.heap.size 29 (adrC a) := Blk.new w _ _
  have HI := hid (adr_inf (a := a) ha)
  have HX := hid (slIdx a ha (w.alloc (.cells (adrC a).toArray 29)) A n cap B l (h.ch ((Ch.refl [] w).alloc _) hB (by simp)) (by simp; omega) hl hG)
  rw [← idxA_mem (a := a) l 0]
  generalize idxA a l 0 = x at HX ⊢
  clear h hG ha
  generalize adrC a = ca at BA HI HX CC ⊢
  go_enter Tryd.func59, Tryd.ntmps59
  go_wp2_with (first
    | (refine wpList_loadB rfl 29 _ rfl w.heap.size 29 ca _ rfl BA Tryd.underlying29 rfl HI.out ?_)
    | (go_at_call 86; (with_reducible refine (HX.out).mono ?_); rintro e w2 ⟨rfl, C2⟩))
  go_ret
  exact ⟨rfl, CC.trans C2⟩
end Go.Proofs.YtjabeabbaambcaaDoor

/- ginnelgen.SomeAddrs. -/
namespace Go.Proofs.YtjabeabbaambcaaDoor
open Go.RowKit

theorem addr_infoZ : (Tryd.prog.info? 29).map (fun i => (i.zero, i.size, i.bytes)) = some (some (Value.agg #[.bool false, .int .u8 0, .int .u8 0, .int .u8 0, .int .u8 0, .int .u8 0, .int .u8 0, .int .u8 0, .int .u8 0, .int .u8 0, .int .u8 0, .int .u8 0, .int .u8 0, .int .u8 0, .int .u8 0, .int .u8 0, .int .u8 0]), 17, 17) := by kernel_rfl
def someL (l : List (Bool × List Int)) : List (Bool × List Int) := l.map fun a => someA a.1 a.2
theorem take_oneA {α : Type} {l : List α} {k : Nat} {x : α} (h : l[k]? = some x) : l.take (k + 1) = l.take k ++ [x] := by
  obtain ⟨hk, rfl⟩ := List.getElem?_eq_some_iff.1 h
  rw [List.take_succ_eq_append_getElem hk]
set_option maxRecDepth 20000 in
set_option maxHeartbeats 4000000 in
theorem genSomes (w : World) (A : Option Addr) (n cap B mo : Nat) (l : List (Bool × List Int)) (h : Rd w B 17 A n (l.flatMap adrC)) (hB : B ≤ w.heap.size) (hl : n ≤ 140737488351232) (hmo : mo ≤ 1000) (hG : ∀ x ∈ l, GoodA x.2) :
    Calls Tryd.prog 38 #[.slice A n cap, .int .i64 mo] w fun e w' => ∃ A' c', e = .returned (.slice A' (min n mo) c') ∧ Own w' w.heap.size 29 17 A' (min n mo) c' ((someL (l.take (min n mo))).flatMap adrC) ∧ Ch [] w w' := by
  have hf : ∀ x ∈ l, (adrC x).length = 17 := fun x hx => adr_len (hG x hx).1
  obtain ⟨hn, h1⟩ := h.rangeE hf (by omega)
  have HN := hid hn
  have H1 := hid h1
  have HG := hid hG
  clear h hn h1 hf hG
  go_enter Tryd.func38, Tryd.ntmps38
  go_wp2_with fail
  go_loopw [5, 6] (fun o i wr => ∃ (k : Nat) (A' : Option Addr) (c : Nat), o = .slice A' k c ∧ i = .int .i64 k ∧ k ≤ n ∧ k ≤ mo ∧ Own wr w.heap.size 29 17 A' k c ((someL (l.take k)).flatMap adrC) ∧ Ch [] w wr) (fun _ i _ => mo - (intOf i).toNat)
  case atStart => exact ⟨0, none, 0, rfl, rfl, by omega, by omega, Own.nil _ _ _ _, Ch.refl _ _⟩
  case round =>
    obtain ⟨k, A', c, rfl, rfl, hkn, hkm, own, CC⟩ := hrel
    have hle := CC.size
    by_cases hlt : k < n
    · by_cases hlm : k < mo
      · obtain ⟨b1, off1, rfl, hb1, hr1⟩ := H1.out (by omega)
        obtain ⟨x, hx⟩ : ∃ x, l[k]? = some x := ⟨_, List.getElem?_eq_getElem (by rw [HN.out]; exact hlt)⟩
        have hgx := HG.out x (List.mem_of_getElem? hx)
        have HR1 : Hid (wr.rangeAt b1 (off1 + k * 17) (adrC x)) := range_ch (hr1 k x hx) CC (by omega) (by simp)
        have HIX := hid (adr_inf (a := x) hgx.1)
        have HS : Hid (∀ w, Calls Tryd.prog 25 #[.agg (adrC x).toArray] w fun e w' => e = .returned (.agg (adrC (someA x.1 x.2)).toArray) ∧ Ch [] w w') := genSome x.1 x.2 hgx
        have HT : Hid (someL (l.take (k + 1)) = someL (l.take k) ++ [someA x.1 x.2]) := by show _ = _; rw [take_oneA hx]; simp [someL]
        have hgs := someA_good (six := x.1) hgx
        generalize someA x.1 x.2 = y at HS HT hgs
        obtain ⟨s6, sv⟩ := y
        obtain ⟨y0, y1, y2, y3, y4, y5, y6, y7, y8, y9, y10, y11, y12, y13, y14, y15, rfl⟩ := len16 hgs.1
        generalize adrC x = cx at HR1 HIX HS
        clear hx hgx hgs hr1 H1 hb1
        have hi0 : (0 : Int) ≤ k := by omega
        have hi1 : (k : Int) < n := by omega
        have hi2 : (k : Int) < mo := by omega
        go_wp2_with (first
          | go_skip
          | (at_builtin; (refine wpList_app _ rfl (.tmp 18) (.tmp 24) _ rfl w.heap.size 29 _ 17 17 Tryd.underlying22 addr_infoZ rfl (by omega) _ _ _ _ rfl (own2.alloc _) _ _ _ _ (adrC (s6, [y0, y1, y2, y3, y4, y5, y6, y7, y8, y9, y10, y11, y12, y13, y14, y15])) rfl (Rd.new _ 17 (adrC (s6, [y0, y1, y2, y3, y4, y5, y6, y7, y8, y9, y10, y11, y12, y13, y14, y15])) 1 rfl _) (List.all_eq_true.1 (adr_one _)) (by unfold maxLen; omega) (by omega) (by simp only [World.size_alloc]; omega) ?_; intro A4 c4 w4 own4 ch4 at4))
          | (refine wpList_buildRows rfl 22 29 1 _ rfl (adrC (s6, [y0, y1, y2, y3, y4, y5, y6, y7, y8, y9, y10, y11, y12, y13, y14, y15])) _ 17 _ Tryd.underlying22 addr_infoZ (by decide) (by decide) (by kernel_rfl) ?_)
          | (refine wpList_load_want rfl 29 _ rfl b1 (off1 + k * 17) rfl cx _ HR1.out Tryd.underlying29 rfl HIX.out ?_)
          | (go_at_call 25; (with_reducible refine (HS.out _).mono ?_); rintro e w2 ⟨rfl, C2⟩; have own2 := own.ch C2 (by simp); have CC2 := CC.trans C2; have sz2 := CC2.size))
        go_roundw
        case rel =>
          refine ⟨k + 1, A4, c4, rfl, by go_num, by omega, by omega, ?_, (CC2.alloc _).step ch4 (fun g' hg' => .inr (own.blks g' hg').1)⟩
          rw [HT.out, List.flatMap_append]
          simpa using own4
        case measure => simp [intOf]; omega
      · obtain rfl : k = mo := by omega
        have hd : decide ((k : Int) < k) = false := by simp
        have hi1 : (k : Int) < n := by omega
        have hmin : min n k = k := by omega
        have HM := hid hmin
        clear hmin
        go_wp2_with fail
        go_ret
        exact ⟨A', c, by rw [HM.out]; rfl, by rw [HM.out]; exact own, CC⟩
    · obtain rfl : k = n := by omega
      have hmin : min k mo = k := by omega
      have HM := hid hmin
      clear hmin
      go_wp2_with fail
      go_ret
      exact ⟨A', c, by rw [HM.out]; rfl, by rw [HM.out]; exact own, CC⟩
end Go.Proofs.YtjabeabbaambcaaDoor

/- ginnelref24.Contains. -/
namespace Go.Proofs.YtjabeabbaambcaaDoor
open Go.RowKit

set_option maxRecDepth 20000 in
set_option maxHeartbeats 4000000 in
theorem refContA (a : Bool × List Int) (ha : a.2.length = 16) (w : World) (A : Option Addr) (n cap B : Nat) (l : List (Bool × List Int)) (h : Rd w B 17 A n (l.flatMap adrC)) (hB : B ≤ w.heap.size) (hl : n ≤ 140737488351232) (hG : ∀ x ∈ l, x.2.length = 16) :
    Calls Tryd.prog 61 #[.slice A n cap, .agg (adrC a).toArray] w fun e w' => e = .returned (.bool (decide (a ∈ l))) ∧ Ch [] w w' := by
  have hf : ∀ x ∈ l, (adrC x).length = 17 := fun x hx => adr_len (hG x hx)
  obtain ⟨hn, h1⟩ := h.rangeE hf (by omega)
  have HN := hid hn
  have H1 := hid h1
  have HG := hid hG
  have HI := hid (adr_inf (a := a) ha)
  have HA := hid ha
  have BA0 : Blk (w.alloc (.cells (adrC a).toArray 29)) w.heap.size 29 (adrC a) := Blk.new w _ _
  have CC0 : Ch [] w (w.alloc (.cells (adrC a).toArray 29)) := (Ch.refl _ _).alloc _
  clear h hn h1 hf hG ha
  go_enter Tryd.func61, Tryd.ntmps61
  go_wp2_with fail
  go_loopw [5] (fun i wr => ∃ k : Nat, k ≤ n ∧ i = .int .i64 k ∧ Hid (∀ (j : Nat) (x : Bool × List Int), j < k → l[j]? = some x → sameA a x = false) ∧ Blk wr w.heap.size 29 (adrC a) ∧ Ch [] w wr) (fun i _ => n - (intOf i).toNat)
  case atStart => exact ⟨0, by omega, rfl, fun j x hj => absurd hj (by omega), BA0, CC0⟩
  case round =>
    clear BA0 CC0
    obtain ⟨k, hk, rfl, HH, BA, CC⟩ := hrel
    by_cases hlt : k < n
    · obtain ⟨b1, off1, rfl, hb1, hr1⟩ := H1.out (by omega)
      obtain ⟨x, hx⟩ : ∃ x, l[k]? = some x := ⟨_, List.getElem?_eq_getElem (by rw [HN.out]; exact hlt)⟩
      have hgx := HG.out x (List.mem_of_getElem? hx)
      have HR1 : Hid (∀ w', Ch [] wr w' → w'.rangeAt b1 (off1 + k * 17) (adrC x)) := fun w' c => range_ch (hr1 k x hx) (CC.trans c) (by omega) (by simp)
      have HRA : Hid (∀ w', Ch [] wr w' → w'.rangeAt w.heap.size 0 (adrC a)) := fun w' c => (BA.ch c (by simp)).range
      have HIX := hid (adr_inf (a := x) hgx)
      have hq : ∀ w, (Op.equalIn 10000 29 (.agg (adrC x).toArray) (.agg (adrC a).toArray)).run Tryd.prog w = .ok (sameA a x) w := fun w => by
        rw [show sameA a x = (x.1 == a.1 && decide (x.2 = a.2)) by unfold sameA; rw [Bool.beq_comm, decide_eq_decide.2 (eq_comm (a := a.2) (b := x.2))]]
        exact addr_eq x.1 a.1 x.2 a.2 hgx HA.out w
      have HX := hid hx
      clear hx hgx hr1 H1 hb1
      have hi0 : (0 : Int) ≤ k := by omega
      have hi1 : (k : Int) < n := by omega
      cases hs : sameA a x with
      | true =>
        have HV : Hid (decide (a ∈ l) = true) := by show _ = _; rw [sameA_iff.1 hs]; simpa using List.mem_of_getElem? HX.out
        rw [hs] at hq
        clear hs
        generalize adrC a = ca at BA HI HRA hq
        generalize adrC x = cx at HR1 HIX hq
        go_wp2_with fail
        refine wp_region_quietA (wr) (by kernel_rfl) (by kernel_rfl) (Ch.refl _ _) ?_
        repeat (first
          | (go_big_quiet_want; refine quiet_rowA 29 _ rfl w.heap.size 0 rfl ca _ HRA.out Tryd.underlying29 rfl HI.out ?_; simp only [Act.put, List.setIfInBounds_toArray, List.set_cons_succ, List.set_cons_zero]; go_big_quiet_on)
          | (go_big_quiet_want; refine quiet_rowA 29 _ rfl b1 (off1 + k * 17) rfl cx _ HR1.out Tryd.underlying29 rfl HIX.out ?_; simp only [Act.put, List.setIfInBounds_toArray, List.set_cons_succ, List.set_cons_zero]; go_big_quiet_on)
          | go_big_quiet_step (fail))
        refine wpQuiet_nil ?_
        intro wq hwq
        go_wp2_with fail
        go_ret
        exact ⟨by (rw [HV.out]) <;> rfl, CC.trans hwq⟩
      | false =>
        have HH2 : Hid (∀ (j : Nat) (y : Bool × List Int), j < k + 1 → l[j]? = some y → sameA a y = false) := fun j y hj hy => by
          by_cases e : j = k
          · subst e
            rw [HX.out] at hy
            obtain rfl := Option.some.inj hy
            exact hs
          · exact HH.out j y (by omega) hy
        rw [hs] at hq
        clear hs
        obtain ⟨ca, hca⟩ : ∃ ca, adrC a = ca := ⟨_, rfl⟩
        have HCA := hid hca
        rw [hca] at BA HI HRA
        simp only [hca] at hq
        clear hca
        generalize adrC x = cx at HR1 HIX hq
        go_wp2_with fail
        refine wp_region_quietA (wr) (by kernel_rfl) (by kernel_rfl) (Ch.refl _ _) ?_
        repeat (first
          | (go_big_quiet_want; refine quiet_rowA 29 _ rfl w.heap.size 0 rfl ca _ HRA.out Tryd.underlying29 rfl HI.out ?_; simp only [Act.put, List.setIfInBounds_toArray, List.set_cons_succ, List.set_cons_zero]; go_big_quiet_on)
          | (go_big_quiet_want; refine quiet_rowA 29 _ rfl b1 (off1 + k * 17) rfl cx _ HR1.out Tryd.underlying29 rfl HIX.out ?_; simp only [Act.put, List.setIfInBounds_toArray, List.set_cons_succ, List.set_cons_zero]; go_big_quiet_on)
          | go_big_quiet_step (fail))
        refine wpQuiet_nil ?_
        intro wq hwq
        go_wp2_with fail
        go_roundw
        case rel => exact ⟨k + 1, by omega, by go_num, HH2, by rw [HCA.out]; exact BA.ch hwq (by simp), CC.trans hwq⟩
        case measure => simp [intOf]; omega
    · obtain rfl : k = n := by omega
      have HV : Hid (decide (a ∈ l) = false) := by
        show _ = _
        rw [← idxA_mem (a := a) l 0, idxA_miss (a := a) l 0 (fun j x hx => HH.out j x (by have := (List.getElem?_eq_some_iff.1 hx).1; rw [HN.out] at this; exact this) hx)]
        rfl
      go_wp2_with fail
      go_ret
      exact ⟨by (rw [HV.out]) <;> rfl, CC⟩
end Go.Proofs.YtjabeabbaambcaaDoor

/- slices.Clone over addresses. -/
namespace Go.Proofs.YtjabeabbaambcaaDoor
open Go.RowKit

set_option maxRecDepth 20000 in
set_option maxHeartbeats 4000000 in
theorem slClone (w : World) (b off n cap B : Nat) (l : List (Bool × List Int)) (h : Rd w B 17 (some ⟨b, off, none⟩) n (l.flatMap adrC)) (hB : B ≤ w.heap.size) (hl : n ≤ 1000000000000) :
    Calls Tryd.prog 62 #[.slice (some ⟨b, off, none⟩) n cap] w fun e w' => ∃ A' c', e = .returned (.slice A' n c') ∧ Own w' w.heap.size 29 17 A' n c' (l.flatMap adrC) ∧ Ch [] w w' := by
  have HR := hid h
  clear h
  have hq : ∀ w, (binOp .eql 22 (.slice (some ⟨b, off, none⟩) n cap) (.slice none 0 0)).run Tryd.prog w = .ok (.bool false) w := fun w => by
    have := Lib.run_eql_slice_nil (P := Tryd.prog) w 22 29 (some ⟨b, off, none⟩) n cap 0 0 Tryd.underlying22
    exact this
  go_enter Tryd.func62, Tryd.ntmps62
  have own0 : Own (w.alloc (.cells #[] 29)) w.heap.size 29 17 (some ⟨w.heap.size, 0, none⟩) 0 0 [] := Own.new w w.heap.size 29 17 [] 0 (Nat.le_refl _) (by unfold maxLen; omega) rfl
  have CC : Ch [] w (w.alloc (.cells #[] 29)) := (Ch.refl _ _).alloc _
  have HO : Hid (∀ u ∈ l.flatMap adrC, u.oneCell' = true) := flat_one l (fun x _ => adr_one x)
  go_wp2_with (at_builtin; (refine wpList_app _ rfl (.tmp 5) (.tmp 6) _ rfl w.heap.size 29 _ 17 17 Tryd.underlying22 addr_infoZ rfl (by omega) _ _ _ _ rfl own0 _ _ _ _ (l.flatMap adrC) rfl (HR.out.ch CC hB (by simp)) HO.out (by unfold maxLen; omega) (by omega) (by simp) ?_; intro A4 c4 w4 own4 ch4 at4))
  go_ret
  rw [Nat.zero_add, List.nil_append] at own4
  exact ⟨A4, c4, rfl, own4, CC.step ch4 (fun g hg => .inr (by simp [blkOf] at hg; omega))⟩
theorem slCloneNil (w : World) (n cap : Nat) :
    Calls Tryd.prog 62 #[.slice none n cap] w fun e w' => e = .returned (.slice none 0 0) ∧ Ch [] w w' := by
  have hq : ∀ w, (binOp .eql 22 (.slice none n cap) (.slice none 0 0)).run Tryd.prog w = .ok (.bool true) w := fun w => by
    have := Lib.run_eql_slice_nil (P := Tryd.prog) w 22 29 none n cap 0 0 Tryd.underlying22
    exact this
  go_enter Tryd.func62, Tryd.ntmps62
  go_wp2_with fail
  go_ret
  exact ⟨rfl, Ch.refl _ _⟩
/-- A slice of the call's own, cloned: nil or new. -/
theorem slCloneOwn (w : World) (A : Option Addr) (n c B : Nat) (l : List (Bool × List Int)) (h : Own w B 29 17 A n c (l.flatMap adrC)) (hl : n ≤ 1000000000000) :
    Calls Tryd.prog 62 #[.slice A n c] w fun e w' => ∃ A' c', e = .returned (.slice A' n c') ∧ Own w' w.heap.size 29 17 A' n c' (l.flatMap adrC) ∧ Ch [] w w' := by
  rcases A with _ | a
  · have hn : n = 0 := by
      rcases Nat.eq_zero_or_pos n with h0 | hp
      · exact h0
      · obtain ⟨g, hg, _⟩ := h.form hp
        cases hg
    subst hn
    have hz : l.flatMap adrC = [] := List.eq_nil_of_length_eq_zero (by rw [h.1, Nat.zero_mul])
    rw [hz]
    exact (slCloneNil w 0 c).mono fun _ _ ⟨h1, h2⟩ => ⟨none, 0, h1, Own.nil _ _ _ _, h2⟩
  · obtain ⟨g, rfl⟩ : ∃ g, a = ⟨g, 0, none⟩ := by
      rcases h.2 with ⟨h0, _⟩ | ⟨b, cp, cur, hv, _⟩
      · cases h0
      · simp only [Value.slice.injEq, Option.some.injEq] at hv
        exact ⟨b, hv.1⟩
    exact slClone w g 0 n c w.heap.size l h.rd (Nat.le_refl _) hl
end Go.Proofs.YtjabeabbaambcaaDoor

/- A query pair in memory: the program's and the reference's. -/
namespace Go.Proofs.YtjabeabbaambcaaDoor
open Go.RowKit

abbrev AL := List (Bool × List Int)
/-- What a pair holds: delay, cancelled, of each query: answered, when, the addresses. -/
structure QP where
  d : Int
  can : Bool
  an0 : Bool
  an1 : Bool
  at0 : Int
  at1 : Int
  l0 : AL
  l1 : AL
/-- The cells of the program's pair (false), of the reference's (true). -/
def prC (x : QP) (A0 : Option Addr) (c0 : Nat) (A1 : Option Addr) (c1 : Nat) : Bool → List Value
  | false => [.int .u64 x.d, .bool x.can, .bool x.an0, .int .u64 x.at0, .slice A0 x.l0.length c0, .bool x.an1, .int .u64 x.at1, .slice A1 x.l1.length c1]
  | true => [.int .u64 x.d, .bool x.can, .bool x.an0, .bool x.an1, .int .u64 x.at0, .int .u64 x.at1, .slice A0 x.l0.length c0, .slice A1 x.l1.length c1]
def prT : Bool → TypeId
  | false => 84
  | true => 39
structure PG (r : Bool) (w : World) (p : Nat) (x : QP) (A0 : Option Addr) (c0 : Nat) (A1 : Option Addr) (c1 : Nat) : Prop where
  blk : Blk w p (prT r) (prC x A0 c0 A1 c1 r)
  own0 : Own w (p + 1) 29 17 A0 x.l0.length c0 (x.l0.flatMap adrC)
  own1 : Own w (p + 1) 29 17 A1 x.l1.length c1 (x.l1.flatMap adrC)
  apart : ∀ a ∈ blkOf A0, ∀ b ∈ blkOf A1, a ≠ b
theorem PG.ch {S : List Nat} {r : Bool} {w w' : World} {p : Nat} {x : QP} {A0 A1 : Option Addr} {c0 c1 : Nat} (h : PG r w p x A0 c0 A1 c1) (hc : Ch S w w') (hp : p ∉ S) (h0 : ∀ g ∈ blkOf A0, g ∉ S) (h1 : ∀ g ∈ blkOf A1, g ∉ S) : PG r w' p x A0 c0 A1 c1 :=
  ⟨h.blk.ch hc hp, h.own0.ch hc h0, h.own1.ch hc h1, h.apart⟩
/-- A pair, and the list of its blocks. -/
def PF (r : Bool) (w : World) (p : Nat) (x : QP) (F : List Nat) : Prop := ∃ A0 c0 A1 c1, PG r w p x A0 c0 A1 c1 ∧ F = p :: (blkOf A0 ++ blkOf A1)
section
variable {S F : List Nat} {r : Bool} {w w' : World} {p : Nat} {x : QP}
theorem PF.ch (h : PF r w p x F) (hc : Ch S w w') (hp : ∀ g ∈ F, g ∉ S) : PF r w' p x F := by
  obtain ⟨A0, c0, A1, c1, hP, rfl⟩ := h
  exact ⟨A0, c0, A1, c1, hP.ch hc (hp _ (by simp)) (fun g hg => hp _ (by simp [hg])) (fun g hg => hp _ (by simp [hg])), rfl⟩
theorem PF.nil (h : PF r w p x F) (hc : Ch [] w w') : PF r w' p x F := h.ch hc (by simp)
theorem PF.lt (h : PF r w p x F) : ∀ g ∈ F, p ≤ g ∧ g < w.heap.size := by
  obtain ⟨A0, c0, A1, c1, hP, rfl⟩ := h
  intro g hg
  simp only [List.mem_cons, List.mem_append] at hg
  rcases hg with rfl | hg | hg
  · exact ⟨Nat.le_refl _, hP.blk.lt⟩
  · have := hP.own0.blks g hg; omega
  · have := hP.own1.blks g hg; omega
end
theorem qpFam (p : Nat) (v6 : Bool) (w : World) : Calls Tryd.prog 57 #[.pointer (some ⟨p, 0, none⟩), .bool v6] w fun e w' => e = .returned (.pointer (some ⟨p, if v6 then 5 else 2, none⟩)) ∧ w = w' := by
  cases v6
  all_goals
    go_enter Tryd.func57, Tryd.ntmps57
    go_wp2_with fail
    go_ret
    exact ⟨rfl, rfl⟩
theorem rpIdx (v6 : Bool) (w : World) : Calls Tryd.prog 60 #[.bool v6] w fun e w' => e = .returned (.int .i64 (if v6 then 1 else 0)) ∧ w = w' := by
  cases v6
  all_goals
    go_enter Tryd.func60, Tryd.ntmps60
    go_wp2_with fail
    go_ret
    exact ⟨rfl, rfl⟩
end Go.Proofs.YtjabeabbaambcaaDoor

/- What Answer records: plain; a pair's blocks as one list. -/
namespace Go.Proofs.YtjabeabbaambcaaDoor
open Go.RowKit

def keepA (v : Bool) (acc : AL) (a : Bool × List Int) : AL := if a.1 = v ∧ validA a.1 a.2 = true ∧ acc.length < 16 ∧ a ∉ acc then acc ++ [a] else acc
def keepL (v : Bool) (acc : AL) (l : AL) : AL := l.foldl (keepA v) acc
theorem keepA_len {v : Bool} {acc : AL} {a : Bool × List Int} (h : acc.length ≤ 16) : (keepA v acc a).length ≤ 16 := by
  unfold keepA
  split
  · rename_i hc
    rw [List.length_append]
    simp only [List.length_cons, List.length_nil]
    omega
  · exact h
theorem keepL_len {v : Bool} : ∀ (l : AL) {acc : AL}, acc.length ≤ 16 → (keepL v acc l).length ≤ 16
  | [], _, h => h
  | _ :: l, _, h => keepL_len l (keepA_len h)
theorem keepA_mem {v : Bool} {acc : AL} {a b : Bool × List Int} (h : b ∈ keepA v acc a) : b ∈ acc ∨ b = a := by
  unfold keepA at h
  split at h
  · simpa using h
  · exact .inl h
theorem keepL_mem {v : Bool} {b : Bool × List Int} : ∀ (l : AL) {acc : AL}, b ∈ keepL v acc l → b ∈ acc ∨ b ∈ l
  | [], _, h => .inl h
  | a :: l, _, h => by
    rcases keepL_mem l h with h | h
    · rcases keepA_mem h with h | h
      · exact .inl h
      · exact .inr (by simp [h])
    · exact .inr (List.mem_cons_of_mem _ h)
theorem keepL_snoc {v : Bool} {acc : AL} {l : AL} {k : Nat} {x : Bool × List Int} (h : l[k]? = some x) : keepL v acc (l.take (k + 1)) = keepA v (keepL v acc (l.take k)) x := by
  rw [take_oneA h, keepL, List.foldl_append]
  rfl
theorem keepL_full {v : Bool} : ∀ (l : AL) {acc : AL}, 16 ≤ acc.length → keepL v acc l = acc
  | [], _, _ => rfl
  | a :: l, acc, h => by
    have : keepA v acc a = acc := by
      unfold keepA
      rw [if_neg]
      omega
    show keepL v (keepA v acc a) l = acc
    rw [this]
    exact keepL_full l h
theorem keepL_stop {v : Bool} {acc : AL} (l : AL) (k : Nat) (h : 16 ≤ (keepL v acc (l.take k)).length) : keepL v acc l = keepL v acc (l.take k) := by
  conv => lhs; rw [← List.take_append_drop k l]
  rw [keepL, List.foldl_append]
  exact keepL_full (l.drop k) h

def QP.lst (x : QP) (v : Bool) : AL := if v then x.l1 else x.l0
def QP.an (x : QP) (v : Bool) : Bool := if v then x.an1 else x.an0
def QP.put (x : QP) (v : Bool) (now : Int) (l : AL) : QP := if v then { x with an1 := true, at1 := now, l1 := l } else { x with an0 := true, at0 := now, l0 := l }
def QP.answer (x : QP) (now : Int) (v : Bool) (l : AL) : QP := if x.can then x else if x.an v then x else x.put v now (keepL v (x.lst v) l)
def QP.answerN (x : QP) (v : Bool) (l : AL) : Int := if x.can then 0 else if x.an v then 0 else (keepL v (x.lst v) l).length
def QP.answerE (x : QP) (v : Bool) : Int := if x.can then 7 else if x.an v then 5 else 0
def QP.cancel (x : QP) : QP := { x with can := true, an0 := true, an1 := true }
def QP.dlOk (x : QP) : Bool := x.an0 && !x.an1 && decide (0 < x.l0.length)
def QP.dl (x : QP) : Int := if x.dlOk then addT x.at0 x.d else 0
def QP.ready (x : QP) (now : Int) : Bool := (x.an0 && x.an1) || decide (0 < x.l1.length) || (decide (0 < x.l0.length) && decide (addT x.at0 x.d ≤ now))
/-- What holds of every pair that the laws reach. -/
structure QP.wf (x : QP) : Prop where
  d : 0 ≤ x.d ∧ x.d ≤ 18446744073709551615
  at0 : 0 ≤ x.at0 ∧ x.at0 ≤ 18446744073709551615
  at1 : 0 ≤ x.at1 ∧ x.at1 ≤ 18446744073709551615
  n0 : x.l0.length ≤ 16
  n1 : x.l1.length ≤ 16
  g0 : ∀ a ∈ x.l0, GoodA a.2
  g1 : ∀ a ∈ x.l1, GoodA a.2
  e0 : x.an0 = false → x.l0 = []
  e1 : x.an1 = false → x.l1 = []
theorem QP.wf_new {d : Int} (h : 0 ≤ d ∧ d ≤ 18446744073709551615) : (QP.mk d false false false 0 0 [] []).wf :=
  ⟨h, ⟨by simp, by simp⟩, ⟨by simp, by simp⟩, by simp, by simp, by simp, by simp, fun _ => rfl, fun _ => rfl⟩
theorem QP.wf.cancel {x : QP} (h : x.wf) : x.cancel.wf := ⟨h.d, h.at0, h.at1, h.n0, h.n1, h.g0, h.g1, fun h => absurd h (by simp [QP.cancel]), fun h => absurd h (by simp [QP.cancel])⟩
theorem QP.wf.answer {x : QP} (h : x.wf) {now : Int} (hn : 0 ≤ now ∧ now ≤ 18446744073709551615) (v : Bool) {l : AL} (hl : ∀ a ∈ l, GoodA a.2) : (x.answer now v l).wf := by
  unfold QP.answer
  split
  · exact h
  · split
    · exact h
    · cases v
      · refine ⟨h.d, hn, h.at1, keepL_len l h.n0, h.n1, fun a ha => ?_, h.g1, fun h => absurd h (by simp [QP.put]), h.e1⟩
        rcases keepL_mem l ha with ha | ha
        · exact h.g0 a ha
        · exact hl a ha
      · refine ⟨h.d, h.at0, hn, h.n0, keepL_len l h.n1, h.g0, fun a ha => ?_, h.e0, fun h => absurd h (by simp [QP.put])⟩
        rcases keepL_mem l ha with ha | ha
        · exact h.g1 a ha
        · exact hl a ha
end Go.Proofs.YtjabeabbaambcaaDoor
