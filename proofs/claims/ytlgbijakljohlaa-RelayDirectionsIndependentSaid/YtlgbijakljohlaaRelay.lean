/- What the methods of relay.Relay compute: a contract each. -/
import Derived.Test.YtlgbijakljohlaaPipe
import Derived.Test.YtlgbijakljohlaaTrs
import Derived.Test.YtlgbijakljohlaaStages3
namespace Go.Proofs.Ytlgbijakljohlaa
open Go.RowKit

structure PB where
  p : Nat
  g : Nat
  b : Nat
structure PD where
  xs : List Int
  cr : Int
  cl : Bool
  dr : Bool
def PD.n (x : PD) : Nat := min x.cr.toNat x.xs.length
def PD.e (x : PD) : Bool := x.cl && decide (x.xs.length ≤ x.n) && !x.dr
def PD.rd (x : PD) : PD := ⟨x.xs.drop x.n, x.cr - x.n, x.cl, x.dr || x.e⟩
def PD.trs (up : Bool) (x : PD) : List (Bool × ByteArray × Bool) := if x.n = 0 ∧ x.e = false then [] else [(up, strOfNums (x.xs.take x.n), x.e)]
def pAt (w : World) (B : PB) (c : Nat) (x : PD) : Prop := pipeAt w B.p B.g B.b c x.xs x.cr x.cl x.dr
def relSep (q : Nat) (B1 B2 : PB) : Prop :=
  q < B1.b ∧ q < B1.g ∧ q < B1.p ∧ B1.b < B2.b ∧ B1.b < B2.g ∧ B1.b < B2.p ∧ B1.g < B2.b ∧ B1.g < B2.g ∧ B1.g < B2.p ∧ B1.p < B2.b ∧ B1.p < B2.g ∧ B1.p < B2.p
theorem pAt.lt {w : World} {B : PB} {c : Nat} {x : PD} (h : pAt w B c x) : B.p < w.heap.size ∧ B.g < w.heap.size ∧ B.b < w.heap.size ∧ B.p ≠ B.g ∧ B.p ≠ B.b ∧ B.g ≠ B.b ∧ x.xs.length ≤ c ∧ 1 ≤ c ∧ c ≤ 4096 := pipeAt.lt h
theorem pAt.ch {w w' : World} {B : PB} {c : Nat} {x : PD} {S : List Nat} (h : pAt w B c x) (hc : Ch S w w') (hp : B.p ∉ S) (hg : B.g ∉ S) (hb : B.b ∉ S) : pAt w' B c x := pipeAt.ch h hc hp hg hb
theorem pAt.heap {w w' : World} {B : PB} {c : Nat} {x : PD} (h : pAt w B c x) (e : w'.heap = w.heap) : pAt w' B c x := pipeAt.heap h e

structure relayAt (w : World) (q c : Nat) (B1 B2 : PB) (x y : PD) : Prop where
  blk : Blk w q 57 [.pointer (some ⟨B1.p, 0, none⟩), .pointer (some ⟨B2.p, 0, none⟩)]
  dn : pAt w B1 c x
  up : pAt w B2 c y
  sep : relSep q B1 B2
section
variable {w w' : World} {q c : Nat} {B1 B2 : PB} {x y : PD}
theorem relayAt.heap (h : relayAt w q c B1 B2 x y) (e : w'.heap = w.heap) : relayAt w' q c B1 B2 x y := ⟨h.blk.heap e, h.dn.heap e, h.up.heap e, h.sep⟩
theorem relayAt.ch {S : List Nat} (h : relayAt w q c B1 B2 x y) (hc : Ch S w w') (hS : ∀ k ∈ S, k < q ∨ B2.p < k ∧ B2.g < k ∧ B2.b < k) : relayAt w' q c B1 B2 x y := by
  have hs := h.sep
  unfold relSep at hs
  have hn : ∀ k, (q = k ∨ B1.p = k ∨ B1.g = k ∨ B1.b = k ∨ B2.p = k ∨ B2.g = k ∨ B2.b = k) → k ∉ S := by
    intro k hk hm
    have := hS k hm
    omega
  exact ⟨h.blk.ch hc (hn _ (by simp)), h.dn.ch hc (hn _ (by simp)) (hn _ (by simp)) (hn _ (by simp)), h.up.ch hc (hn _ (by simp)) (hn _ (by simp)) (hn _ (by simp)), hs⟩
/-- Only the pipe towards the client has changed. -/
theorem relayAt.dnCh {S : List Nat} (h : relayAt w q c B1 B2 x y) (hc : Ch S w w') (hS : ∀ k ∈ S, k = B1.p ∨ k = B1.g ∨ k = B1.b) {x' : PD} (hx : pAt w' B1 c x') : relayAt w' q c B1 B2 x' y := by
  have hs := h.sep
  unfold relSep at hs
  have hn : ∀ k, (q = k ∨ B2.p = k ∨ B2.g = k ∨ B2.b = k) → k ∉ S := by
    intro k hk hm
    have := hS k hm
    omega
  exact ⟨h.blk.ch hc (hn _ (by simp)), hx, h.up.ch hc (hn _ (by simp)) (hn _ (by simp)) (hn _ (by simp)), hs⟩
theorem relayAt.upCh {S : List Nat} (h : relayAt w q c B1 B2 x y) (hc : Ch S w w') (hS : ∀ k ∈ S, k = B2.p ∨ k = B2.g ∨ k = B2.b) {y' : PD} (hy : pAt w' B2 c y') : relayAt w' q c B1 B2 x y' := by
  have hs := h.sep
  unfold relSep at hs
  have hn : ∀ k, (q = k ∨ B1.p = k ∨ B1.g = k ∨ B1.b = k) → k ∉ S := by
    intro k hk hm
    have := hS k hm
    omega
  exact ⟨h.blk.ch hc (hn _ (by simp)), h.dn.ch hc (hn _ (by simp)) (hn _ (by simp)) (hn _ (by simp)), hy, hs⟩
end

theorem pNew (n : Int) (c : Nat) (hn : n = c) (w : World) (h0 : 1 ≤ c) (h1 : c ≤ 4096) :
    Calls Try.prog 24 #[.int .i64 n] w fun e w' => ∃ B : PB, e = .returned (.tuple #[.pointer (some ⟨B.p, 0, none⟩), .int .i64 0]) ∧ w.heap.size ≤ B.p ∧ w.heap.size ≤ B.g ∧ w.heap.size ≤ B.b ∧ pAt w' B c ⟨[], 0, false, false⟩ ∧ Ch [] w w' := by
  refine (pipeNew_as n c hn w h0 h1).mono ?_
  rintro e w' ⟨p, rfl, hp, R, C⟩
  exact ⟨⟨p, w.heap.size + 1, w.heap.size⟩, rfl, by show _ ≤ p; omega, by show _ ≤ w.heap.size + 1; omega, Nat.le_refl _, R, C⟩

section
variable (w : World) (B : PB) (c : Nat) (x : PD) (h : pAt w B c x)
include h
theorem pDrained : Calls Try.prog 34 #[.pointer (some ⟨B.p, 0, none⟩)] w fun e w' => e = .returned (.bool x.dr) ∧ w = w' := pipeDrained w _ _ _ c _ _ _ _ h
theorem pCloseWrite : Calls Try.prog 13 #[.pointer (some ⟨B.p, 0, none⟩)] w fun e w' => e = .returned (.bool (!x.cl)) ∧ pAt w' B c ⟨x.xs, x.cr, true, x.dr⟩ ∧ Ch [B.p] w w' := pipeCloseWrite w _ _ _ c _ _ _ _ h
theorem pAddCredit (n : Int) (h0 : 0 ≤ n) (h1 : n ≤ 18446744073709551615) : Calls Try.prog 11 #[.pointer (some ⟨B.p, 0, none⟩), .int .u64 n] w fun e w' => e = .returned (.tuple #[]) ∧ pAt w' B c ⟨x.xs, addT x.cr n, x.cl, x.dr⟩ ∧ Ch [B.p] w w' := pipeAddCredit w _ _ _ c _ _ _ _ h n h0 h1
theorem pBytes (s : ByteArray) (hs : strOfNums x.xs = s) : Calls Try.prog 21 #[.pointer (some ⟨B.p, 0, none⟩)] w fun e w' => e = .returned (.string s) ∧ Ch [] w w' := by subst hs; exact pipeBytes w _ _ _ c _ _ _ _ h
theorem pRead (s : ByteArray) (hs : strOfNums (x.xs.take x.n) = s) (e : Bool) (he : x.e = e) (x' : PD) (hx : x.rd = x') :
    Calls Try.prog 31 #[.pointer (some ⟨B.p, 0, none⟩)] w fun r w' => r = .returned (.tuple #[.string s, .bool e]) ∧ pAt w' B c x' ∧ Ch [B.g, B.b, B.p] w w' := by
  subst hs he hx
  exact pipeRead w _ _ _ c _ _ _ _ h
theorem pWrite (s : ByteArray) (hs : s.size ≤ maxLen) (n : Nat) (hn : (if x.cl then 0 else min s.size (c - x.xs.length)) = n) :
    Calls Try.prog 9 #[.pointer (some ⟨B.p, 0, none⟩), .string s] w fun e w' => e = .returned (.int .i64 n) ∧ pAt w' B c ⟨x.xs ++ (numsOf s).take n, x.cr, x.cl, x.dr⟩ ∧ Ch [B.g, B.b] w w' := by
  obtain ⟨xs, cr, cl, dr⟩ := x
  cases cl
  · simp only [Bool.false_eq_true, if_false] at hn
    refine (pipeWrite_open w _ _ _ c xs cr false dr h s hs rfl).mono ?_
    rintro e w' ⟨rfl, R, C⟩
    have e1 : (numsOf s).take (c - xs.length) = (numsOf s).take n := by
      subst hn
      rcases Nat.le_total s.size (c - xs.length) with h1 | h1
      · rw [Nat.min_eq_left h1, List.take_of_length_le (by rw [numsOf_length]; omega), List.take_of_length_le (by rw [numsOf_length]; omega)]
      · rw [Nat.min_eq_right h1]
    rw [e1] at R
    rw [hn]
    exact ⟨rfl, R, C⟩
  · simp only [if_true] at hn
    subst hn
    refine (pipeWrite_shut w _ _ _ c xs cr true dr h s rfl).mono ?_
    rintro e w' ⟨rfl, rfl⟩
    exact ⟨rfl, by simpa using h, Ch.refl _ _⟩
end

section
variable (w : World) (q c : Nat) (B1 B2 : PB) (x y : PD) (h : relayAt w q c B1 B2 x y)
include h
theorem relayPipe (up : Bool) (P : Nat) (hP : (if up then B2.p else B1.p) = P) : Calls Try.prog 8 #[.pointer (some ⟨q, 0, none⟩), .bool up] w fun e w' => e = .returned (.pointer (some ⟨P, 0, none⟩)) ∧ w = w' := by
  subst hP
  have c0 : w.cell? ⟨q, 0, none⟩ = some (.pointer (some ⟨B1.p, 0, none⟩)) := h.blk.cell 0
  have c1 : w.cell? ⟨q, 1, none⟩ = some (.pointer (some ⟨B2.p, 0, none⟩)) := h.blk.cell 1
  cases up
  all_goals
    go_enter Try.func8, Try.ntmps8
    go_wp2
    go_ret
    exact ⟨rfl, rfl⟩
omit h in
theorem relaySel (both : Bool) (n : Nat) (hn : (if both then 2 else 1) = n) : Calls Try.prog 30 #[.pointer (some ⟨q, 0, none⟩), .bool both] w fun e w' => e = .returned (.slice (some ⟨q, 0, none⟩) n 2) ∧ w = w' := by
  subst hn
  cases both
  all_goals
    go_enter Try.func30, Try.ntmps30
    go_wp2
    go_ret
    exact ⟨rfl, rfl⟩
theorem relayBuffered (r : Int) (hr : (x.xs.length : Int) + y.xs.length = r) : Calls Try.prog 18 #[.pointer (some ⟨q, 0, none⟩)] w fun e w' => e = .returned (.int .i64 r) ∧ ∃ n, w' = w.drewN n := by
  subst hr
  have c0 : w.cell? ⟨q, 0, none⟩ = some (.pointer (some ⟨B1.p, 0, none⟩)) := h.blk.cell 0
  have c1 : w.cell? ⟨q, 1, none⟩ = some (.pointer (some ⟨B2.p, 0, none⟩)) := h.blk.cell 1
  have d0 : w.cell? ⟨B1.p, 0, none⟩ = some (.pointer (some ⟨B1.g, 0, none⟩)) := h.dn.blk.cell 0
  have u0 : w.cell? ⟨B2.p, 0, none⟩ = some (.pointer (some ⟨B2.g, 0, none⟩)) := h.up.blk.cell 0
  have hl1 := h.dn.lt
  have hl2 := h.up.lt
  have R1 : ∀ n, ringBAt (w.drewN n) B1.g B1.b c x.xs := fun n => h.dn.ring.heap rfl
  have R2 : ∀ n, ringBAt (w.drewN n) B2.g B2.b c y.xs := fun n => h.up.ring.heap rfl
  go_enter Try.func18, Try.ntmps18
  go_wp2
  go_quiet ((go_at_call 33; first | exact quiet_eq (ringBLen _ B1.g B1.b c x.xs (R1 _)) | exact quiet_eq (ringBLen _ B2.g B2.b c y.xs (R2 _))))
  go_wp2
  go_ret
  exact ⟨rfl, _, rfl⟩
theorem relayDrained (both : Bool) (r : Bool) (hr : (x.dr && (!both || y.dr)) = r) : Calls Try.prog 19 #[.pointer (some ⟨q, 0, none⟩), .bool both] w fun e w' => e = .returned (.bool r) ∧ w = w' := by
  subst hr
  have c0 : w.cell? ⟨q, 0, none⟩ = some (.pointer (some ⟨B1.p, 0, none⟩)) := h.blk.cell 0
  have c1 : w.cell? ⟨q, 1, none⟩ = some (.pointer (some ⟨B2.p, 0, none⟩)) := h.blk.cell 1
  obtain ⟨n, hn⟩ : ∃ n, (if both then 2 else 1) = n := ⟨_, rfl⟩
  have HN := hid hn
  have hn2 : both = true ∧ (2 ≤ n ∧ n ≤ 2) ∨ both = false ∧ (1 ≤ n ∧ n ≤ 1) := by cases both <;> simp at hn <;> simp [← hn]
  clear hn
  go_enter Try.func19, Try.ntmps19
  go_wp2_with (go_at_call 30; go_must ((with_reducible refine (relaySel _ q both n HN.out).mono ?_); rintro e w' ⟨rfl, rfl⟩))
  go_loopw [11] (fun i wr => (i = .int .i64 0 ∨ i = .int .i64 1 ∧ Hid (x.dr = true) ∨ i = .int .i64 2 ∧ Hid (n = 2 ∧ x.dr = true ∧ y.dr = true)) ∧ Hid (w = wr)) (fun i _ => 3 - (intOf i).toNat)
  case atStart => exact ⟨.inl rfl, rfl⟩
  case round =>
    obtain ⟨hi, hw⟩ := hrel
    obtain rfl := hw.out
    rcases hi with rfl | ⟨rfl, hx⟩ | ⟨rfl, HX⟩
    rotate_left 2
    · obtain ⟨hn, hx, hy⟩ := HX.out
      go_wp2
      go_ret
      exact ⟨ret_bool (by simp [*]), rfl⟩
    · rcases Bool.eq_false_or_eq_true x.dr with hd | hd
      rotate_left
      · go_wp2_with (go_at_call 34; go_must ((with_reducible refine (pDrained _ B1 c x h.dn).mono ?_); rintro e w' ⟨rfl, rfl⟩))
        go_ret
        exact ⟨ret_bool (by simp [*]), rfl⟩
      · go_wp2_with (go_at_call 34; go_must ((with_reducible refine (pDrained _ B1 c x h.dn).mono ?_); rintro e w' ⟨rfl, rfl⟩))
        go_roundw
        case rel => exact ⟨.inr (.inl ⟨rfl, hd⟩), hid trivial⟩
        case measure => simp [intOf]
    · have hx := hx.out
      rcases hn2 with ⟨rfl, hn, hn1⟩ | ⟨rfl, hn, hn1⟩
      · rcases Bool.eq_false_or_eq_true y.dr with hd | hd
        rotate_left
        · go_wp2_with (go_at_call 34; go_must ((with_reducible refine (pDrained _ B2 c y h.up).mono ?_); rintro e w' ⟨rfl, rfl⟩))
          go_ret
          exact ⟨ret_bool (by simp [*]), rfl⟩
        · go_wp2_with (go_at_call 34; go_must ((with_reducible refine (pDrained _ B2 c y h.up).mono ?_); rintro e w' ⟨rfl, rfl⟩))
          go_roundw
          case rel => exact ⟨.inr (.inr ⟨rfl, hid ⟨by omega, hx, hd⟩⟩), hid trivial⟩
          case measure => simp [intOf]
      · go_wp2
        go_ret
        exact ⟨ret_bool (by simp [*]), rfl⟩
end
end Go.Proofs.Ytlgbijakljohlaa
