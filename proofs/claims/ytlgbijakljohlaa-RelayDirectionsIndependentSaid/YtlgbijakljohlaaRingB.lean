/- ring.Ring[byte]: what its methods compute: a contract each. A ring lies in two blocks: the struct's and the array's. -/
import Derived.Test.YtlgbijakljohlaaProg
import Derived.Test.YtlgbijakljohlaaBase
import Derived.Test.YtlgbijakljohlaaMem
import Derived.Test.YtlgbijakljohlaaStages
import Derived.Test.YtlgbijakljohlaaRingPlain
import Derived.Deep.DeepMust
import Derived.Laws.MakeOwn
import Derived.Deep.OwnRows
namespace Go.Proofs.Ytlgbijakljohlaa
open Go.RowKit

/-- The ring at block g, its array at block b, its capacity c: it holds the numbers xs, the oldest first. -/
def ringBAt (w : World) (g b c : Nat) (xs : List Int) : Prop :=
  ∃ (head : Nat) (arr : List Int), Blk w g 78 [.slice (some ⟨b, 0, none⟩) c c, .int .i64 head, .int .i64 xs.length] ∧ Blk w b 5 (arr.map (Value.int .u8)) ∧ RingOk c head arr xs

section
variable {w w' : World} {g b c : Nat} {xs : List Int}
theorem ringBAt.ch {S : List Nat} (h : ringBAt w g b c xs) (hc : Ch S w w') (hg : g ∉ S) (hb : b ∉ S) : ringBAt w' g b c xs := by
  obtain ⟨head, arr, h1, h2, h3⟩ := h
  exact ⟨head, arr, h1.ch hc hg, h2.ch hc hb, h3⟩
theorem ringBAt.heap (h : ringBAt w g b c xs) (e : w'.heap = w.heap) : ringBAt w' g b c xs := by
  obtain ⟨head, arr, h1, h2, h3⟩ := h
  exact ⟨head, arr, h1.heap e, h2.heap e, h3⟩
theorem ringBAt.below {B : Nat} (h : ringBAt w g b c xs) (hb : Below B w w') (h1 : g < B) (h2 : b < B) : ringBAt w' g b c xs := by
  obtain ⟨head, arr, k1, k2, k3⟩ := h
  exact ⟨head, arr, k1.below hb h1, k2.below hb h2, k3⟩
theorem ringBAt.lt (h : ringBAt w g b c xs) : g < w.heap.size ∧ b < w.heap.size ∧ g ≠ b ∧ xs.length ≤ c ∧ 1 ≤ c ∧ c ≤ 4096 := by
  obtain ⟨head, arr, h1, h2, h3⟩ := h
  exact ⟨h1.lt, h2.lt, h1.ne h2 (by decide), h3.len, h3.pos, h3.max⟩
end

theorem ringBAt.new {w : World} {g b c : Nat} {xs : List Int} (h : ringBAt w g b c xs) : RingLen c xs := ⟨h.lt.2.2.2.1, h.lt.2.2.2.2.1, h.lt.2.2.2.2.2⟩

theorem ringB_info : (Try.prog.info? 5).map (fun i => (i.zero, i.size, i.bytes)) = some (some (.int .u8 0), 1, 1) := by kernel_rfl

theorem ringBNew_ok (c : Nat) (w : World) (h0 : 1 ≤ c) (h1 : c ≤ 4096) :
    Calls Try.prog 36 #[.int .i64 c] w fun e w' => e = .returned (.tuple #[.pointer (some ⟨w.heap.size + 1, 0, none⟩), .int .i64 0]) ∧ ringBAt w' (w.heap.size + 1) w.heap.size c [] ∧ Ch [] w w' := by
  have hmk := fun W => run_make_row' (P := Try.prog) 64 5 (.int .u8 0) 1 Try.underlying64 ringB_info rfl .i64 .i64 c (by omega) (by omega) W
  go_enter Try.func36, Try.ntmps36
  go_wp2
  go_ret2
  have hm : madeCells #[Value.int .u8 0] c = ((List.replicate c (0 : Int)).map (Value.int .u8)).toArray := by
    apply Array.ext'
    rw [toList_madeCells_one]
    simp
  refine ⟨rfl, ⟨0, List.replicate c 0, ?_, ?_, RingOk.new c h0 h1⟩, ((Ch.refl _ _).alloc _).alloc _⟩
  · exact Blk.newAt _ _ _ (by simp)
  · rw [hm]
    exact (Blk.new w 5 _).alloc _
theorem ringBNew_bad (n : Int) (w : World) (h : n < 1 ∨ 4096 < n) :
    Calls Try.prog 36 #[.int .i64 n] w fun e w' => e = .returned (.tuple #[.pointer none, .int .i64 1]) ∧ w = w' := by
  by_cases c1 : n < 1
  · go_enter Try.func36, Try.ntmps36
    go_wp2
    go_ret2
    exact ⟨rfl, rfl⟩
  · have c2 : 4096 < n := by omega
    go_enter Try.func36, Try.ntmps36
    go_wp2
    go_ret2
    exact ⟨rfl, rfl⟩

theorem ringBSlot (w : World) (g b c head : Nat) (n : Int) (h : Blk w g 78 [.slice (some ⟨b, 0, none⟩) c c, .int .i64 head, .int .i64 n]) (hp : 1 ≤ c) (hm : c ≤ 4096) (hh : head < c) (i : Int) (h0 : 0 ≤ i) (hi : i ≤ 4096) :
    Calls Try.prog 38 #[.pointer (some ⟨g, 0, none⟩), .int .i64 i] w fun e w' => e = .returned (.pointer (some ⟨b, (head + i.toNat) % c, none⟩)) ∧ ∃ n, w' = w.drewN n := by
  obtain ⟨i, rfl⟩ := Int.eq_ofNat_of_zero_le h0
  have c0 : w.cell? ⟨g, 0, none⟩ = some (.slice (some ⟨b, 0, none⟩) c c) := h.cell 0
  have c1 : w.cell? ⟨g, 1, none⟩ = some (.int .i64 head) := h.cell 1
  have hcb : ((c : Int) == 0) = false := by simp; omega
  have m0 : 0 ≤ ((head : Int) + i) % c := Int.emod_nonneg _ (by omega)
  have m1 : ((head : Int) + i) % c < c := Int.emod_lt_of_pos _ (by omega)
  go_enter Try.func38, Try.ntmps38
  go_wp2
  go_quiet (fail)
  go_wp2
  go_ret
  exact ⟨rfl, _, rfl⟩
theorem ringBLen (w : World) (g b c : Nat) (xs : List Int) (h : ringBAt w g b c xs) :
    Calls Try.prog 33 #[.pointer (some ⟨g, 0, none⟩)] w fun e w' => e = .returned (.int .i64 xs.length) ∧ w = w' := by
  obtain ⟨head, arr, h1, _, _⟩ := h
  have c2 : w.cell? ⟨g, 2, none⟩ = some (.int .i64 xs.length) := h1.cell 2
  go_enter Try.func33, Try.ntmps33
  go_wp2
  go_ret
  exact ⟨rfl, rfl⟩
theorem ringBFree (w : World) (g b c : Nat) (xs : List Int) (h : ringBAt w g b c xs) :
    Calls Try.prog 37 #[.pointer (some ⟨g, 0, none⟩)] w fun e w' => e = .returned (.int .i64 ((c - xs.length : Nat) : Int)) ∧ ∃ n, w' = w.drewN n := by
  obtain ⟨head, arr, h1, _, h3⟩ := h
  have c0 : w.cell? ⟨g, 0, none⟩ = some (.slice (some ⟨b, 0, none⟩) c c) := h1.cell 0
  have c2 : w.cell? ⟨g, 2, none⟩ = some (.int .i64 xs.length) := h1.cell 2
  have hm := h3.max
  have hl := h3.len
  go_enter Try.func37, Try.ntmps37
  go_wp2
  go_quiet (fail)
  go_wp2
  go_ret
  exact ⟨ret_int (by omega), _, rfl⟩
set_option maxHeartbeats 1000000 in
theorem ringBPushM (w : World) (g b c : Nat) (xs : List Int) (h : ringBAt w g b c xs) (A : Option Addr) (len cap : Nat) (ys : List Int) (hrd : RdI .u8 w w.heap.size A len ys) (hA : ∀ x ∈ blkOf A, x ∉ [g, b]) (hlen : len ≤ cap) (hcap : cap ≤ 9223372036854775807)
    (F M : Nat) (hF : F = c - xs.length) (hM : (F < len ∧ M = F) ∨ (len ≤ F ∧ M = len)) :
    Calls Try.prog 25 #[.pointer (some ⟨g, 0, none⟩), .slice A len cap] w fun e w' => e = .returned (.int .i64 M) ∧ ringBAt w' g b c (xs ++ ys.take M) ∧ Ch [g, b] w w' := by
  obtain ⟨hg, hb, hgb, hl, hc1, hc2⟩ := h.lt
  have hyl := hrd.1
  have HX := hid h
  have hFc : xs.length + F ≤ c := by omega
  have HFe := hid hF
  have HY := hid hyl
  clear h hF hyl
  rcases hM with ⟨hM, rfl⟩ | ⟨hM, rfl⟩
  all_goals
    go_enter Try.func25, Try.ntmps25
    go_wp2_with ((go_at_call 37; with_reducible refine (ringBFree _ g b c xs HX.out).mono ?_; rw [← HFe.out]; rintro e w' ⟨rfl, q, rfl⟩))
    obtain ⟨head, arr0, h1, h2, h3⟩ := HX.out
    go_loopw [7, 17] (fun _ i wr => ∃ (k : Nat) (zs arr : List Int), k ≤ M ∧ i = .int .i64 k ∧ Hid (zs = xs ++ ys.take k) ∧ zs.length ≤ xs.length + k ∧ xs.length + k ≤ zs.length ∧ Blk wr g 78 [.slice (some ⟨b, 0, none⟩) c c, .int .i64 head, .int .i64 zs.length] ∧ Blk wr b 5 (arr.map (Value.int .u8)) ∧ RingOk c head arr zs ∧ Ch [g, b] w wr) (fun _ i _ => M - (intOf i).toNat)
    case atStart => exact ⟨0, xs, arr0, Nat.zero_le _, rfl, by simp [Hid], by omega, by omega, h1.heap rfl, h2.heap rfl, h3, (Ch.refl _ _).drewN _⟩
    case round =>
      clear h1 h2 h3
      obtain ⟨k, zs, arr, hk, rfl, hz, hz1, hz2, h1, h2, h3, hch⟩ := hrel
      by_cases hlt : k < M
      · obtain ⟨ba, off, rfl, hba, hcell⟩ := (hrd.ch hch (Nat.le_refl _) hA).at_ (show k < _ by omega)
        have hsz := h3.size
        have hidx : (head + zs.length) % c < arr.length := by rw [hsz]; exact Nat.mod_lt _ h3.pos
        have c2 : wr.cell? ⟨g, 2, none⟩ = some (.int .i64 zs.length) := h1.cell 2
        have f2 := h1.frozen 2
        have cb := h2.int hidx
        have fb := h2.frozen ((head + zs.length) % c)
        have HSZ := hid hsz
        have hne : g ≠ b := hgb
        clear hsz
        go_wp2_with (go_at_call 38; go_must (with_reducible refine (ringBSlot _ g b c head (zs.length : Int) ?_ h3.pos h3.max h3.hd _ ?_ ?_).mono ?_; exact h1; omega; omega; rw [show ((zs.length : Int)).toNat = zs.length from rfl]; rintro e w' ⟨rfl, q2, rfl⟩))
        go_roundw
        case rel =>
          have hzl : zs.length < c := by omega
          refine ⟨k + 1, zs ++ [at_ ys k], arr.set ((head + zs.length) % c) (at_ ys k), by omega, by go_num, ?_, by simp; omega, by simp; omega, ?_, ?_, h3.push hzl _, ?_⟩
          · show zs ++ [at_ ys k] = xs ++ ys.take (k + 1)
            rw [at_take_succ ys k (by rw [HY.out]; omega), hz.out, List.append_assoc]
          · have := (((h1.drewN q2).far (p := ⟨b, (head + zs.length) % c, none⟩) (by simpa using hgb) (.int .u8 (at_ ys k))).set 2 (.int .i64 (zs.length + 1)))
            simpa using this
          · exact ((h2.drewN q2).setInt _ _).far (p := ⟨g, 2, none⟩) (by simpa using hgb.symm) _
          · exact ((hch.drewN q2).setCell (p := ⟨b, _, none⟩) (.inl (by simp)) _).setCell (p := ⟨g, 2, none⟩) (.inl (by simp)) _
        case measure => simp [intOf]; omega
      · obtain rfl : k = M := by omega
        go_wp2
        go_ret
        exact ⟨rfl, ⟨head, arr, by rw [← hz.out]; exact h1, h2, by rw [← hz.out]; exact h3⟩, hch⟩
theorem ringBPush (w : World) (g b c : Nat) (xs : List Int) (h : ringBAt w g b c xs) (A : Option Addr) (len cap : Nat) (ys : List Int) (hrd : RdI .u8 w w.heap.size A len ys) (hA : ∀ x ∈ blkOf A, x ∉ [g, b]) (hlen : len ≤ cap) (hcap : cap ≤ 9223372036854775807) :
    Calls Try.prog 25 #[.pointer (some ⟨g, 0, none⟩), .slice A len cap] w fun e w' => e = .returned (.int .i64 (min ys.length (c - xs.length) : Nat)) ∧ ringBAt w' g b c (xs ++ ys.take (c - xs.length)) ∧ Ch [g, b] w w' := by
  have hyl := hrd.1
  rcases Nat.lt_or_ge (c - xs.length) len with hlt | hge
  · rw [show min ys.length (c - xs.length) = c - xs.length by omega]
    exact ringBPushM w g b c xs h A len cap ys hrd hA hlen hcap _ _ rfl (.inl ⟨hlt, rfl⟩)
  · rw [show min ys.length (c - xs.length) = len by omega, List.take_of_length_le (by omega)]
    have := ringBPushM w g b c xs h A len cap ys hrd hA hlen hcap _ _ rfl (.inr ⟨hge, rfl⟩)
    rwa [List.take_of_length_le (by omega)] at this
theorem ringBPushAs (w : World) (g b c : Nat) (xs : List Int) (h : ringBAt w g b c xs) (A : Option Addr) (len cap : Nat) (ys : List Int) (hrd : RdI .u8 w w.heap.size A len ys) (hA : ∀ x ∈ blkOf A, x ∉ [g, b]) (hlen : len ≤ cap) (hcap : cap ≤ 9223372036854775807)
    (r : Int) (zs : List Int) (hr : ((min ys.length (c - xs.length) : Nat) : Int) = r) (hz : xs ++ ys.take (c - xs.length) = zs) :
    Calls Try.prog 25 #[.pointer (some ⟨g, 0, none⟩), .slice A len cap] w fun e w' => e = .returned (.int .i64 r) ∧ ringBAt w' g b c zs ∧ Ch [g, b] w w' := by
  subst hr; subst hz; exact ringBPush w g b c xs h A len cap ys hrd hA hlen hcap
/-- A fresh slice of the first m numbers of xs. -/
def ringBGot (W : World) (m : Nat) (xs : List Int) (e : Ending) (w' : World) : Prop :=
  ∃ A cc, e = .returned (.slice A m cc) ∧ Own w' W.heap.size 5 1 A m cc ((xs.take m).map (Value.int .u8)) ∧ Ch [] W w'

set_option maxHeartbeats 1000000 in
theorem ringBPeekM (w : World) (g b c : Nat) (xs : List Int) (h : ringBAt w g b c xs) (n : Int) (M : Nat) (hM : ((n ≤ 0 ∨ 0 < n ∧ xs.length = 0) ∧ M = 0) ∨ (n = M ∧ 1 ≤ M ∧ M ≤ xs.length) ∨ ((xs.length : Int) < n ∧ 1 ≤ M ∧ M = xs.length)) :
    Calls Try.prog 35 #[.pointer (some ⟨g, 0, none⟩), .int .i64 n] w (ringBGot w M xs) := by
  obtain ⟨hg, hb, hgb, hl, hc1, hc2⟩ := h.lt
  obtain ⟨head, arr, h1, h2, h3⟩ := h
  have c2 : w.cell? ⟨g, 2, none⟩ = some (.int .i64 xs.length) := h1.cell 2
  have hsz := hid h3.size
  have hMl : M ≤ xs.length := by omega
  obtain ⟨L, hL⟩ : ∃ L, L = xs.length := ⟨_, rfl⟩
  rw [← hL] at c2 hM hMl hl
  have hL1 : L ≤ xs.length := by omega
  have hL2 : xs.length ≤ L := by omega
  clear hL
  rcases hM with ⟨hM, rfl⟩ | hM
  · rcases hM with hM | ⟨hM, rfl⟩
    all_goals
      go_enter Try.func35, Try.ntmps35
      go_wp2
      go_loopw [5, 14] (fun v i wr => i = .int .i64 0 ∧ v = .slice none 0 0 ∧ wr = w) (fun _ i _ => 0)
      case atStart => exact ⟨rfl, rfl, rfl⟩
      case round =>
        obtain ⟨rfl, rfl, rfl⟩ := hrel
        go_wp2
        go_ret
        exact ⟨none, 0, rfl, by simpa using Own.nil _ _ _ _, Ch.refl _ _⟩
  rcases hM with ⟨rfl, hM1, hM2⟩ | ⟨hM, hM1, rfl⟩
  all_goals
    go_enter Try.func35, Try.ntmps35
    go_wp2
    go_loopw [5, 14] (fun v i wr => ∃ (k : Nat) (A : Option Addr) (cc : Nat), k ≤ M ∧ i = .int .i64 k ∧ v = .slice A k cc ∧ Own wr w.heap.size 5 1 A k cc ((xs.take k).map (Value.int .u8)) ∧ Ch [] w wr) (fun _ i _ => M - (intOf i).toNat)
    case atStart => exact ⟨0, none, 0, Nat.zero_le _, rfl, rfl, Own.nil _ _ _ _, Ch.refl _ _⟩
    case round =>
      obtain ⟨k, A, cc, hk, rfl, rfl, hown, hch⟩ := hrel
      by_cases hlt : k < M
      · have hB := h1.ch hch (by simp)
        have hidx : (head + k) % c < arr.length := by rw [hsz.out]; exact Nat.mod_lt _ h3.pos
        have cb := (h2.ch hch (by simp)).int hidx
        rw [h3.held k (by omega)] at cb
        have hz := hch.size
        have HT := hid (at_take_succ xs k (by omega))
        go_wp2_with (first
          | (go_at_call 38; go_must (with_reducible refine (ringBSlot _ g b c head (xs.length : Int) ?_ h3.pos h3.max h3.hd _ ?_ ?_).mono ?_; exact hB; omega; omega; rw [show ((k : Int)).toNat = k from rfl]; rintro e w' ⟨rfl, q2, rfl⟩))
          | (at_builtin; go_must (refine wpList_app _ rfl (.tmp 17) (.tmp 23) _ rfl w.heap.size 5 _ 1 1 Try.underlying64 ringB_info rfl (by omega) _ _ _ _ rfl ((hown.drewN q2).alloc _) _ _ _ _ [.int .u8 (at_ xs k)] rfl (Rd.new _ 1 [.int .u8 (at_ xs k)] 1 rfl _) (by simp [Value.oneCell']) (by unfold maxLen; omega) (by omega) (by simp only [World.size_alloc, World.heap_drewN]; omega) ?_; intro A2 c2' w2 own2 ch2 at2)))
        go_roundw
        case rel =>
          refine ⟨k + 1, A2, c2', by omega, by go_num, rfl, ?_, ?_⟩
          · rw [HT.out, List.map_append]; exact own2
          · exact ((hch.drewN q2).alloc _).step ch2 (fun g' hg' => .inr (hown.blks g' hg').1)
        case measure => simp [intOf]; omega
      · obtain rfl : k = M := by omega
        go_wp2
        go_ret
        exact ⟨A, cc, rfl, hown, hch⟩
theorem ringBPeek (w : World) (g b c : Nat) (xs : List Int) (h : ringBAt w g b c xs) (n : Int) :
    Calls Try.prog 35 #[.pointer (some ⟨g, 0, none⟩), .int .i64 n] w (ringBGot w (min n.toNat xs.length) xs) := by
  by_cases h0 : n ≤ 0
  · exact ringBPeekM w g b c xs h n _ (.inl ⟨.inl h0, by omega⟩)
  · by_cases h1 : n ≤ xs.length ∧ xs.length ≠ 0
    · exact ringBPeekM w g b c xs h n _ (.inr (.inl ⟨by omega, by omega, by omega⟩))
    · by_cases h2 : xs.length = 0
      · exact ringBPeekM w g b c xs h n _ (.inl ⟨.inr ⟨by omega, h2⟩, by omega⟩)
      · exact ringBPeekM w g b c xs h n _ (.inr (.inr ⟨by omega, by omega, by omega⟩))
def ringBPopped (W : World) (g b c m : Nat) (xs : List Int) (e : Ending) (w' : World) : Prop :=
  ∃ A cc, e = .returned (.slice A m cc) ∧ Own w' W.heap.size 5 1 A m cc ((xs.take m).map (Value.int .u8)) ∧ ringBAt w' g b c (xs.drop m) ∧ Ch [g, b] W w'

set_option maxHeartbeats 1000000 in
theorem ringBPop (w : World) (g b c : Nat) (xs : List Int) (h : ringBAt w g b c xs) (n : Int) :
    Calls Try.prog 39 #[.pointer (some ⟨g, 0, none⟩), .int .i64 n] w (ringBPopped w g b c (min n.toNat xs.length) xs) := by
  obtain ⟨hg, hb, hgb, hl, hc1, hc2⟩ := h.lt
  have HX := hid h
  obtain ⟨M, hM⟩ : ∃ M, M = min n.toNat xs.length := ⟨_, rfl⟩
  have hML : M ≤ xs.length := by omega
  rw [← hM]
  have HM := hid hM
  clear h hM
  go_enter Try.func39, Try.ntmps39
  go_wp2_with fail
  refine (ringBPeek _ g b c xs HX.out n).mono ?_
  rw [← HM.out]
  rintro e w1 ⟨A, cc, rfl, hown, hch⟩
  obtain ⟨head, arr, k1, k2, h3⟩ := HX.out
  have h1 := k1.ch hch (by simp)
  have h2 := k2.ch hch (by simp)
  clear k1 k2
  have HSZ := hid h3.size
  have hz1 := hch.size
  have hA : ∀ x ∈ blkOf A, x ∉ [g, b] := fun x hx => by have := (hown.blks x hx).1; simp; omega
  go_wp2_with fail
  go_loopw [6, 7, 13] (fun _ _ i wr => ∃ (k : Nat) (arr' : List Int), k ≤ M ∧ i = .int .i64 k ∧ Blk wr g 78 [.slice (some ⟨b, 0, none⟩) c c, .int .i64 head, .int .i64 xs.length] ∧ Blk wr b 5 (arr'.map (Value.int .u8)) ∧ Hid (arr'.length = c) ∧
      Hid (∀ j, k ≤ j → j < xs.length → at_ arr' ((head + j) % c) = at_ arr ((head + j) % c)) ∧ Ch [g, b] w1 wr) (fun _ _ i _ => M - (intOf i).toNat)
  case atStart => exact ⟨0, arr, Nat.zero_le _, rfl, h1, h2, HSZ.out, fun _ _ _ => rfl, Ch.refl _ _⟩
  case round =>
    clear h1 h2
    obtain ⟨k, arr', hk, rfl, h1, h2, hs, he, hc⟩ := hrel
    by_cases hlt : k < M
    · have hidx : (head + k) % c < arr'.length := by rw [hs.out]; exact Nat.mod_lt _ h3.pos
      have cb := h2.int hidx
      have fb := h2.frozen ((head + k) % c)
      go_wp2_with (go_at_call 38; go_must (with_reducible refine (ringBSlot _ g b c head (xs.length : Int) ?_ h3.pos h3.max h3.hd _ ?_ ?_).mono ?_; exact h1; omega; omega; rw [show ((k : Int)).toNat = k from rfl]; rintro e w' ⟨rfl, q2, rfl⟩))
      go_roundw
      case rel =>
        refine ⟨k + 1, arr'.set ((head + k) % c) 0, by omega, by go_num, (h1.drewN q2).far (p := ⟨b, _, none⟩) (by simpa using hgb) _, (h2.drewN q2).setInt _ _, by show (List.set _ _ _).length = c; rw [List.length_set]; exact hs.out, fun j hj1 hj2 => ?_, (hc.drewN q2).setCell (p := ⟨b, _, none⟩) (.inl (by simp)) _⟩
        rw [at_set_ne (mod_ne (by omega) (by omega) (by omega))]
        exact he.out j (by omega) hj2
      case measure => simp [intOf]; omega
    · obtain rfl : k = M := by omega
      have c0 : wr.cell? ⟨g, 0, none⟩ = some (.slice (some ⟨b, 0, none⟩) c c) := h1.cell 0
      have c1 : wr.cell? ⟨g, 1, none⟩ = some (.int .i64 head) := h1.cell 1
      have c2 : wr.cell? ⟨g, 2, none⟩ = some (.int .i64 xs.length) := h1.cell 2
      have f1 := h1.frozen 1
      have f2 := h1.frozen 2
      have hhd := h3.hd
      have hcb : ((c : Int) == 0) = false := by simp; omega
      have m0 : 0 ≤ ((head : Int) + k) % c := Int.emod_nonneg _ (by omega)
      have m1 : ((head : Int) + k) % c < c := Int.emod_lt_of_pos _ (by omega)
      go_wp2_with fail
      refine wp_region_stages [([0, 1, 2, 3, 4, 5, 6, 7, 8, 9, 10, 11, 12, 13, 14, 15], 16, [])] [] (by kernel_rfl) (by kernel_rfl) ?_
      refine wpStages_step ?_
      simp only [pick, List.map_cons, List.map_nil, List.getD_cons_zero, List.getD_cons_succ]
      repeat (go_big_quiet_step (fail))
      refine wpQuiet_nil ?_
      intro nq
      simp only [pick, List.map_cons, List.map_nil, List.getD_cons_zero, List.getD_cons_succ]
      go_wp2
      refine stagePost_mk (by simp [pick]) ?_
      refine wpStages_last ?_
      simp only [pick, List.map_nil]
      refine wpQuiet_nil ?_
      intro nq2
      go_wp2
      go_ret
      have hB : Blk ((((wr.drewN nq).setCell ⟨g, 1, none⟩ (.int .i64 (((head : Int) + k) % c))).drewN nq2).setCell ⟨g, 2, none⟩ (.int .i64 (xs.length - k))) g 78 [.slice (some ⟨b, 0, none⟩) c c, .int .i64 ((head + k) % c : Nat), .int .i64 (xs.drop k).length] := by
        have := (((h1.drewN nq).set 1 (.int .i64 (((head : Int) + k) % c))).drewN nq2).set 2 (.int .i64 (xs.length - k))
        have e1 : (((head + k) % c : Nat) : Int) = ((head : Int) + k) % c := by simp
        have e2 : (((xs.drop k).length : Nat) : Int) = (xs.length : Int) - k := by rw [List.length_drop]; omega
        rw [e1, e2]
        exact this
      have hC : Ch [g, b] w1 ((((wr.drewN nq).setCell ⟨g, 1, none⟩ (.int .i64 (((head : Int) + k) % c))).drewN nq2).setCell ⟨g, 2, none⟩ (.int .i64 (xs.length - k))) :=
        (((hc.drewN nq).setCell (p := ⟨g, 1, none⟩) (.inl (by simp)) _).drewN nq2).setCell (p := ⟨g, 2, none⟩) (.inl (by simp)) _
      refine ⟨A, cc, rfl, hown.ch hC hA, ⟨(head + k) % c, arr', hB, ?_, h3.drop k (by omega) hs.out he.out⟩, (hch.mono (by simp)).trans hC⟩
      exact (((h2.drewN nq).far (p := ⟨g, 1, none⟩) (by simpa using hgb.symm) _).drewN nq2).far (p := ⟨g, 2, none⟩) (by simpa using hgb.symm) _
end Go.Proofs.Ytlgbijakljohlaa
