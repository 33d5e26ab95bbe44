/- ginnelref07.Split: the pieces between the occurrences of a byte. -/
import Derived.Test.YtjabeabbaambcaaDoorSplC
import Derived.Test.YtjabeabbaambcaaDoorMem
namespace Go.Proofs.YtjabeabbaambcaaDoor
open Go.RowKit

theorem str_info : (Tryd.prog.info? 9).map (fun i => (i.zero, i.size, i.bytes)) = some (some (Value.string ⟨#[]⟩), 1, 16) := by kernel_rfl
set_option maxHeartbeats 2000000 in
theorem refSplit (s : ByteArray) (c : Int) (hs : s.size ≤ 1000000) (w : World) : Calls Tryd.prog 87 #[.string s, .int .u8 c] w fun e w' => ∃ (A : Option Addr) (cp : Nat) (ps : List ByteArray), e = .returned (.slice A ps.length cp) ∧ ps.map numsOf = splitC c (numsOf s) ∧ Own w' w.heap.size 9 1 A ps.length cp (ps.map Value.string) ∧ Ch [] w w' := by
  go_enter Tryd.func87, Tryd.ntmps87
  go_wp2_with fail
  go_loopw [5, 6, 7] (fun a f i wr => ∃ (A : Option Addr) (cp m k n : Nat) (ps : List ByteArray), a = .slice A n cp ∧ f = .int .i64 m ∧ i = .int .i64 k ∧ m ≤ k ∧ k ≤ s.size ∧ ps.length = n ∧ n ≤ k ∧ Own wr w.heap.size 9 1 A n cp (ps.map Value.string) ∧ Hid (ps.map numsOf ++ splitC c ((numsOf s).drop m) = splitC c (numsOf s)) ∧ Hid (∀ j, m ≤ j → j < k → at_ (numsOf s) j ≠ c) ∧ Ch [] w wr) (fun _ _ i _ => s.size - (intOf i).toNat)
  case atStart => exact ⟨none, 0, 0, 0, 0, [], rfl, rfl, rfl, Nat.le_refl _, Nat.zero_le _, rfl, Nat.le_refl _, Own.nil _ _ _ _, by show _ = _; simp, by show ∀ _, _; intro j _ h; omega, Ch.refl _ _⟩
  case round =>
    obtain ⟨A, cp, m, k, n, ps, rfl, rfl, rfl, hmk, hk, hn, hnk, own, HS, HN, CC⟩ := hrel
    by_cases hp : k < s.size
    · have e0 : ((s[k]'hp).toNat : Int) = byt s k := byt_get hp
      have hat : byt s k = at_ (numsOf s) k := byt_at hp
      have hle := CC.size
      by_cases hx : byt s k = c
      · rw [hx] at e0
        have HS2 : Hid ((ps ++ [s.extract m k]).map numsOf ++ splitC c ((numsOf s).drop (k + 1)) = splitC c (numsOf s)) := by
          show _ = _
          rw [← HS.out, splitC_step c (numsOf s) m k hmk (by rw [numsOf_length]; exact hp) (by rw [← hat]; exact hx) HN.out, List.map_append, List.append_assoc, List.map_cons, List.map_nil, nums_ext]
          rfl
        clear hx hat
        have b1 : (m : Int) ≤ k := by omega
        have b2 : (k : Int) ≤ s.size := by omega
        go_wp2_with (at_builtin; (refine wpList_app _ rfl (.tmp 19) (.tmp 24) _ rfl w.heap.size 9 _ 1 16 Tryd.underlying93 str_info rfl (by omega) _ _ _ _ rfl (own.alloc _) _ _ _ _ [.string (s.extract m k)] rfl (Rd.new _ 1 [.string (s.extract m k)] 1 rfl _) (by simp [Value.oneCell']) (by unfold maxLen; omega) (by omega) (by simp only [World.size_alloc]; omega) ?_; intro A3 c3 w3 own3 ch3 at3))
        go_roundw
        case rel =>
          refine ⟨A3, c3, k + 1, k + 1, n + 1, ps ++ [s.extract m k], rfl, by go_num, by go_num, by omega, by omega, by simp [hn], by omega, ?_, HS2, by show ∀ _, _; intro j _ h; omega, (CC.alloc _).step ch3 (fun g' hg' => .inr (own.blks g' hg').1)⟩
          simpa [List.map_append] using own3
        case measure => simp only [intOf]; omega
      · have HN2 : Hid (∀ j, m ≤ j → j < k + 1 → at_ (numsOf s) j ≠ c) := by
          show ∀ _, _
          intro j h1 h2
          by_cases h3 : j = k
          · subst h3; rw [← hat]; exact hx
          · exact HN.out j h1 (by omega)
        have d0 : (byt s k == c) = false := by simpa using hx
        clear hx hat
        go_wp2_with fail
        go_roundw
        case rel => exact ⟨A, cp, m, k + 1, n, ps, rfl, rfl, by go_num, by omega, by omega, hn, by omega, own, HS, HN2, CC⟩
        case measure => simp only [intOf]; omega
    · obtain rfl : k = s.size := by omega
      have HS2 : Hid ((ps ++ [s.extract m s.size]).map numsOf = splitC c (numsOf s)) := by
        show _ = _
        rw [← HS.out, splitC_last c (numsOf s) m (fun j h1 h2 => HN.out j h1 (by rw [numsOf_length] at h2; exact h2)), List.map_append, List.map_cons, List.map_nil, nums_tail]
      have hle := CC.size
      have b1 : (m : Int) ≤ s.size := by omega
      go_wp2_with (at_builtin; (refine wpList_app _ rfl (.tmp 28) (.tmp 32) _ rfl w.heap.size 9 _ 1 16 Tryd.underlying93 str_info rfl (by omega) _ _ _ _ rfl (own.alloc _) _ _ _ _ [.string (s.extract m s.size)] rfl (Rd.new _ 1 [.string (s.extract m s.size)] 1 rfl _) (by simp [Value.oneCell']) (by unfold maxLen; omega) (by omega) (by simp only [World.size_alloc]; omega) ?_; intro A3 c3 w3 own3 ch3 at3))
      go_ret
      refine ⟨A3, c3, ps ++ [s.extract m s.size], by simp [hn], HS2.out, ?_, (CC.alloc _).step ch3 (fun g' hg' => .inr (own.blks g' hg').1)⟩
      have : (ps ++ [s.extract m s.size]).length = n + 1 := by simp [hn]
      rw [this]
      simpa [List.map_append] using own3
end Go.Proofs.YtjabeabbaambcaaDoor
