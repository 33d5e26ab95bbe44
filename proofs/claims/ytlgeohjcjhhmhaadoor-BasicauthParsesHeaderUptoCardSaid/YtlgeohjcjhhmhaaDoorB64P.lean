/- basicauth.EncodeBase64 (printed by mk_b64p.py). -/
import Derived.Test.YtlgeohjcjhhmhaaDoorB64
import Derived.Test.YtlgeohjcjhhmhaaDoorRefReply
namespace Go.Proofs.YtlgeohjcjhhmhaaDoor
open Go.RowKit

def alphB : ByteArray := ⟨#[65, 66, 67, 68, 69, 70, 71, 72, 73, 74, 75, 76, 77, 78, 79, 80, 81, 82, 83, 84, 85, 86, 87, 88, 89, 90, 97, 98, 99, 100, 101, 102, 103, 104, 105, 106, 107, 108, 109, 110, 111, 112, 113, 114, 115, 116, 117, 118, 119, 120, 121, 122, 48, 49, 50, 51, 52, 53, 54, 55, 56, 57, 43, 47]⟩
theorem alphB_size : alphB.size = 64 := rfl
theorem alphN (m : Nat) (h : m < 64) (l : Int) (hl : b64L m = l) : ((alphB[m]'h).toNat : Int) = l := by
  rw [← hl]; exact alph_at ⟨m, h⟩
theorem mask63 (x : Int) (h0 : 0 ≤ x) (h1 : x < 16777216) (m : Nat) (hm : x % 64 = m) : bits .and .i64 x 63 = m := by
  obtain ⟨n, rfl⟩ := Int.eq_ofNat_of_zero_le h0
  have := i64_mask n 6 63 (by decide) (by omega) (by omega)
  rw [show ((63 : Nat) : Int) = 63 from rfl] at this
  rw [this]; omega
theorem or8 (x y : Int) (h0 : 0 ≤ x) (h1 : x < 65536) (h2 : 0 ≤ y) (h3 : y ≤ 255) : bits .or .i64 (x * 256) y = x * 256 + y := by
  obtain ⟨a, rfl⟩ := Int.eq_ofNat_of_zero_le h0
  obtain ⟨b, rfl⟩ := Int.eq_ofNat_of_zero_le h2
  have := i64_or a b 8 (by omega) (by omega)
  rw [show ((2 ^ 8 * a : Nat) : Int) = (a : Int) * 256 by omega] at this
  rw [this]; omega

theorem numsOf_drop (u : ByteArray) (k : Nat) : numsOf (u.extract k u.size) = (numsOf u).drop k := by
  unfold numsOf
  rw [ByteArray.data_extract, Array.toList_extract, List.extract_eq_take_drop, List.map_take, List.map_drop]
  refine List.take_of_length_le ?_
  rw [List.length_drop, List.length_map, Array.length_toList]; exact Nat.le_refl _
theorem drop_ge (xs : List Int) (a b : Nat) (h1 : xs.length ≤ a) (h2 : xs.length ≤ b) : xs.drop a = xs.drop b := by rw [List.drop_eq_nil_of_le h1, List.drop_eq_nil_of_le h2]

set_option maxRecDepth 100000 in
set_option maxHeartbeats 8000000 in
theorem b64P (s : ByteArray) (hm : s.size ≤ 1500000) (w : World) : Calls Tryd.prog 22 #[.string s] w fun e w' => e = .returned (.string (strOfNums (enc (numsOf s)))) ∧ Ch [] w w' := by
  go_enter Tryd.func22, Tryd.ntmps22
  go_wp2_with fail
  go_loopw [0, 3] (fun x b wr => ∃ (u : ByteArray) (out : List Int) (A : Option Addr) (n c : Nat), x = .string u ∧ b = .slice A n c ∧ Own wr w.heap.size 5 1 A n c (out.map (Value.int .u8)) ∧ Hid (out ++ enc (numsOf u) = enc (numsOf s)) ∧ u.size ≤ s.size ∧ n + (u.size + 2) / 3 * 4 ≤ (s.size + 2) / 3 * 4 ∧ Ch [] w wr) (fun x _ _ => strLen x)
  case atStart => exact ⟨s, [], none, 0, 0, rfl, rfl, Own.nil _ _ _ _, by show _ = _; simp, Nat.le_refl _, by omega, Ch.refl _ _⟩
  case round =>
    obtain ⟨u, out, A, n, c, rfl, rfl, own, hE, hus, hn, CC⟩ := hrel
    have hw := CC.size
    by_cases hp : 0 < u.size
    · have hg := enc_group (numsOf u) (by rw [numsOf_length]; exact hp)
      rw [numsOf_length, ← byt_at (i := 0) hp] at hg
      obtain ⟨a0, a1⟩ := byt_rng u 0
      have e0 : ((u[0]'hp).toNat : Int) = byt u 0 := byt_get hp
      rcases (show u.size = 1 ∨ u.size = 2 ∨ 3 ≤ u.size by omega) with h1 | h2 | h3
      · skip
        rw [if_neg (show ¬ 2 ≤ u.size by omega)] at hg
        simp only [if_neg (show ¬ 2 ≤ u.size by omega), if_neg (show ¬ 3 ≤ u.size by omega)] at hg
        generalize byt u 0 = b0 at a0 a1 e0 hg
        obtain ⟨l0, k0⟩ : ∃ l, b64L (b0 / 4) = l := ⟨_, rfl⟩
        obtain ⟨l1, k1⟩ : ∃ l, b64L (b0 % 4 * 16 + 0 / 16) = l := ⟨_, rfl⟩
        rw [k0, k1] at hg
        have HG := hid hg
        clear hg
        obtain ⟨V1, hV1⟩ : ∃ v, b0 * 256 + 0 = v := ⟨_, rfl⟩
        obtain ⟨V, hV⟩ : ∃ v, V1 * 256 + 0 = v := ⟨_, rfl⟩
        have v1 : 0 ≤ V1 ∧ V1 ≤ 65535 := by omega
        have v2 : 0 ≤ V ∧ V ≤ 16777215 := by omega
        obtain ⟨m0, d0⟩ : ∃ m : Nat, V / 262144 % 64 = m := ⟨(V / 262144 % 64).toNat, by omega⟩
        have f0 : m0 < 64 := by omega
        have q0 : bits .and .i64 (V / 262144) 63 = m0 := mask63 _ (by omega) (by omega) _ d0
        have g0 : ((alphB[m0]'f0).toNat : Int) = l0 := alphN m0 f0 l0 (by rw [← k0]; congr 1; omega)
        obtain ⟨m1, d1⟩ : ∃ m : Nat, V / 4096 % 64 = m := ⟨(V / 4096 % 64).toNat, by omega⟩
        have f1 : m1 < 64 := by omega
        have q1 : bits .and .i64 (V / 4096) 63 = m1 := mask63 _ (by omega) (by omega) _ d1
        have g1 : ((alphB[m1]'f1).toNat : Int) = l1 := alphN m1 f1 l1 (by rw [← k1]; congr 1; omega)
        have r0 : bits .or .i64 0 b0 = b0 := by have := or8 0 b0 (by omega) (by omega) (by omega) (by omega); simpa using this
        clear k0 d0 k1 d1
        have hmin : min (u.size : Int) 3 = 1 := by omega
        go_wp2_with (refine wpList_min rfl _ _ _ rfl _ _ _ _ _ rfl rfl hmin ?_)
        go_loopw [5, 14] (fun v i wr2 => (i = .int .i64 0 ∧ v = .int .i64 0 ∨ i = .int .i64 1 ∧ v = .int .i64 b0 ∨ i = .int .i64 2 ∧ v = .int .i64 V1 ∨ i = .int .i64 3 ∧ v = .int .i64 V) ∧ wr2 = wr) (fun _ i _ => 3 - (intOf i).toNat)
        case atStart => exact ⟨.inl ⟨rfl, rfl⟩, rfl⟩
        case round =>
          obtain ⟨hv, rfl⟩ := hrel
          rcases hv with ⟨rfl, rfl⟩ | ⟨rfl, rfl⟩ | ⟨rfl, rfl⟩ | ⟨rfl, rfl⟩
          · go_wp2_with fail
            go_roundw
            case rel => exact ⟨.inr (.inl ⟨by go_num, by go_num⟩), by first | trivial | rfl⟩
            case measure => simp [intOf]
          · go_wp2_with fail
            go_roundw
            case rel => exact ⟨.inr (.inr (.inl ⟨by go_num, by go_num⟩)), by first | trivial | rfl⟩
            case measure => simp [intOf]
          · go_wp2_with fail
            go_roundw
            case rel => exact ⟨.inr (.inr (.inr ⟨by go_num, by go_num⟩)), by first | trivial | rfl⟩
            case measure => simp [intOf]
          · go_wp2_with fail
            have own' : Own wr w.heap.size 5 1 A n c ((out ++ []).map (Value.int .u8)) := by rw [List.append_nil]; exact own
            go_loopw [3, 29] (fun b i wr3 => ∃ (k : Nat) (A2 : Option Addr) (c2 : Nat) (ls : List Int), Hid (ls = [l0, l1, 61, 61].take k) ∧ k ≤ 4 ∧ i = .int .i64 k ∧ b = .slice A2 (n + k) c2 ∧ Own wr3 w.heap.size 5 1 A2 (n + k) c2 ((out ++ ls).map (Value.int .u8)) ∧ Ch [] w wr3) (fun _ i _ => 4 - (intOf i).toNat)
            case atStart => exact ⟨0, A, c, [], by show _ = _; rfl, by omega, rfl, rfl, own', CC⟩
            case round =>
              obtain ⟨k, A2, c2, ls, HL, hk, rfl, rfl, own2, CC2⟩ := hrel
              have hw2 := CC2.size
              obtain rfl | rfl | rfl | rfl | rfl : k = 0 ∨ k = 1 ∨ k = 2 ∨ k = 3 ∨ k = 4 := by omega
              · go_wp2_with (at_builtin; go_must (refine wpList_app _ rfl (.tmp 35) (.tmp 43) _ rfl w.heap.size 5 _ 1 1 Tryd.underlying34 u8_info rfl (by omega) _ _ _ _ rfl (own2.alloc _) _ _ _ _ [.int .u8 _] rfl (Rd.new _ 1 [.int .u8 _] 1 rfl _) (by simp [Value.oneCell']) (by unfold maxLen; omega) (by omega) (by simp only [World.size_alloc]; omega) ?_; intro A3 c3 w3 own3 ch3 at3))
                replace own3 : Own w3 w.heap.size 5 1 A3 (n + 0 + 1) c3 ((out ++ ls).map (Value.int .u8) ++ [.int .u8 ((alphB[m0]'f0).toNat : Int)]) := own3
                rw [g0] at own3
                go_roundw
                case rel =>
                  refine ⟨1, A3, c3, ls ++ [l0], by show _ = _; rw [HL.out]; rfl, by omega, by go_num, rfl, ?_, ?_⟩
                  · simpa [List.map_append, List.append_assoc] using own3
                  · exact (CC2.alloc _).step ch3 (fun g' hg' => .inr (own2.blks g' hg').1)
                case measure => simp [intOf]
              · go_wp2_with (at_builtin; go_must (refine wpList_app _ rfl (.tmp 35) (.tmp 43) _ rfl w.heap.size 5 _ 1 1 Tryd.underlying34 u8_info rfl (by omega) _ _ _ _ rfl (own2.alloc _) _ _ _ _ [.int .u8 _] rfl (Rd.new _ 1 [.int .u8 _] 1 rfl _) (by simp [Value.oneCell']) (by unfold maxLen; omega) (by omega) (by simp only [World.size_alloc]; omega) ?_; intro A3 c3 w3 own3 ch3 at3))
                replace own3 : Own w3 w.heap.size 5 1 A3 (n + 1 + 1) c3 ((out ++ ls).map (Value.int .u8) ++ [.int .u8 ((alphB[m1]'f1).toNat : Int)]) := own3
                rw [g1] at own3
                go_roundw
                case rel =>
                  refine ⟨2, A3, c3, ls ++ [l1], by show _ = _; rw [HL.out]; rfl, by omega, by go_num, rfl, ?_, ?_⟩
                  · simpa [List.map_append, List.append_assoc] using own3
                  · exact (CC2.alloc _).step ch3 (fun g' hg' => .inr (own2.blks g' hg').1)
                case measure => simp [intOf]
              · go_wp2_with (at_builtin; go_must (refine wpList_app _ rfl (.tmp 45) (.tmp 46) _ rfl w.heap.size 5 _ 1 1 Tryd.underlying34 u8_info rfl (by omega) _ _ _ _ rfl (own2.alloc _) _ _ _ _ [.int .u8 61] rfl (Rd.new _ 1 [.int .u8 61] 1 rfl _) (by simp [Value.oneCell']) (by unfold maxLen; omega) (by omega) (by simp only [World.size_alloc]; omega) ?_; intro A3 c3 w3 own3 ch3 at3))
                go_roundw
                case rel =>
                  refine ⟨3, A3, c3, ls ++ [61], by show _ = _; rw [HL.out]; rfl, by omega, by go_num, rfl, ?_, ?_⟩
                  · simpa [List.map_append, List.append_assoc] using own3
                  · exact (CC2.alloc _).step ch3 (fun g' hg' => .inr (own2.blks g' hg').1)
                case measure => simp [intOf]
              · go_wp2_with (at_builtin; go_must (refine wpList_app _ rfl (.tmp 45) (.tmp 46) _ rfl w.heap.size 5 _ 1 1 Tryd.underlying34 u8_info rfl (by omega) _ _ _ _ rfl (own2.alloc _) _ _ _ _ [.int .u8 61] rfl (Rd.new _ 1 [.int .u8 61] 1 rfl _) (by simp [Value.oneCell']) (by unfold maxLen; omega) (by omega) (by simp only [World.size_alloc]; omega) ?_; intro A3 c3 w3 own3 ch3 at3))
                go_roundw
                case rel =>
                  refine ⟨4, A3, c3, ls ++ [61], by show _ = _; rw [HL.out]; rfl, by omega, by go_num, rfl, ?_, ?_⟩
                  · simpa [List.map_append, List.append_assoc] using own3
                  · exact (CC2.alloc _).step ch3 (fun g' hg' => .inr (own2.blks g' hg').1)
                case measure => simp [intOf]
              · go_wp2_with fail
                have HL4 := HL.out
                rw [show [l0, l1, 61, 61].take 4 = [l0, l1, 61, 61] from rfl] at HL4
                subst HL4
                go_roundw
                case rel =>
                  have em : ByteArray.empty.size = 0 := rfl
                  refine ⟨_, out ++ [l0, l1, 61, 61], A2, n + 4, c2, rfl, rfl, own2, ?_, by rw [em]; exact Nat.zero_le _, by rw [em]; omega, CC2⟩
                  show _ = _
                  rw [← hE.out, HG.out, List.drop_eq_nil_of_le (by rw [numsOf_length]; omega), show enc (numsOf ByteArray.empty) = [] from rfl, show enc [] = [] from rfl, List.append_nil, List.append_nil]
                case measure => have em : ByteArray.empty.size = 0 := rfl; simp only [strLen, em]; omega
      · skip
        have hp1 : 1 < u.size := by omega
        obtain ⟨a2, a3⟩ := byt_rng u 1
        have e1 : ((u[1]'hp1).toNat : Int) = byt u 1 := byt_get hp1
        rw [← byt_at (i := 1) hp1] at hg
        rw [if_pos (show 2 ≤ u.size by omega)] at hg
        simp only [if_pos (show 2 ≤ u.size by omega), if_neg (show ¬ 3 ≤ u.size by omega)] at hg
        generalize byt u 0 = b0 at a0 a1 e0 hg
        generalize byt u 1 = b1 at a2 a3 e1 hg
        obtain ⟨l0, k0⟩ : ∃ l, b64L (b0 / 4) = l := ⟨_, rfl⟩
        obtain ⟨l1, k1⟩ : ∃ l, b64L (b0 % 4 * 16 + b1 / 16) = l := ⟨_, rfl⟩
        obtain ⟨l2, k2⟩ : ∃ l, b64L (b1 % 16 * 4 + 0 / 64) = l := ⟨_, rfl⟩
        rw [k0, k1, k2] at hg
        have HG := hid hg
        clear hg
        obtain ⟨V1, hV1⟩ : ∃ v, b0 * 256 + b1 = v := ⟨_, rfl⟩
        obtain ⟨V, hV⟩ : ∃ v, V1 * 256 + 0 = v := ⟨_, rfl⟩
        have v1 : 0 ≤ V1 ∧ V1 ≤ 65535 := by omega
        have v2 : 0 ≤ V ∧ V ≤ 16777215 := by omega
        obtain ⟨m0, d0⟩ : ∃ m : Nat, V / 262144 % 64 = m := ⟨(V / 262144 % 64).toNat, by omega⟩
        have f0 : m0 < 64 := by omega
        have q0 : bits .and .i64 (V / 262144) 63 = m0 := mask63 _ (by omega) (by omega) _ d0
        have g0 : ((alphB[m0]'f0).toNat : Int) = l0 := alphN m0 f0 l0 (by rw [← k0]; congr 1; omega)
        obtain ⟨m1, d1⟩ : ∃ m : Nat, V / 4096 % 64 = m := ⟨(V / 4096 % 64).toNat, by omega⟩
        have f1 : m1 < 64 := by omega
        have q1 : bits .and .i64 (V / 4096) 63 = m1 := mask63 _ (by omega) (by omega) _ d1
        have g1 : ((alphB[m1]'f1).toNat : Int) = l1 := alphN m1 f1 l1 (by rw [← k1]; congr 1; omega)
        obtain ⟨m2, d2⟩ : ∃ m : Nat, V / 64 % 64 = m := ⟨(V / 64 % 64).toNat, by omega⟩
        have f2 : m2 < 64 := by omega
        have q2 : bits .and .i64 (V / 64) 63 = m2 := mask63 _ (by omega) (by omega) _ d2
        have g2 : ((alphB[m2]'f2).toNat : Int) = l2 := alphN m2 f2 l2 (by rw [← k2]; congr 1; omega)
        have r0 : bits .or .i64 0 b0 = b0 := by have := or8 0 b0 (by omega) (by omega) (by omega) (by omega); simpa using this
        have r1 : bits .or .i64 (b0 * 256) b1 = V1 := by rw [or8 b0 b1 (by omega) (by omega) (by omega) (by omega)]; exact hV1
        clear k0 d0 k1 d1 k2 d2
        have hmin : min (u.size : Int) 3 = 2 := by omega
        go_wp2_with (refine wpList_min rfl _ _ _ rfl _ _ _ _ _ rfl rfl hmin ?_)
        go_loopw [5, 14] (fun v i wr2 => (i = .int .i64 0 ∧ v = .int .i64 0 ∨ i = .int .i64 1 ∧ v = .int .i64 b0 ∨ i = .int .i64 2 ∧ v = .int .i64 V1 ∨ i = .int .i64 3 ∧ v = .int .i64 V) ∧ wr2 = wr) (fun _ i _ => 3 - (intOf i).toNat)
        case atStart => exact ⟨.inl ⟨rfl, rfl⟩, rfl⟩
        case round =>
          obtain ⟨hv, rfl⟩ := hrel
          rcases hv with ⟨rfl, rfl⟩ | ⟨rfl, rfl⟩ | ⟨rfl, rfl⟩ | ⟨rfl, rfl⟩
          · go_wp2_with fail
            go_roundw
            case rel => exact ⟨.inr (.inl ⟨by go_num, by go_num⟩), by first | trivial | rfl⟩
            case measure => simp [intOf]
          · go_wp2_with fail
            go_roundw
            case rel => exact ⟨.inr (.inr (.inl ⟨by go_num, by go_num⟩)), by first | trivial | rfl⟩
            case measure => simp [intOf]
          · go_wp2_with fail
            go_roundw
            case rel => exact ⟨.inr (.inr (.inr ⟨by go_num, by go_num⟩)), by first | trivial | rfl⟩
            case measure => simp [intOf]
          · go_wp2_with fail
            have own' : Own wr w.heap.size 5 1 A n c ((out ++ []).map (Value.int .u8)) := by rw [List.append_nil]; exact own
            go_loopw [3, 29] (fun b i wr3 => ∃ (k : Nat) (A2 : Option Addr) (c2 : Nat) (ls : List Int), Hid (ls = [l0, l1, l2, 61].take k) ∧ k ≤ 4 ∧ i = .int .i64 k ∧ b = .slice A2 (n + k) c2 ∧ Own wr3 w.heap.size 5 1 A2 (n + k) c2 ((out ++ ls).map (Value.int .u8)) ∧ Ch [] w wr3) (fun _ i _ => 4 - (intOf i).toNat)
            case atStart => exact ⟨0, A, c, [], by show _ = _; rfl, by omega, rfl, rfl, own', CC⟩
            case round =>
              obtain ⟨k, A2, c2, ls, HL, hk, rfl, rfl, own2, CC2⟩ := hrel
              have hw2 := CC2.size
              obtain rfl | rfl | rfl | rfl | rfl : k = 0 ∨ k = 1 ∨ k = 2 ∨ k = 3 ∨ k = 4 := by omega
              · go_wp2_with (at_builtin; go_must (refine wpList_app _ rfl (.tmp 35) (.tmp 43) _ rfl w.heap.size 5 _ 1 1 Tryd.underlying34 u8_info rfl (by omega) _ _ _ _ rfl (own2.alloc _) _ _ _ _ [.int .u8 _] rfl (Rd.new _ 1 [.int .u8 _] 1 rfl _) (by simp [Value.oneCell']) (by unfold maxLen; omega) (by omega) (by simp only [World.size_alloc]; omega) ?_; intro A3 c3 w3 own3 ch3 at3))
                replace own3 : Own w3 w.heap.size 5 1 A3 (n + 0 + 1) c3 ((out ++ ls).map (Value.int .u8) ++ [.int .u8 ((alphB[m0]'f0).toNat : Int)]) := own3
                rw [g0] at own3
                go_roundw
                case rel =>
                  refine ⟨1, A3, c3, ls ++ [l0], by show _ = _; rw [HL.out]; rfl, by omega, by go_num, rfl, ?_, ?_⟩
                  · simpa [List.map_append, List.append_assoc] using own3
                  · exact (CC2.alloc _).step ch3 (fun g' hg' => .inr (own2.blks g' hg').1)
                case measure => simp [intOf]
              · go_wp2_with (at_builtin; go_must (refine wpList_app _ rfl (.tmp 35) (.tmp 43) _ rfl w.heap.size 5 _ 1 1 Tryd.underlying34 u8_info rfl (by omega) _ _ _ _ rfl (own2.alloc _) _ _ _ _ [.int .u8 _] rfl (Rd.new _ 1 [.int .u8 _] 1 rfl _) (by simp [Value.oneCell']) (by unfold maxLen; omega) (by omega) (by simp only [World.size_alloc]; omega) ?_; intro A3 c3 w3 own3 ch3 at3))
                replace own3 : Own w3 w.heap.size 5 1 A3 (n + 1 + 1) c3 ((out ++ ls).map (Value.int .u8) ++ [.int .u8 ((alphB[m1]'f1).toNat : Int)]) := own3
                rw [g1] at own3
                go_roundw
                case rel =>
                  refine ⟨2, A3, c3, ls ++ [l1], by show _ = _; rw [HL.out]; rfl, by omega, by go_num, rfl, ?_, ?_⟩
                  · simpa [List.map_append, List.append_assoc] using own3
                  · exact (CC2.alloc _).step ch3 (fun g' hg' => .inr (own2.blks g' hg').1)
                case measure => simp [intOf]
              · go_wp2_with (at_builtin; go_must (refine wpList_app _ rfl (.tmp 35) (.tmp 43) _ rfl w.heap.size 5 _ 1 1 Tryd.underlying34 u8_info rfl (by omega) _ _ _ _ rfl (own2.alloc _) _ _ _ _ [.int .u8 _] rfl (Rd.new _ 1 [.int .u8 _] 1 rfl _) (by simp [Value.oneCell']) (by unfold maxLen; omega) (by omega) (by simp only [World.size_alloc]; omega) ?_; intro A3 c3 w3 own3 ch3 at3))
                replace own3 : Own w3 w.heap.size 5 1 A3 (n + 2 + 1) c3 ((out ++ ls).map (Value.int .u8) ++ [.int .u8 ((alphB[m2]'f2).toNat : Int)]) := own3
                rw [g2] at own3
                go_roundw
                case rel =>
                  refine ⟨3, A3, c3, ls ++ [l2], by show _ = _; rw [HL.out]; rfl, by omega, by go_num, rfl, ?_, ?_⟩
                  · simpa [List.map_append, List.append_assoc] using own3
                  · exact (CC2.alloc _).step ch3 (fun g' hg' => .inr (own2.blks g' hg').1)
                case measure => simp [intOf]
              · go_wp2_with (at_builtin; go_must (refine wpList_app _ rfl (.tmp 45) (.tmp 46) _ rfl w.heap.size 5 _ 1 1 Tryd.underlying34 u8_info rfl (by omega) _ _ _ _ rfl (own2.alloc _) _ _ _ _ [.int .u8 61] rfl (Rd.new _ 1 [.int .u8 61] 1 rfl _) (by simp [Value.oneCell']) (by unfold maxLen; omega) (by omega) (by simp only [World.size_alloc]; omega) ?_; intro A3 c3 w3 own3 ch3 at3))
                go_roundw
                case rel =>
                  refine ⟨4, A3, c3, ls ++ [61], by show _ = _; rw [HL.out]; rfl, by omega, by go_num, rfl, ?_, ?_⟩
                  · simpa [List.map_append, List.append_assoc] using own3
                  · exact (CC2.alloc _).step ch3 (fun g' hg' => .inr (own2.blks g' hg').1)
                case measure => simp [intOf]
              · go_wp2_with fail
                have HL4 := HL.out
                rw [show [l0, l1, l2, 61].take 4 = [l0, l1, l2, 61] from rfl] at HL4
                subst HL4
                go_roundw
                case rel =>
                  have em : ByteArray.empty.size = 0 := rfl
                  refine ⟨_, out ++ [l0, l1, l2, 61], A2, n + 4, c2, rfl, rfl, own2, ?_, by rw [em]; exact Nat.zero_le _, by rw [em]; omega, CC2⟩
                  show _ = _
                  rw [← hE.out, HG.out, List.drop_eq_nil_of_le (by rw [numsOf_length]; omega), show enc (numsOf ByteArray.empty) = [] from rfl, show enc [] = [] from rfl, List.append_nil, List.append_nil]
                case measure => have em : ByteArray.empty.size = 0 := rfl; simp only [strLen, em]; omega
      · skip
        have hp1 : 1 < u.size := by omega
        obtain ⟨a2, a3⟩ := byt_rng u 1
        have e1 : ((u[1]'hp1).toNat : Int) = byt u 1 := byt_get hp1
        rw [← byt_at (i := 1) hp1] at hg
        have hp2 : 2 < u.size := by omega
        obtain ⟨a4, a5⟩ := byt_rng u 2
        have e2 : ((u[2]'hp2).toNat : Int) = byt u 2 := byt_get hp2
        rw [← byt_at (i := 2) hp2] at hg
        rw [if_pos (show 2 ≤ u.size by omega)] at hg
        simp only [if_pos (show 2 ≤ u.size by omega), if_pos (show 3 ≤ u.size by omega)] at hg
        generalize byt u 0 = b0 at a0 a1 e0 hg
        generalize byt u 1 = b1 at a2 a3 e1 hg
        generalize byt u 2 = b2 at a4 a5 e2 hg
        obtain ⟨l0, k0⟩ : ∃ l, b64L (b0 / 4) = l := ⟨_, rfl⟩
        obtain ⟨l1, k1⟩ : ∃ l, b64L (b0 % 4 * 16 + b1 / 16) = l := ⟨_, rfl⟩
        obtain ⟨l2, k2⟩ : ∃ l, b64L (b1 % 16 * 4 + b2 / 64) = l := ⟨_, rfl⟩
        obtain ⟨l3, k3⟩ : ∃ l, b64L (b2 % 64) = l := ⟨_, rfl⟩
        rw [k0, k1, k2, k3] at hg
        have HG := hid hg
        clear hg
        obtain ⟨V1, hV1⟩ : ∃ v, b0 * 256 + b1 = v := ⟨_, rfl⟩
        obtain ⟨V, hV⟩ : ∃ v, V1 * 256 + b2 = v := ⟨_, rfl⟩
        have v1 : 0 ≤ V1 ∧ V1 ≤ 65535 := by omega
        have v2 : 0 ≤ V ∧ V ≤ 16777215 := by omega
        obtain ⟨m0, d0⟩ : ∃ m : Nat, V / 262144 % 64 = m := ⟨(V / 262144 % 64).toNat, by omega⟩
        have f0 : m0 < 64 := by omega
        have q0 : bits .and .i64 (V / 262144) 63 = m0 := mask63 _ (by omega) (by omega) _ d0
        have g0 : ((alphB[m0]'f0).toNat : Int) = l0 := alphN m0 f0 l0 (by rw [← k0]; congr 1; omega)
        obtain ⟨m1, d1⟩ : ∃ m : Nat, V / 4096 % 64 = m := ⟨(V / 4096 % 64).toNat, by omega⟩
        have f1 : m1 < 64 := by omega
        have q1 : bits .and .i64 (V / 4096) 63 = m1 := mask63 _ (by omega) (by omega) _ d1
        have g1 : ((alphB[m1]'f1).toNat : Int) = l1 := alphN m1 f1 l1 (by rw [← k1]; congr 1; omega)
        obtain ⟨m2, d2⟩ : ∃ m : Nat, V / 64 % 64 = m := ⟨(V / 64 % 64).toNat, by omega⟩
        have f2 : m2 < 64 := by omega
        have q2 : bits .and .i64 (V / 64) 63 = m2 := mask63 _ (by omega) (by omega) _ d2
        have g2 : ((alphB[m2]'f2).toNat : Int) = l2 := alphN m2 f2 l2 (by rw [← k2]; congr 1; omega)
        obtain ⟨m3, d3⟩ : ∃ m : Nat, V % 64 = m := ⟨(V % 64).toNat, by omega⟩
        have f3 : m3 < 64 := by omega
        have q3 : bits .and .i64 (V) 63 = m3 := mask63 _ (by omega) (by omega) _ d3
        have g3 : ((alphB[m3]'f3).toNat : Int) = l3 := alphN m3 f3 l3 (by rw [← k3]; congr 1; omega)
        have r0 : bits .or .i64 0 b0 = b0 := by have := or8 0 b0 (by omega) (by omega) (by omega) (by omega); simpa using this
        have r1 : bits .or .i64 (b0 * 256) b1 = V1 := by rw [or8 b0 b1 (by omega) (by omega) (by omega) (by omega)]; exact hV1
        have r2 : bits .or .i64 (V1 * 256) b2 = V := by rw [or8 V1 b2 (by omega) (by omega) (by omega) (by omega)]; exact hV
        clear k0 d0 k1 d1 k2 d2 k3 d3
        have hmin : min (u.size : Int) 3 = 3 := by omega
        go_wp2_with (refine wpList_min rfl _ _ _ rfl _ _ _ _ _ rfl rfl hmin ?_)
        go_loopw [5, 14] (fun v i wr2 => (i = .int .i64 0 ∧ v = .int .i64 0 ∨ i = .int .i64 1 ∧ v = .int .i64 b0 ∨ i = .int .i64 2 ∧ v = .int .i64 V1 ∨ i = .int .i64 3 ∧ v = .int .i64 V) ∧ wr2 = wr) (fun _ i _ => 3 - (intOf i).toNat)
        case atStart => exact ⟨.inl ⟨rfl, rfl⟩, rfl⟩
        case round =>
          obtain ⟨hv, rfl⟩ := hrel
          rcases hv with ⟨rfl, rfl⟩ | ⟨rfl, rfl⟩ | ⟨rfl, rfl⟩ | ⟨rfl, rfl⟩
          · go_wp2_with fail
            go_roundw
            case rel => exact ⟨.inr (.inl ⟨by go_num, by go_num⟩), by first | trivial | rfl⟩
            case measure => simp [intOf]
          · go_wp2_with fail
            go_roundw
            case rel => exact ⟨.inr (.inr (.inl ⟨by go_num, by go_num⟩)), by first | trivial | rfl⟩
            case measure => simp [intOf]
          · go_wp2_with fail
            go_roundw
            case rel => exact ⟨.inr (.inr (.inr ⟨by go_num, by go_num⟩)), by first | trivial | rfl⟩
            case measure => simp [intOf]
          · go_wp2_with fail
            have own' : Own wr w.heap.size 5 1 A n c ((out ++ []).map (Value.int .u8)) := by rw [List.append_nil]; exact own
            go_loopw [3, 29] (fun b i wr3 => ∃ (k : Nat) (A2 : Option Addr) (c2 : Nat) (ls : List Int), Hid (ls = [l0, l1, l2, l3].take k) ∧ k ≤ 4 ∧ i = .int .i64 k ∧ b = .slice A2 (n + k) c2 ∧ Own wr3 w.heap.size 5 1 A2 (n + k) c2 ((out ++ ls).map (Value.int .u8)) ∧ Ch [] w wr3) (fun _ i _ => 4 - (intOf i).toNat)
            case atStart => exact ⟨0, A, c, [], by show _ = _; rfl, by omega, rfl, rfl, own', CC⟩
            case round =>
              obtain ⟨k, A2, c2, ls, HL, hk, rfl, rfl, own2, CC2⟩ := hrel
              have hw2 := CC2.size
              obtain rfl | rfl | rfl | rfl | rfl : k = 0 ∨ k = 1 ∨ k = 2 ∨ k = 3 ∨ k = 4 := by omega
              · go_wp2_with (at_builtin; go_must (refine wpList_app _ rfl (.tmp 35) (.tmp 43) _ rfl w.heap.size 5 _ 1 1 Tryd.underlying34 u8_info rfl (by omega) _ _ _ _ rfl (own2.alloc _) _ _ _ _ [.int .u8 _] rfl (Rd.new _ 1 [.int .u8 _] 1 rfl _) (by simp [Value.oneCell']) (by unfold maxLen; omega) (by omega) (by simp only [World.size_alloc]; omega) ?_; intro A3 c3 w3 own3 ch3 at3))
                replace own3 : Own w3 w.heap.size 5 1 A3 (n + 0 + 1) c3 ((out ++ ls).map (Value.int .u8) ++ [.int .u8 ((alphB[m0]'f0).toNat : Int)]) := own3
                rw [g0] at own3
                go_roundw
                case rel =>
                  refine ⟨1, A3, c3, ls ++ [l0], by show _ = _; rw [HL.out]; rfl, by omega, by go_num, rfl, ?_, ?_⟩
                  · simpa [List.map_append, List.append_assoc] using own3
                  · exact (CC2.alloc _).step ch3 (fun g' hg' => .inr (own2.blks g' hg').1)
                case measure => simp [intOf]
              · go_wp2_with (at_builtin; go_must (refine wpList_app _ rfl (.tmp 35) (.tmp 43) _ rfl w.heap.size 5 _ 1 1 Tryd.underlying34 u8_info rfl (by omega) _ _ _ _ rfl (own2.alloc _) _ _ _ _ [.int .u8 _] rfl (Rd.new _ 1 [.int .u8 _] 1 rfl _) (by simp [Value.oneCell']) (by unfold maxLen; omega) (by omega) (by simp only [World.size_alloc]; omega) ?_; intro A3 c3 w3 own3 ch3 at3))
                replace own3 : Own w3 w.heap.size 5 1 A3 (n + 1 + 1) c3 ((out ++ ls).map (Value.int .u8) ++ [.int .u8 ((alphB[m1]'f1).toNat : Int)]) := own3
                rw [g1] at own3
                go_roundw
                case rel =>
                  refine ⟨2, A3, c3, ls ++ [l1], by show _ = _; rw [HL.out]; rfl, by omega, by go_num, rfl, ?_, ?_⟩
                  · simpa [List.map_append, List.append_assoc] using own3
                  · exact (CC2.alloc _).step ch3 (fun g' hg' => .inr (own2.blks g' hg').1)
                case measure => simp [intOf]
              · go_wp2_with (at_builtin; go_must (refine wpList_app _ rfl (.tmp 35) (.tmp 43) _ rfl w.heap.size 5 _ 1 1 Tryd.underlying34 u8_info rfl (by omega) _ _ _ _ rfl (own2.alloc _) _ _ _ _ [.int .u8 _] rfl (Rd.new _ 1 [.int .u8 _] 1 rfl _) (by simp [Value.oneCell']) (by unfold maxLen; omega) (by omega) (by simp only [World.size_alloc]; omega) ?_; intro A3 c3 w3 own3 ch3 at3))
                replace own3 : Own w3 w.heap.size 5 1 A3 (n + 2 + 1) c3 ((out ++ ls).map (Value.int .u8) ++ [.int .u8 ((alphB[m2]'f2).toNat : Int)]) := own3
                rw [g2] at own3
                go_roundw
                case rel =>
                  refine ⟨3, A3, c3, ls ++ [l2], by show _ = _; rw [HL.out]; rfl, by omega, by go_num, rfl, ?_, ?_⟩
                  · simpa [List.map_append, List.append_assoc] using own3
                  · exact (CC2.alloc _).step ch3 (fun g' hg' => .inr (own2.blks g' hg').1)
                case measure => simp [intOf]
              · go_wp2_with (at_builtin; go_must (refine wpList_app _ rfl (.tmp 35) (.tmp 43) _ rfl w.heap.size 5 _ 1 1 Tryd.underlying34 u8_info rfl (by omega) _ _ _ _ rfl (own2.alloc _) _ _ _ _ [.int .u8 _] rfl (Rd.new _ 1 [.int .u8 _] 1 rfl _) (by simp [Value.oneCell']) (by unfold maxLen; omega) (by omega) (by simp only [World.size_alloc]; omega) ?_; intro A3 c3 w3 own3 ch3 at3))
                replace own3 : Own w3 w.heap.size 5 1 A3 (n + 3 + 1) c3 ((out ++ ls).map (Value.int .u8) ++ [.int .u8 ((alphB[m3]'f3).toNat : Int)]) := own3
                rw [g3] at own3
                go_roundw
                case rel =>
                  refine ⟨4, A3, c3, ls ++ [l3], by show _ = _; rw [HL.out]; rfl, by omega, by go_num, rfl, ?_, ?_⟩
                  · simpa [List.map_append, List.append_assoc] using own3
                  · exact (CC2.alloc _).step ch3 (fun g' hg' => .inr (own2.blks g' hg').1)
                case measure => simp [intOf]
              · go_wp2_with fail
                have HL4 := HL.out
                rw [show [l0, l1, l2, l3].take 4 = [l0, l1, l2, l3] from rfl] at HL4
                subst HL4
                go_roundw
                case rel =>
                  refine ⟨_, out ++ [l0, l1, l2, l3], A2, n + 4, c2, rfl, rfl, own2, ?_, ?_, ?_, CC2⟩
                  · show _ = _
                    rw [numsOf_drop, show (numsOf u).drop 3 = (numsOf u).drop 3 from rfl, List.append_assoc, ← HG.out]; exact hE.out
                  · rw [ByteArray.size_extract]; omega
                  · rw [ByteArray.size_extract]; omega
                case measure => simp only [strLen, ByteArray.size_extract]; omega
    · obtain hz : u.size = 0 := by omega
      have hnu : numsOf u = [] := List.eq_nil_of_length_eq_zero (by rw [numsOf_length]; exact hz)
      have hE2 := hE.out
      rw [hnu, show enc [] = [] from rfl, List.append_nil] at hE2
      subst hE2
      go_wp2_with (refine wpList_strOf rfl 34 9 5 _ rfl Tryd.underlying34 Tryd.underlying5 Tryd.underlying9 A n c wr.heap.size _ rfl (Rd.ints own.rd) ?_)

      go_ret
      exact ⟨rfl, CC⟩
end Go.Proofs.YtlgeohjcjhhmhaaDoor
