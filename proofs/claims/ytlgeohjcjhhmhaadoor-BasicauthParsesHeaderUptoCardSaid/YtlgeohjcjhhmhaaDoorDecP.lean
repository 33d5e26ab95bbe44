/- basicauth.DecodeBase64 (printed by mk_decp.py). -/
import Derived.Test.YtlgeohjcjhhmhaaDoorDec
namespace Go.Proofs.YtlgeohjcjhhmhaaDoor
open Go.RowKit

theorem pdec_neg {c v : Int} {k : Nat} {r out : List Int} (h : b64V c < 0) : pdec (c :: r) v k out = none := by rw [pdec, if_pos h]
theorem drop_at (l : List Int) (j : Nat) (h : j < l.length) : l.drop j = at_ l j :: l.drop (j + 1) := by
  rw [List.drop_eq_getElem_cons h]; simp [at_, List.getD, List.getElem?_eq_getElem h]

set_option maxRecDepth 100000 in
set_option maxHeartbeats 8000000 in
theorem decP (s : ByteArray) (hm : s.size ≤ 1500000) (w : World) : Calls Tryd.prog 24 #[.string s] w fun e w' => e = .returned (decV (decOf s)) ∧ Ch [] w w' := by
  go_enter Tryd.func24, Tryd.ntmps24
  go_wp2_with (first
    | (go_at_call 40; (with_reducible refine (trimEq s _ (by omega)).mono ?_); rintro e w2 ⟨⟨m, rfl, hms, hall, hlast⟩, rfl⟩)
    | (refine wpList_bytesOf rfl 9 34 5 _ rfl Tryd.underlying9 Tryd.underlying34 Tryd.underlying5 (s.extract 0 m) rfl (by rw [ByteArray.size_extract]; unfold maxLen; omega) ?_; intro cu w1 hcu1 hcu2 hru CU hsz))
  obtain ⟨u, hu⟩ : ∃ u, s.extract 0 m = u := ⟨_, rfl⟩
  have hus : u.size = m := by rw [← hu, ByteArray.size_extract]; omega
  have hun : numsOf u = (numsOf s).take m := by
    rw [← hu]; unfold numsOf
    rw [ByteArray.data_extract, Array.toList_extract, List.extract_eq_take_drop, List.drop_zero, List.map_take]
    rfl
  -- what a canonical text's letters give
  have hcan : ∀ d : ByteArray, numsOf s = enc (numsOf d) → pdec (numsOf u) 0 0 [] = some (numsOf d) := fun d hd => by
    rw [hun, trim_enc s _ (bytes_numsOf d) hd m hms hall.out hlast, pdec_encT _ _ (bytes_numsOf d), List.nil_append]
  have HCAN := hid hcan
  clear hcan hun
  rw [hu] at hru hcu1
  rw [hu]
  rw [hus] at hru
  clear hu hall hlast
  obtain ⟨g, hgd⟩ : ∃ g, w.heap.size = g := ⟨_, rfl⟩
  rw [hgd] at hru ⊢
  go_loopw [4, 5, 6, 14] (fun b v k i wr => ∃ (j : Nat) (A : Option Addr) (n c : Nat) (V : Int) (K : Nat) (out : List Int), i = .int .i64 j ∧ b = .slice A n c ∧ v = .int .i64 V ∧ k = .int .i64 K ∧ Own wr w1.heap.size 5 1 A n c (out.map (Value.int .u8)) ∧ Hid (pdec ((numsOf u).drop j) V K out = pdec (numsOf u) 0 0 []) ∧ (K = 0 ∧ V = 0 ∨ K = 2 ∧ V < 4 ∨ K = 4 ∧ V < 16 ∨ K = 6 ∧ V < 64) ∧ 0 ≤ V ∧ n ≤ j ∧ j ≤ m ∧ Hid (Bytes out) ∧ Ch [] w1 wr) (fun _ _ _ i _ => m - (intOf i).toNat)
  case atStart => exact ⟨0, none, 0, 0, 0, 0, [], rfl, rfl, rfl, rfl, Own.nil _ _ _ _, rfl, .inl ⟨rfl, rfl⟩, by omega, by omega, by omega, Bytes.nil, Ch.refl _ _⟩
  case round =>
    obtain ⟨j, A, n, c, V, K, out, rfl, rfl, rfl, rfl, own, hP, hK, hV, hn, hj, hB, CC⟩ := hrel
    have hw := CC.size
    by_cases hp : j < m
    · have hlen : j < (numsOf u).length := by rw [numsOf_length]; omega
      have hr2 := hru.ch CC (Nat.le_refl _) (by simp)
      have cc : wr.cell? ⟨g, j, none⟩ = some (.int .u8 (at_ (numsOf u) j)) := by
        obtain ⟨b, off, e1, _, e2⟩ := hr2.at_ (i := j) (by omega)
        cases e1
        rw [Nat.zero_add] at e2; exact e2
      have hx := byt_rng u j
      rw [byt_at (by omega)] at hx
      have hP2 := hP.out
      rw [drop_at _ j hlen] at hP2
      generalize at_ (numsOf u) j = x at cc hx hP2
      have hfa := fnd_alph x hx.1 hx.2
      obtain ⟨y, hy⟩ : ∃ y, b64V x = y := ⟨_, rfl⟩
      have hyr := b64V_rng x
      rw [hy] at hyr hfa
      have al : ⟨#[65, 66, 67, 68, 69, 70, 71, 72, 73, 74, 75, 76, 77, 78, 79, 80, 81, 82, 83, 84, 85, 86, 87, 88, 89, 90, 97, 98, 99, 100, 101, 102, 103, 104, 105, 106, 107, 108, 109, 110, 111, 112, 113, 114, 115, 116, 117, 118, 119, 120, 121, 122, 48, 49, 50, 51, 52, 53, 54, 55, 56, 57, 43, 47]⟩ = alphB := rfl
      by_cases hy0 : y < 0
      · rw [pdec_neg (by omega)] at hP2
        have hno : decOf s = none := by
          rcases ho : decOf s with _ | d
          · rfl
          · have := HCAN.out d (decOf_spec ho)
            rw [← hP2] at this; cases this
        have HNO := hid hno
        clear hno hP2 hP
        go_wp2_with (go_at_call 41; (with_reducible refine (findByte _ x _).mono ?_); rw [hfa]; rintro e w9 ⟨rfl, rfl⟩)
        go_ret2
        exact ⟨by rw [HNO.out]; rfl, (CU.trans CC)⟩
      · rw [pdec_step _ _ _ _ _ (by omega), hy] at hP2
        have o6 : bits .or .i64 (V * 64) y = V * 64 + y := orI V y 6 (by omega) hV (by omega) (by omega) (by omega)
        obtain ⟨Z, hZ⟩ : ∃ Z, V * 64 + y = Z := ⟨_, rfl⟩
        rw [hZ] at o6 hP2
        rcases hK with ⟨rfl, rfl⟩ | ⟨rfl, hK⟩ | ⟨rfl, hK⟩ | ⟨rfl, hK⟩
        · skip
          rw [if_pos (by omega)] at hP2
          have HP := hid hP2
          clear hP2 hP
          have o7 : bits .or .i64 0 y = Z := by simpa using o6
          go_wp2_with (go_at_call 41; (with_reducible refine (findByte _ x _).mono ?_); rw [hfa]; rintro e w9 ⟨rfl, rfl⟩)
          go_roundw
          case rel => exact ⟨j + 1, A, n, c, Z, 6, out, by go_num, rfl, rfl, by go_num, own, HP, .inr (.inr (.inr ⟨rfl, by omega⟩)), by omega, by omega, by omega, hB, CC⟩
          case measure => simp only [intOf]; omega
        · skip
          rw [if_neg (by omega)] at hP2
          simp only [Nat.reduceSub, Nat.reducePow, Int.reducePow] at hP2
          have mk : bits .and .i64 Z 0 = Z % 1 := maskI Z 0 0 (by omega) (by omega) (by decide) (by decide)
          obtain ⟨B, hBd⟩ : ∃ B, Z / 1 = B := ⟨_, rfl⟩
          have hBr : 0 ≤ B ∧ B ≤ 255 := by omega
          rw [hBd, Int.emod_one] at hP2
          have HP := hid hP2
          clear hP2 hP
          go_wp2_with (first
            | (go_at_call 41; (with_reducible refine (findByte _ x _).mono ?_); rw [hfa]; rintro e w9 ⟨rfl, rfl⟩)
            | (at_builtin; (refine wpList_app _ rfl (.tmp 32) (.tmp 37) _ rfl w1.heap.size 5 _ 1 1 Tryd.underlying34 u8_info rfl (by omega) _ _ _ _ rfl (own.alloc _) _ _ _ _ [.int .u8 _] rfl (Rd.new _ 1 [.int .u8 _] 1 rfl _) (by simp [Value.oneCell']) (by unfold maxLen; omega) (by omega) (by simp only [World.size_alloc]; omega) ?_; intro A3 c3 w3 own3 ch3 at3)))
          go_roundw
          case rel =>
            refine ⟨j + 1, A3, n + 1, c3, 0, 0, out ++ [B], by go_num, rfl, rfl, by go_num, ?_, HP, .inl ⟨rfl, rfl⟩, by omega, by omega, by omega, hB.out.append (Bytes.one hBr.1 hBr.2), (CC.alloc _).step ch3 (fun g' hg' => .inr (own.blks g' hg').1)⟩
            simpa [List.map_append] using own3
          case measure => simp only [intOf]; omega
        · skip
          rw [if_neg (by omega)] at hP2
          simp only [Nat.reduceSub, Nat.reducePow, Int.reducePow] at hP2
          have mk : bits .and .i64 Z 3 = Z % 4 := maskI Z 2 3 (by omega) (by omega) (by decide) (by decide)
          obtain ⟨B, hBd⟩ : ∃ B, Z / 4 = B := ⟨_, rfl⟩
          have hBr : 0 ≤ B ∧ B ≤ 255 := by omega
          rw [hBd] at hP2
          have HP := hid hP2
          clear hP2 hP
          go_wp2_with (first
            | (go_at_call 41; (with_reducible refine (findByte _ x _).mono ?_); rw [hfa]; rintro e w9 ⟨rfl, rfl⟩)
            | (at_builtin; (refine wpList_app _ rfl (.tmp 32) (.tmp 37) _ rfl w1.heap.size 5 _ 1 1 Tryd.underlying34 u8_info rfl (by omega) _ _ _ _ rfl (own.alloc _) _ _ _ _ [.int .u8 _] rfl (Rd.new _ 1 [.int .u8 _] 1 rfl _) (by simp [Value.oneCell']) (by unfold maxLen; omega) (by omega) (by simp only [World.size_alloc]; omega) ?_; intro A3 c3 w3 own3 ch3 at3)))
          go_roundw
          case rel =>
            refine ⟨j + 1, A3, n + 1, c3, (Z % 4), 2, out ++ [B], by go_num, rfl, rfl, by go_num, ?_, HP, .inr (.inl ⟨rfl, by omega⟩), by omega, by omega, by omega, hB.out.append (Bytes.one hBr.1 hBr.2), (CC.alloc _).step ch3 (fun g' hg' => .inr (own.blks g' hg').1)⟩
            simpa [List.map_append] using own3
          case measure => simp only [intOf]; omega
        · skip
          rw [if_neg (by omega)] at hP2
          simp only [Nat.reduceSub, Nat.reducePow, Int.reducePow] at hP2
          have mk : bits .and .i64 Z 15 = Z % 16 := maskI Z 4 15 (by omega) (by omega) (by decide) (by decide)
          obtain ⟨B, hBd⟩ : ∃ B, Z / 16 = B := ⟨_, rfl⟩
          have hBr : 0 ≤ B ∧ B ≤ 255 := by omega
          rw [hBd] at hP2
          have HP := hid hP2
          clear hP2 hP
          go_wp2_with (first
            | (go_at_call 41; (with_reducible refine (findByte _ x _).mono ?_); rw [hfa]; rintro e w9 ⟨rfl, rfl⟩)
            | (at_builtin; (refine wpList_app _ rfl (.tmp 32) (.tmp 37) _ rfl w1.heap.size 5 _ 1 1 Tryd.underlying34 u8_info rfl (by omega) _ _ _ _ rfl (own.alloc _) _ _ _ _ [.int .u8 _] rfl (Rd.new _ 1 [.int .u8 _] 1 rfl _) (by simp [Value.oneCell']) (by unfold maxLen; omega) (by omega) (by simp only [World.size_alloc]; omega) ?_; intro A3 c3 w3 own3 ch3 at3)))
          go_roundw
          case rel =>
            refine ⟨j + 1, A3, n + 1, c3, (Z % 16), 4, out ++ [B], by go_num, rfl, rfl, by go_num, ?_, HP, .inr (.inr (.inl ⟨rfl, by omega⟩)), by omega, by omega, by omega, hB.out.append (Bytes.one hBr.1 hBr.2), (CC.alloc _).step ch3 (fun g' hg' => .inr (own.blks g' hg').1)⟩
            simpa [List.map_append] using own3
          case measure => simp only [intOf]; omega
    · obtain rfl : j = m := by omega
      have hP2 := hP.out
      rw [List.drop_eq_nil_of_le (by rw [numsOf_length]; omega), pdec] at hP2
      have hcand : ∀ d : ByteArray, numsOf s = enc (numsOf d) → out = numsOf d := fun d hd => Option.some.inj (hP2.trans (HCAN.out d hd))
      have HD := hid hcand
      clear hcand hP2 hP HCAN
      have hos : (strOfNums out).size ≤ 1500000 := by rw [strOf_size]; have := own.len; rw [List.length_map] at this; omega
      have CT := CU.trans CC
      obtain ⟨b, hb⟩ : ∃ b, ((strOfNums (enc (numsOf (strOfNums out)))).toList == s.toList) = b := ⟨_, rfl⟩
      have HB := hid hb
      cases b
      all_goals
        go_wp2_with (first
          | (refine wpList_strOf rfl 34 9 5 _ rfl Tryd.underlying34 Tryd.underlying5 Tryd.underlying9 A n c w5.heap.size _ rfl (Rd.ints own5.rd) ?_)
          | (go_at_call 22; (with_reducible refine (b64P _ hos _).mono ?_); rintro e w5 ⟨rfl, CE⟩; have own5 := own.ch CE (by simp))
          | (refine wpList_strOf rfl 34 9 5 _ rfl Tryd.underlying34 Tryd.underlying5 Tryd.underlying9 A n c wr.heap.size _ rfl (Rd.ints own.rd) ?_))
        go_ret2
      · exact ⟨by rw [dec_no HD.out (by have := HB.out; simpa using this)]; rfl, CT.trans CE⟩
      · exact ⟨by rw [dec_yes (by have := HB.out; simpa using this)]; rfl, CT.trans CE⟩
end Go.Proofs.YtlgeohjcjhhmhaaDoor
