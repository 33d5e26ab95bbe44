/- ginnelref15.DecodeBase64 (printed by mk_decr.py). -/
import Derived.Test.YtlgeohjcjhhmhaaDoorDec
namespace Go.Proofs.YtlgeohjcjhhmhaaDoor
open Go.RowKit

theorem rdec_drop (l : List Int) (p : Nat) (h : p + 4 ≤ l.length) : rdec (l.drop p) = grp (at_ l p) (at_ l (p + 1)) (at_ l (p + 2)) (at_ l (p + 3)) ++ rdec (l.drop (p + 4)) := by
  rw [List.drop_eq_getElem_cons (show p < l.length by omega), List.drop_eq_getElem_cons (show p + 1 < l.length by omega), List.drop_eq_getElem_cons (show p + 2 < l.length by omega), List.drop_eq_getElem_cons (show p + 3 < l.length by omega), rdec]
  simp [at_, List.getD, List.getElem?_eq_getElem (show p < l.length by omega), List.getElem?_eq_getElem (show p + 1 < l.length by omega), List.getElem?_eq_getElem (show p + 2 < l.length by omega), List.getElem?_eq_getElem (show p + 3 < l.length by omega)]
theorem vn_cases (x : Int) : ∃ (y : Int) (V : Nat) (N : Nat), b64V x = y ∧ vof x = V ∧ nof x = N ∧ V < 64 ∧ (0 ≤ y ∧ y = V ∧ N = 1 ∨ y < 0 ∧ V = 0 ∧ N = 0) := by
  have h := b64V_rng x
  unfold vof nof
  by_cases h0 : 0 ≤ b64V x
  · rw [if_pos h0, if_pos h0]
    exact ⟨_, (b64V x).toNat, 1, rfl, by omega, rfl, by omega, .inl ⟨h0, by omega, rfl⟩⟩
  · rw [if_neg h0, if_neg h0]
    exact ⟨_, 0, 0, rfl, rfl, rfl, by omega, .inr ⟨by omega, rfl, rfl⟩⟩
theorem dec_len (s : ByteArray) (h : s.size % 4 ≠ 0) : decOf s = none := by
  rcases ho : decOf s with _ | d
  · rfl
  · have h1 := congrArg List.length (decOf_spec ho)
    rw [numsOf_length, enc_len] at h1
    omega

set_option maxRecDepth 100000 in
set_option maxHeartbeats 8000000 in
theorem decR (s : ByteArray) (hm : s.size ≤ 1500000) (w : World) : Calls Tryd.prog 25 #[.string s] w fun e w' => e = .returned (decV (decOf s)) ∧ Ch [] w w' := by
  by_cases h4 : s.size % 4 = 0
  case neg =>
    have hd : ((s.size : Int) % 4 == 0) = false := by simp; omega
    have hd2 : ((s.size : Int) % 4 != 0) = true := by simp; omega
    have HD := hid (dec_len s h4)
    clear h4
    go_enter Tryd.func25, Tryd.ntmps25
    go_wp2_with fail
    go_ret2
    exact ⟨by rw [HD.out]; rfl, Ch.refl _ _⟩
  have hd : ((s.size : Int) % 4 == 0) = true := by simp; omega
  have hd2 : ((s.size : Int) % 4 != 0) = false := by simp; omega
  obtain ⟨q, hq⟩ : ∃ q, q * 4 ≤ s.size ∧ s.size ≤ q * 4 := ⟨s.size / 4, by omega⟩
  clear h4
  go_enter Tryd.func25, Tryd.ntmps25
  go_wp2_with fail
  clear hd hd2
  go_loopw [4, 5] (fun b i wr => ∃ (p : Nat) (A : Option Addr) (n c : Nat) (out : List Int), i = .int .i64 p ∧ b = .slice A n c ∧ Own wr w.heap.size 5 1 A n c (out.map (Value.int .u8)) ∧ Hid (out ++ rdec ((numsOf s).drop p) = rdec (numsOf s)) ∧ (∃ r, r * 4 ≤ p ∧ p ≤ r * 4 ∧ r ≤ q) ∧ n ≤ p ∧ Ch [] w wr) (fun _ i _ => s.size - (intOf i).toNat)
  case atStart => exact ⟨0, none, 0, 0, [], rfl, rfl, Own.nil _ _ _ _, rfl, ⟨0, Nat.le_refl _, Nat.le_refl _, Nat.zero_le _⟩, by omega, Ch.refl _ _⟩
  case round =>
    obtain ⟨p, A, n, c, out, rfl, rfl, own, hE, ⟨r, hr, hr', hrq⟩, hn, CC⟩ := hrel
    have hw := CC.size
    by_cases hp : p < s.size
    · have hp4 : p + 4 ≤ s.size := by omega
      have hg := rdec_drop (numsOf s) p (by rw [numsOf_length]; omega)
      have hp_0 : p < s.size := by omega
      have e0 : ((s[p]'hp_0).toNat : Int) = byt s p := byt_get hp_0
      rw [← byt_at (i := p) (by omega)] at hg
      have rg0 := byt_rng s p
      generalize byt s p = x0 at e0 hg rg0
      obtain ⟨y0, V0, N0, Y0, VV0, NN0, R0, D0⟩ := vn_cases x0
      have hp_1 : (p + 1) < s.size := by omega
      have e1 : ((s[(p + 1)]'hp_1).toNat : Int) = byt s (p + 1) := byt_get hp_1
      rw [← byt_at (i := p + 1) (by omega)] at hg
      have rg1 := byt_rng s (p + 1)
      generalize byt s (p + 1) = x1 at e1 hg rg1
      obtain ⟨y1, V1, N1, Y1, VV1, NN1, R1, D1⟩ := vn_cases x1
      have hp_2 : (p + 2) < s.size := by omega
      have e2 : ((s[(p + 2)]'hp_2).toNat : Int) = byt s (p + 2) := byt_get hp_2
      rw [← byt_at (i := p + 2) (by omega)] at hg
      have rg2 := byt_rng s (p + 2)
      generalize byt s (p + 2) = x2 at e2 hg rg2
      obtain ⟨y2, V2, N2, Y2, VV2, NN2, R2, D2⟩ := vn_cases x2
      have hp_3 : (p + 3) < s.size := by omega
      have e3 : ((s[(p + 3)]'hp_3).toNat : Int) = byt s (p + 3) := byt_get hp_3
      rw [← byt_at (i := p + 3) (by omega)] at hg
      have rg3 := byt_rng s (p + 3)
      generalize byt s (p + 3) = x3 at e3 hg rg3
      obtain ⟨y3, V3, N3, Y3, VV3, NN3, R3, D3⟩ := vn_cases x3
      rw [grp, VV0, VV1, VV2, VV3, NN0, NN1, NN2, NN3] at hg
      have HG := hid hg
      clear hg VV0 VV1 VV2 VV3 NN0 NN1 NN2 NN3
      obtain ⟨g, hgd⟩ : ∃ g, wr.heap.size = g := ⟨_, rfl⟩
      go_wp2_with fail
      go_loopw [7, 8] (fun x k w2 => ((x = .int .i64 0 ∧ k = .int .i64 0 ∧ Blk w2 g 61 [.int .i64 0, .int .i64 0, .int .i64 0, .int .i64 0]) ∨ (x = .int .i64 ((N0 : Int)) ∧ k = .int .i64 1 ∧ Blk w2 g 61 [.int .i64 V0, .int .i64 0, .int .i64 0, .int .i64 0]) ∨ (x = .int .i64 ((N0 : Int) + (N1 : Int)) ∧ k = .int .i64 2 ∧ Blk w2 g 61 [.int .i64 V0, .int .i64 V1, .int .i64 0, .int .i64 0]) ∨ (x = .int .i64 ((N0 : Int) + (N1 : Int) + (N2 : Int)) ∧ k = .int .i64 3 ∧ Blk w2 g 61 [.int .i64 V0, .int .i64 V1, .int .i64 V2, .int .i64 0]) ∨ (x = .int .i64 ((N0 : Int) + (N1 : Int) + (N2 : Int) + (N3 : Int)) ∧ k = .int .i64 4 ∧ Blk w2 g 61 [.int .i64 V0, .int .i64 V1, .int .i64 V2, .int .i64 V3])) ∧ Ch [] wr w2) (fun _ k _ => 4 - (intOf k).toNat)
      case atStart => exact ⟨.inl ⟨rfl, rfl, Blk.newAt _ _ _ hgd⟩, (Ch.refl _ _).alloc _⟩
      case round =>
        rename World => w2
        obtain ⟨hv, CI⟩ := hrel
        have hsz2 := CI.size
        rcases hv with ⟨rfl, rfl, hB⟩ | ⟨rfl, rfl, hB⟩ | ⟨rfl, rfl, hB⟩ | ⟨rfl, rfl, hB⟩ | ⟨rfl, rfl, hB⟩
        · have F := hB.frozen 0
          have C : w2.cell? ⟨g, 0, none⟩ = some (.int .i64 0) := hB.cell 0
          have hglt := hB.lt
          have triv := hp
          clear triv D1 D2 D3
          rcases D0 with ⟨d0, d1, d2⟩ | ⟨d0, d1, d2⟩
          · subst d1 d2
            go_wp2_with (go_at_call 42; (with_reducible refine (refValue _ _).mono ?_); go_loud (rw [Y0]); rintro e w9 ⟨rfl, rfl⟩)
            go_roundw
            case rel => exact ⟨.inr (.inl ⟨by go_num, by go_num, by exact hB.set 0 _⟩), CI.setCell (p := ⟨g, _, none⟩) (.inr (by show _ ≤ g; omega)) _⟩
            case measure => simp [intOf]
          · subst d1 d2
            go_wp2_with (go_at_call 42; (with_reducible refine (refValue _ _).mono ?_); go_loud (rw [Y0]); rintro e w9 ⟨rfl, rfl⟩)
            go_roundw
            case rel => exact ⟨.inr (.inl ⟨by go_num, by go_num, by exact (hB.set 0 _).set 0 _⟩), (CI.setCell (p := ⟨g, _, none⟩) (.inr (by show _ ≤ g; omega)) _).setCell (p := ⟨g, _, none⟩) (.inr (by show _ ≤ g; omega)) _⟩
            case measure => simp [intOf]
        · have F := hB.frozen 1
          have C : w2.cell? ⟨g, 1, none⟩ = some (.int .i64 0) := hB.cell 1
          have hglt := hB.lt
          have triv := hp
          clear triv D2 D3
          rcases D1 with ⟨d0, d1, d2⟩ | ⟨d0, d1, d2⟩
          · subst d1 d2
            go_wp2_with (go_at_call 42; (with_reducible refine (refValue _ _).mono ?_); go_loud (rw [Y1]); rintro e w9 ⟨rfl, rfl⟩)
            go_roundw
            case rel => exact ⟨.inr (.inr (.inl ⟨by go_num, by go_num, by exact hB.set 1 _⟩)), CI.setCell (p := ⟨g, _, none⟩) (.inr (by show _ ≤ g; omega)) _⟩
            case measure => simp [intOf]
          · subst d1 d2
            go_wp2_with (go_at_call 42; (with_reducible refine (refValue _ _).mono ?_); go_loud (rw [Y1]); rintro e w9 ⟨rfl, rfl⟩)
            go_roundw
            case rel => exact ⟨.inr (.inr (.inl ⟨by go_num, by go_num, by exact (hB.set 1 _).set 1 _⟩)), (CI.setCell (p := ⟨g, _, none⟩) (.inr (by show _ ≤ g; omega)) _).setCell (p := ⟨g, _, none⟩) (.inr (by show _ ≤ g; omega)) _⟩
            case measure => simp [intOf]
        · have F := hB.frozen 2
          have C : w2.cell? ⟨g, 2, none⟩ = some (.int .i64 0) := hB.cell 2
          have hglt := hB.lt
          have triv := hp
          clear triv D3
          rcases D2 with ⟨d0, d1, d2⟩ | ⟨d0, d1, d2⟩
          · subst d1 d2
            go_wp2_with (go_at_call 42; (with_reducible refine (refValue _ _).mono ?_); go_loud (rw [Y2]); rintro e w9 ⟨rfl, rfl⟩)
            go_roundw
            case rel => exact ⟨.inr (.inr (.inr (.inl ⟨by go_num, by go_num, by exact hB.set 2 _⟩))), CI.setCell (p := ⟨g, _, none⟩) (.inr (by show _ ≤ g; omega)) _⟩
            case measure => simp [intOf]
          · subst d1 d2
            go_wp2_with (go_at_call 42; (with_reducible refine (refValue _ _).mono ?_); go_loud (rw [Y2]); rintro e w9 ⟨rfl, rfl⟩)
            go_roundw
            case rel => exact ⟨.inr (.inr (.inr (.inl ⟨by go_num, by go_num, by exact (hB.set 2 _).set 2 _⟩))), (CI.setCell (p := ⟨g, _, none⟩) (.inr (by show _ ≤ g; omega)) _).setCell (p := ⟨g, _, none⟩) (.inr (by show _ ≤ g; omega)) _⟩
            case measure => simp [intOf]
        · have F := hB.frozen 3
          have C : w2.cell? ⟨g, 3, none⟩ = some (.int .i64 0) := hB.cell 3
          have hglt := hB.lt
          have triv := hp
          clear triv 
          rcases D3 with ⟨d0, d1, d2⟩ | ⟨d0, d1, d2⟩
          · subst d1 d2
            go_wp2_with (go_at_call 42; (with_reducible refine (refValue _ _).mono ?_); go_loud (rw [Y3]); rintro e w9 ⟨rfl, rfl⟩)
            go_roundw
            case rel => exact ⟨.inr (.inr (.inr (.inr (⟨by go_num, by go_num, by exact hB.set 3 _⟩)))), CI.setCell (p := ⟨g, _, none⟩) (.inr (by show _ ≤ g; omega)) _⟩
            case measure => simp [intOf]
          · subst d1 d2
            go_wp2_with (go_at_call 42; (with_reducible refine (refValue _ _).mono ?_); go_loud (rw [Y3]); rintro e w9 ⟨rfl, rfl⟩)
            go_roundw
            case rel => exact ⟨.inr (.inr (.inr (.inr (⟨by go_num, by go_num, by exact (hB.set 3 _).set 3 _⟩)))), (CI.setCell (p := ⟨g, _, none⟩) (.inr (by show _ ≤ g; omega)) _).setCell (p := ⟨g, _, none⟩) (.inr (by show _ ≤ g; omega)) _⟩
            case measure => simp [intOf]
        · have own2 := own.ch CI (by simp)
          have hglt := hB.lt
          have gA2 : ∀ x ∈ blkOf A, g ≠ x := fun x hx => by have := (own.blks x hx).2; omega
          have C0 : w2.cell? ⟨g, 0, none⟩ = some (.int .i64 V0) := hB.cell 0
          have C1 : w2.cell? ⟨g, 1, none⟩ = some (.int .i64 V1) := hB.cell 1
          have C2 : w2.cell? ⟨g, 2, none⟩ = some (.int .i64 V2) := hB.cell 2
          have C3 : w2.cell? ⟨g, 3, none⟩ = some (.int .i64 V3) := hB.cell 3
          have hnn : N0 ≤ 1 ∧ N1 ≤ 1 ∧ N2 ≤ 1 ∧ N3 ≤ 1 := by omega
          have CA2 := CC.trans CI
          have hB2 := hB
          clear CI CC own hB D0 e0 Y0 rg0 D1 e1 Y1 rg1 D2 e2 Y2 rg2 D3 e3 Y3 rg3
          obtain ⟨N, hN⟩ : ∃ N, N0 + N1 + N2 + N3 = N := ⟨_, rfl⟩
          rw [hN] at HG
          rw [show (N0 : Int) + N1 + N2 + N3 = (N : Int) by omega]
          have o0 : bits .or .i64 ((V0 : Int) * 4) ((V1 : Int) / 16) = V0 * 4 + V1 / 16 := orI V0 (V1 / 16) 2 (by omega) (by omega) (by omega) (by omega) (by omega)
          have o1 : bits .or .i64 ((V1 : Int) * 16) ((V2 : Int) / 4) = V1 * 16 + V2 / 4 := orI V1 (V2 / 4) 4 (by omega) (by omega) (by omega) (by omega) (by omega)
          have o2 : bits .or .i64 ((V2 : Int) * 64) (V3 : Int) = V2 * 64 + V3 := orI V2 V3 6 (by omega) (by omega) (by omega) (by omega) (by omega)
          obtain ⟨B0, hB0⟩ : ∃ B0 : Int, V0 * 4 + V1 / 16 = B0 := ⟨_, rfl⟩
          obtain ⟨B1, hB1⟩ : ∃ B1 : Int, V1 * 16 + V2 / 4 = B1 := ⟨_, rfl⟩
          obtain ⟨B3, hB3⟩ : ∃ B3 : Int, V2 * 64 + V3 = B3 := ⟨_, rfl⟩
          have r0 : 0 ≤ B0 ∧ B0 ≤ 255 := by omega
          have r1 : 0 ≤ B1 ∧ B1 ≤ 1023 := by omega
          have r2 : 0 ≤ B3 ∧ B3 ≤ 4095 := by omega
          rw [hB0] at o0
          rw [hB1] at o1
          rw [hB3] at o2
          rw [hB0, hB1, hB3] at HG
          have hB2_ := hB2
          clear hB2
          rcases (show N ≤ 2 ∨ N = 3 ∨ N = 4 by omega) with hN2 | hN2 | hN2
          · skip
            have hg := HG.out
            rw [if_neg (show ¬ 2 < N by omega), if_neg (show ¬ 3 < N by omega)] at hg
            clear HG
            have HG := hid hg
            clear hg hN
            go_wp2_with (first
              | (at_builtin; (refine wpList_app _ rfl (.tmp 39) (.tmp 48) _ rfl w.heap.size 5 _ 1 1 Tryd.underlying34 u8_info rfl (by omega) _ _ _ _ rfl (own2.alloc _) _ _ _ _ [.int .u8 _] rfl (Rd.new _ 1 [.int .u8 _] 1 rfl _) (by simp [Value.oneCell']) (by unfold maxLen; omega) (by omega) (by simp only [World.size_alloc]; omega) ?_; intro A3 c3 w3 own3 ch3 at3; have CA3 : Ch [] w w3 := (CA2.alloc _).step ch3 (fun x hx => .inr (own2.blks x hx).1); have hB3_ : Blk w3 g 61 [.int .i64 V0, .int .i64 V1, .int .i64 V2, .int .i64 V3] := (hB2_.alloc _).ch ch3 (fun hx => gA2 g hx rfl); have hg3 : g < w3.heap.size := hB3_.lt; have gA3 : ∀ x ∈ blkOf A3, g ≠ x := fun x hx => (by rcases at3 x hx with h | h; exact gA2 x h; (simp only [World.size_alloc] at h; omega)); have D31 : w3.cell? ⟨g, 1, none⟩ = some (.int .i64 V1) := hB3_.cell 1; have D32 : w3.cell? ⟨g, 2, none⟩ = some (.int .i64 V2) := hB3_.cell 2; have D33 : w3.cell? ⟨g, 3, none⟩ = some (.int .i64 V3) := hB3_.cell 3; have hsz3 := CA3.size)))
            go_roundw
            case rel =>
              refine ⟨p + 4, A3, n + 1, c3, out ++ [B0], by go_num, rfl, ?_, ?_, ⟨r + 1, by omega, by omega, by omega⟩, by omega, CA3⟩
              · simpa [List.map_append, List.append_assoc] using own3
              · show _ = _
                rw [← hE.out, HG.out]; simp
            case measure => simp only [intOf]; omega
          · skip
            have hg := HG.out
            rw [if_pos (show 2 < N by omega), if_neg (show ¬ 3 < N by omega)] at hg
            clear HG
            have HG := hid hg
            clear hg hN
            go_wp2_with (first
              | (at_builtin; (refine wpList_app _ rfl (.tmp 52) (.tmp 61) _ rfl w.heap.size 5 _ 1 1 Tryd.underlying34 u8_info rfl (by omega) _ _ _ _ rfl (own3.alloc _) _ _ _ _ [.int .u8 _] rfl (Rd.new _ 1 [.int .u8 _] 1 rfl _) (by simp [Value.oneCell']) (by unfold maxLen; omega) (by omega) (by simp only [World.size_alloc]; omega) ?_; intro A4 c4 w4 own4 ch4 at4; have CA4 : Ch [] w w4 := (CA3.alloc _).step ch4 (fun x hx => .inr (own3.blks x hx).1); have hB4_ : Blk w4 g 61 [.int .i64 V0, .int .i64 V1, .int .i64 V2, .int .i64 V3] := (hB3_.alloc _).ch ch4 (fun hx => gA3 g hx rfl); have hg4 : g < w4.heap.size := hB4_.lt; have gA4 : ∀ x ∈ blkOf A4, g ≠ x := fun x hx => (by rcases at4 x hx with h | h; exact gA3 x h; (simp only [World.size_alloc] at h; omega)); have D41 : w4.cell? ⟨g, 1, none⟩ = some (.int .i64 V1) := hB4_.cell 1; have D42 : w4.cell? ⟨g, 2, none⟩ = some (.int .i64 V2) := hB4_.cell 2; have D43 : w4.cell? ⟨g, 3, none⟩ = some (.int .i64 V3) := hB4_.cell 3; have hsz4 := CA4.size))
              | (at_builtin; (refine wpList_app _ rfl (.tmp 39) (.tmp 48) _ rfl w.heap.size 5 _ 1 1 Tryd.underlying34 u8_info rfl (by omega) _ _ _ _ rfl (own2.alloc _) _ _ _ _ [.int .u8 _] rfl (Rd.new _ 1 [.int .u8 _] 1 rfl _) (by simp [Value.oneCell']) (by unfold maxLen; omega) (by omega) (by simp only [World.size_alloc]; omega) ?_; intro A3 c3 w3 own3 ch3 at3; have CA3 : Ch [] w w3 := (CA2.alloc _).step ch3 (fun x hx => .inr (own2.blks x hx).1); have hB3_ : Blk w3 g 61 [.int .i64 V0, .int .i64 V1, .int .i64 V2, .int .i64 V3] := (hB2_.alloc _).ch ch3 (fun hx => gA2 g hx rfl); have hg3 : g < w3.heap.size := hB3_.lt; have gA3 : ∀ x ∈ blkOf A3, g ≠ x := fun x hx => (by rcases at3 x hx with h | h; exact gA2 x h; (simp only [World.size_alloc] at h; omega)); have D31 : w3.cell? ⟨g, 1, none⟩ = some (.int .i64 V1) := hB3_.cell 1; have D32 : w3.cell? ⟨g, 2, none⟩ = some (.int .i64 V2) := hB3_.cell 2; have D33 : w3.cell? ⟨g, 3, none⟩ = some (.int .i64 V3) := hB3_.cell 3; have hsz3 := CA3.size)))
            go_roundw
            case rel =>
              refine ⟨p + 4, A4, n + 1 + 1, c4, out ++ [B0, B1 % 256], by go_num, rfl, ?_, ?_, ⟨r + 1, by omega, by omega, by omega⟩, by omega, CA4⟩
              · simpa [List.map_append, List.append_assoc] using own4
              · show _ = _
                rw [← hE.out, HG.out]; simp
            case measure => simp only [intOf]; omega
          · skip
            have hg := HG.out
            rw [if_pos (show 2 < N by omega), if_pos (show 3 < N by omega)] at hg
            clear HG
            have HG := hid hg
            clear hg hN
            go_wp2_with (first
              | (at_builtin; go_loud (refine wpList_app _ rfl (.tmp 65) (.tmp 73) _ rfl w.heap.size 5 _ 1 1 Tryd.underlying34 u8_info rfl (by omega) _ _ _ _ rfl (own4.alloc _) _ _ _ _ [.int .u8 _] rfl (Rd.new _ 1 [.int .u8 _] 1 rfl _) (by simp [Value.oneCell']) (by unfold maxLen; omega) (by omega) (by simp only [World.size_alloc]; omega) ?_; intro A5 c5 w5 own5 ch5 at5; have CA5 : Ch [] w w5 := (CA4.alloc _).step ch5 (fun x hx => .inr (own4.blks x hx).1); have hB5_ : Blk w5 g 61 [.int .i64 V0, .int .i64 V1, .int .i64 V2, .int .i64 V3] := (hB4_.alloc _).ch ch5 (fun hx => gA4 g hx rfl); have hg5 : g < w5.heap.size := hB5_.lt; have gA5 : ∀ x ∈ blkOf A5, g ≠ x := fun x hx => (by rcases at5 x hx with h | h; exact gA4 x h; (simp only [World.size_alloc] at h; omega)); have D51 : w5.cell? ⟨g, 1, none⟩ = some (.int .i64 V1) := hB5_.cell 1; have D52 : w5.cell? ⟨g, 2, none⟩ = some (.int .i64 V2) := hB5_.cell 2; have D53 : w5.cell? ⟨g, 3, none⟩ = some (.int .i64 V3) := hB5_.cell 3; have hsz5 := CA5.size))
              | (at_builtin; (refine wpList_app _ rfl (.tmp 52) (.tmp 61) _ rfl w.heap.size 5 _ 1 1 Tryd.underlying34 u8_info rfl (by omega) _ _ _ _ rfl (own3.alloc _) _ _ _ _ [.int .u8 _] rfl (Rd.new _ 1 [.int .u8 _] 1 rfl _) (by simp [Value.oneCell']) (by unfold maxLen; omega) (by omega) (by simp only [World.size_alloc]; omega) ?_; intro A4 c4 w4 own4 ch4 at4; have CA4 : Ch [] w w4 := (CA3.alloc _).step ch4 (fun x hx => .inr (own3.blks x hx).1); have hB4_ : Blk w4 g 61 [.int .i64 V0, .int .i64 V1, .int .i64 V2, .int .i64 V3] := (hB3_.alloc _).ch ch4 (fun hx => gA3 g hx rfl); have hg4 : g < w4.heap.size := hB4_.lt; have gA4 : ∀ x ∈ blkOf A4, g ≠ x := fun x hx => (by rcases at4 x hx with h | h; exact gA3 x h; (simp only [World.size_alloc] at h; omega)); have D41 : w4.cell? ⟨g, 1, none⟩ = some (.int .i64 V1) := hB4_.cell 1; have D42 : w4.cell? ⟨g, 2, none⟩ = some (.int .i64 V2) := hB4_.cell 2; have D43 : w4.cell? ⟨g, 3, none⟩ = some (.int .i64 V3) := hB4_.cell 3; have hsz4 := CA4.size))
              | (at_builtin; (refine wpList_app _ rfl (.tmp 39) (.tmp 48) _ rfl w.heap.size 5 _ 1 1 Tryd.underlying34 u8_info rfl (by omega) _ _ _ _ rfl (own2.alloc _) _ _ _ _ [.int .u8 _] rfl (Rd.new _ 1 [.int .u8 _] 1 rfl _) (by simp [Value.oneCell']) (by unfold maxLen; omega) (by omega) (by simp only [World.size_alloc]; omega) ?_; intro A3 c3 w3 own3 ch3 at3; have CA3 : Ch [] w w3 := (CA2.alloc _).step ch3 (fun x hx => .inr (own2.blks x hx).1); have hB3_ : Blk w3 g 61 [.int .i64 V0, .int .i64 V1, .int .i64 V2, .int .i64 V3] := (hB2_.alloc _).ch ch3 (fun hx => gA2 g hx rfl); have hg3 : g < w3.heap.size := hB3_.lt; have gA3 : ∀ x ∈ blkOf A3, g ≠ x := fun x hx => (by rcases at3 x hx with h | h; exact gA2 x h; (simp only [World.size_alloc] at h; omega)); have D31 : w3.cell? ⟨g, 1, none⟩ = some (.int .i64 V1) := hB3_.cell 1; have D32 : w3.cell? ⟨g, 2, none⟩ = some (.int .i64 V2) := hB3_.cell 2; have D33 : w3.cell? ⟨g, 3, none⟩ = some (.int .i64 V3) := hB3_.cell 3; have hsz3 := CA3.size)))
            go_roundw
            case rel =>
              refine ⟨p + 4, A5, n + 1 + 1 + 1, c5, out ++ [B0, B1 % 256, B3 % 256], by go_num, rfl, ?_, ?_, ⟨r + 1, by omega, by omega, by omega⟩, by omega, CA5⟩
              · simpa [List.map_append, List.append_assoc] using own5
              · show _ = _
                rw [← hE.out, HG.out]; simp
            case measure => simp only [intOf]; omega

    · have hE2 := hE.out
      rw [List.drop_eq_nil_of_le (by rw [numsOf_length]; omega), show rdec [] = [] from rfl, List.append_nil] at hE2
      have hcand : ∀ d : ByteArray, numsOf s = enc (numsOf d) → out = numsOf d := fun d hd => by rw [hE2, hd, rdec_enc _ (bytes_numsOf d)]
      have HD := hid hcand
      clear hcand hE2 hE
      have hos : (strOfNums out).size ≤ 1500000 := by rw [strOf_size]; have := own.len; rw [List.length_map] at this; omega
      obtain ⟨b, hb⟩ : ∃ b, ((strOfNums (enc (numsOf (strOfNums out)))).toList == s.toList) = b := ⟨_, rfl⟩
      have HB := hid hb
      cases b
      all_goals
        go_wp2_with (first
          | (refine wpList_strOf rfl 34 9 5 _ rfl Tryd.underlying34 Tryd.underlying5 Tryd.underlying9 A n c w5.heap.size _ rfl (Rd.ints own5.rd) ?_)
          | (go_at_call 23; (with_reducible refine (b64R _ hos _).mono ?_); rintro e w5 ⟨rfl, CE⟩; have own5 := own.ch CE (by simp))
          | (refine wpList_strOf rfl 34 9 5 _ rfl Tryd.underlying34 Tryd.underlying5 Tryd.underlying9 A n c wr.heap.size _ rfl (Rd.ints own.rd) ?_))
        go_ret2
      · exact ⟨by rw [dec_no HD.out (by have := HB.out; simpa using this)]; rfl, CC.trans CE⟩
      · exact ⟨by rw [dec_yes (by have := HB.out; simpa using this)]; rfl, CC.trans CE⟩
end Go.Proofs.YtlgeohjcjhhmhaaDoor
