/- ginnelref15.EncodeBase64 (printed by mk_b64r.py). -/
import Derived.Test.YtlgeohjcjhhmhaaDoorB64P
import Derived.Test.YtlgeohjcjhhmhaaDoorStages4
namespace Go.Proofs.YtlgeohjcjhhmhaaDoor
open Go.RowKit

theorem maskI (x : Int) (k : Nat) (m : Nat) (h0 : 0 ≤ x) (h1 : x < 16777216) (hm : 2 ^ k - 1 = m) (h2 : m < 16777216) : bits .and .i64 x (m : Int) = x % (2 ^ k : Nat) := by
  obtain ⟨n, rfl⟩ := Int.eq_ofNat_of_zero_le h0
  have := i64_mask n k m hm (by omega) (by omega)
  rw [this]; rfl
theorem orI (x y : Int) (k : Nat) (hk : k ≤ 16) (h0 : 0 ≤ x) (h1 : x < 65536) (h2 : 0 ≤ y) (h3 : y < (2 ^ k : Nat)) : bits .or .i64 (x * (2 ^ k : Nat)) y = x * (2 ^ k : Nat) + y := by
  obtain ⟨a, rfl⟩ := Int.eq_ofNat_of_zero_le h0
  obtain ⟨b, rfl⟩ := Int.eq_ofNat_of_zero_le h2
  have h4 : 2 ^ k ≤ 65536 := Nat.pow_le_pow_right (n := 2) (by omega) hk
  have h5 : 2 ^ k * a ≤ 65536 * 65536 := Nat.mul_le_mul h4 (by omega)
  have := i64_or a b k (by omega) (by omega)
  rw [Int.mul_comm, ← Int.natCast_mul, this]; omega

set_option maxRecDepth 100000 in
set_option maxHeartbeats 8000000 in
theorem b64R (s : ByteArray) (hm : s.size ≤ 1500000) (w : World) : Calls Tryd.prog 23 #[.string s] w fun e w' => e = .returned (.string (strOfNums (enc (numsOf s)))) ∧ Ch [] w w' := by
  go_enter Tryd.func23, Tryd.ntmps23
  go_wp2_with fail
  go_loopw [3, 4] (fun b i wr => ∃ (p : Nat) (out : List Int) (A : Option Addr) (n c : Nat), i = .int .i64 p ∧ b = .slice A n c ∧ Own wr w.heap.size 5 1 A n c (out.map (Value.int .u8)) ∧ Hid (out ++ enc ((numsOf s).drop p) = enc (numsOf s)) ∧ p ≤ s.size + 2 ∧ n * 3 = p * 4 ∧ Ch [] w wr) (fun _ i _ => s.size + 3 - (intOf i).toNat)
  case atStart => exact ⟨0, [], none, 0, 0, rfl, rfl, Own.nil _ _ _ _, by show _ = _; simp, by omega, by omega, Ch.refl _ _⟩
  case round =>
    obtain ⟨p, out, A, n, c, rfl, rfl, own, hE, hps, hn, CC⟩ := hrel
    have hw := CC.size
    by_cases hp : p < s.size
    · have hln : ((numsOf s).drop p).length = s.size - p := by rw [List.length_drop, numsOf_length]
      have hat (i : Nat) (h : p + i < s.size) : at_ ((numsOf s).drop p) i = byt s (p + i) := by rw [byt_at h]; simp [at_, List.getD]
      have hg := enc_group ((numsOf s).drop p) (by rw [hln]; omega)
      rw [hln, hat 0 (by omega), List.drop_drop, Nat.add_zero] at hg
      obtain ⟨a0, a1⟩ := byt_rng s p
      have e0 : ((s[p]'hp).toNat : Int) = byt s p := byt_get hp
      obtain ⟨g, hgd⟩ : ∃ g, wr.heap.size = g := ⟨_, rfl⟩
      rcases (show s.size - p = 1 ∨ s.size - p = 2 ∨ 3 ≤ s.size - p by omega) with h1 | h2 | h3
      · skip
        simp only [if_neg (show ¬ 2 ≤ s.size - p by omega), if_neg (show ¬ 3 ≤ s.size - p by omega)] at hg
        clear hat hln
        generalize byt s p = b0 at a0 a1 e0 hg
        obtain ⟨l0, K0⟩ : ∃ l, b64L (b0 / 4) = l := ⟨_, rfl⟩
        obtain ⟨l1, K1⟩ : ∃ l, b64L (b0 % 4 * 16 + 0 / 16) = l := ⟨_, rfl⟩
        rw [K0, K1] at hg
        have HG := hid hg
        clear hg
        replace K1 : b64L (b0 % 4 * 16) = l1 := by rw [← K1]; congr 1; omega
        have m0 : bits .and .i64 b0 3 = b0 % 4 := maskI b0 2 3 (by omega) (by omega) (by decide) (by decide)
        have o0 : bits .or .i64 (b0 % 4 * 16) 0 = b0 % 4 * 16 := by have := orI (b0 % 4) 0 4 (by omega) (by omega) (by omega) (by omega) (by omega); simpa using this
        go_wp2_with fail
        go_loopw [6, 7] (fun x k w2 => ((x = .int .i64 0 ∧ k = .int .i64 0 ∧ Blk w2 g 58 [.int .i64 0, .int .i64 0, .int .i64 0]) ∨ (x = .int .i64 1 ∧ k = .int .i64 1 ∧ Blk w2 g 58 [.int .i64 b0, .int .i64 0, .int .i64 0])) ∧ Ch [] wr w2) (fun _ k _ => 3 - (intOf k).toNat)
        case atStart => exact ⟨.inl ⟨rfl, rfl, Blk.newAt _ _ _ hgd⟩, (Ch.refl _ _).alloc _⟩
        case round =>
          rename World => w2
          obtain ⟨hv, CI⟩ := hrel
          have hsz2 := CI.size
          rcases hv with ⟨rfl, rfl, hB⟩ | ⟨rfl, rfl, hB⟩
          · have F := hB.frozen 0
            have C : w2.cell? ⟨g, 0, none⟩ = some (.int .i64 0) := hB.cell 0
            have hglt := hB.lt
            go_wp2_with fail
            go_roundw
            case rel => exact ⟨.inr (⟨by go_num, by go_num, by first | exact hB.set 0 _⟩), CI.setCell (p := ⟨g, _, none⟩) (.inr (by show _ ≤ g; omega)) _⟩
            case measure => simp [intOf]
          · have own2 := own.ch CI (by simp)
            have hcells := hB
            have hglt := hB.lt
            have gA : ∀ x ∈ blkOf A, g ≠ x := fun x hx => by have := (own.blks x hx).2; omega
            have C0 : w2.cell? ⟨g, 0, none⟩ = some (.int .i64 b0) := hB.cell 0
            have C1 : w2.cell? ⟨g, 1, none⟩ = some (.int .i64 0) := hB.cell 1
            have C2 : w2.cell? ⟨g, 2, none⟩ = some (.int .i64 0) := hB.cell 2
            have CW := CC.trans CI
            have hnm : n ≤ 2000004 := by omega
            clear hcells CI CC own
            go_wp2_with fail
            refine wp_region_stagesM [⟨0, 8, 68719476736⟩, ⟨0, 32, 137438953472⟩, ⟨2, 137438953472, 274877906944⟩, ⟨4, 274877906944, 549755813888⟩, ⟨8, 549755813888, 1099511627776⟩, ⟨0, 32, 2199023255552⟩, ⟨32, 2199023255552, 4398046511104⟩, ⟨64, 4398046511104, 8796093022208⟩, ⟨128, 8796093022208, 17592186044416⟩, ⟨0, 32, 35184372088832⟩, ⟨512, 35184372088832, 70368744177664⟩, ⟨1024, 70368744177664, 140737488355328⟩, ⟨2304, 158329674399744, 281474976710656⟩, ⟨4112, 281474976710656, 562949953421312⟩, ⟨8208, 564049465049088, 1125899906842624⟩, ⟨24577, 1125968626319360, 2251799813685248⟩, ⟨65535, 2251799813685248, 8⟩] [([0, 1, 2, 3, 5, 6, 7, 8, 9, 10, 11, 12], 4, [0, 5, 6, 7, 8, 9, 10, 11, 12]), ([], 13, [0]), ([], 14, [0]), ([], 15, [])] [16] (by kernel_rfl) (by kernel_rfl) ?_
            refine wpStages_step ?_
            simp only [pick, List.map_cons, List.map_nil, List.getD_cons_zero, List.getD_cons_succ]
            repeat (go_big_quiet_step (fail))
            refine wpQuiet_nil ?_
            intro n0
            simp only [pick, List.map_cons, List.map_nil, List.getD_cons_zero, List.getD_cons_succ]
            go_wp2_with (go_at_call 39; (with_reducible refine (refLetter _ (by omega) (by omega) _).mono ?_); rintro e w4 ⟨rfl, rfl⟩)
            try rw [K0]
            refine stagePost_mk ?_ ?_
            · intro o ho
              simp only [pick, List.map_cons, List.map_nil, List.getD_cons_zero, List.getD_cons_succ, List.mem_cons, List.not_mem_nil, or_false] at ho
              rcases ho with rfl | rfl | rfl | rfl | rfl | rfl | rfl | rfl | rfl
              all_goals
                refine float_any ?_
                repeat (go_big_quiet_step (fail))
                refine wpQuiet_nil ?_
                rfl
            refine wpStages_step ?_
            simp only [pick, List.map_nil]
            refine wpQuiet_nil ?_
            intro n1
            simp only [pick, List.map_cons, List.map_nil, List.getD_cons_zero, List.getD_cons_succ]
            go_wp2_with (go_at_call 39; (with_reducible refine (refLetter _ (by omega) (by omega) _).mono ?_); rintro e w5 ⟨rfl, rfl⟩)
            try rw [K1]
            refine stagePost_mk ?_ ?_
            · intro o ho
              simp only [pick, List.map_cons, List.map_nil, List.getD_cons_zero, List.mem_cons, List.not_mem_nil, or_false] at ho
              rcases ho with rfl
              all_goals
                refine float_any ?_
                repeat (go_big_quiet_step (fail))
                refine wpQuiet_nil ?_
                rfl
            refine wpStages_step ?_
            simp only [pick, List.map_nil]
            refine wpQuiet_nil ?_
            intro n2
            simp only [pick, List.map_cons, List.map_nil, List.getD_cons_zero, List.getD_cons_succ]
            go_wp2_with fail
            refine stagePost_mk ?_ ?_
            · intro o ho
              simp only [pick, List.map_cons, List.map_nil, List.getD_cons_zero, List.mem_cons, List.not_mem_nil, or_false] at ho
              rcases ho with rfl
              all_goals
                refine float_any ?_
                repeat (go_big_quiet_step (fail))
                refine wpQuiet_nil ?_
                rfl
            refine wpStages_step ?_
            simp only [pick, List.map_nil]
            refine wpQuiet_nil ?_
            intro n3
            simp only [pick, List.map_cons, List.map_nil, List.getD_cons_zero, List.getD_cons_succ]
            have ownA2 := own2
            have CA2 := CW
            have hB2 := hB
            have gA2 := gA
            clear own2 CW hB gA
            have own2 := ownA2
            clear ownA2
            go_wp2_with (at_builtin; go_must (refine wpList_app _ rfl (.tmp 36) (.tmp 50) _ rfl w.heap.size 5 _ 1 1 Tryd.underlying34 u8_info rfl (by omega) _ _ _ _ rfl (((own2.drewN (n0 + n1 + n2)).alloc _).drewN n3) _ _ _ _ [.int .u8 l0, .int .u8 l1] rfl ((Rd.new _ 1 [.int .u8 l0, .int .u8 l1] 2 rfl _).drewN n3) (by simp [Value.oneCell']) (by unfold maxLen; omega) (by omega) (by simp only [World.size_alloc, World.heap_drewN]; omega) ?_; intro A3 c3 w3 own3 ch3 at3; have CA3 : Ch [] w w3 := (((CA2.drewN (n0 + n1 + n2)).alloc _).drewN n3).step ch3 (fun x hx => .inr (own2.blks x hx).1); have hB3 : Blk w3 g 58 [.int .i64 b0, .int .i64 0, .int .i64 0] := (((hB2.drewN (n0 + n1 + n2)).alloc _).drewN n3).ch ch3 (fun hx => gA2 g hx rfl); have hg3 : g < w3.heap.size := hB3.lt; have gA3 : ∀ x ∈ blkOf A3, g ≠ x := fun x hx => (by rcases at3 x hx with h | h; exact gA2 x h; (simp only [World.size_alloc, World.heap_drewN] at h; omega)); have D31 : w3.cell? ⟨g, 1, none⟩ = some (.int .i64 0) := hB3.cell 1; have D32 : w3.cell? ⟨g, 2, none⟩ = some (.int .i64 0) := hB3.cell 2; have hsz3 := CA3.size))
            refine stagePost_mk (by simp [pick]) ?_
            refine wpStages_last ?_
            simp only [pick, List.map_cons, List.map_nil, List.getD_cons_zero, List.getD_cons_succ]
            repeat (go_big_quiet_step (fail))
            refine wpQuiet_nil ?_
            intro n4
            go_wp2_with (first
              | (at_builtin; (refine wpList_app _ rfl (.tmp 78) (.tmp 79) _ rfl w.heap.size 5 _ 1 1 Tryd.underlying34 u8_info rfl (by omega) _ _ _ _ rfl (own4.alloc _) _ _ _ _ [.int .u8 61] rfl (Rd.new _ 1 [.int .u8 61] 1 rfl _) (by simp [Value.oneCell']) (by unfold maxLen; omega) (by omega) (by simp only [World.size_alloc]; omega) ?_; intro A5 c5 w5 own5 ch5 at5; have CA5 : Ch [] w w5 := (CA4.alloc _).step ch5 (fun x hx => .inr (own4.blks x hx).1); have hB5 : Blk w5 g 58 [.int .i64 b0, .int .i64 0, .int .i64 0] := (hB4.alloc _).ch ch5 (fun hx => gA4 g hx rfl); have hg5 : g < w5.heap.size := hB5.lt; have gA5 : ∀ x ∈ blkOf A5, g ≠ x := fun x hx => (by rcases at5 x hx with h | h; exact gA4 x h; (simp only [World.size_alloc] at h; omega)); have D51 : w5.cell? ⟨g, 1, none⟩ = some (.int .i64 0) := hB5.cell 1; have D52 : w5.cell? ⟨g, 2, none⟩ = some (.int .i64 0) := hB5.cell 2; have hsz5 := CA5.size))
              | (at_builtin; (refine wpList_app _ rfl (.tmp 66) (.tmp 67) _ rfl w.heap.size 5 _ 1 1 Tryd.underlying34 u8_info rfl (by omega) _ _ _ _ rfl ((own3.drewN n4).alloc _) _ _ _ _ [.int .u8 61] rfl (Rd.new _ 1 [.int .u8 61] 1 rfl _) (by simp [Value.oneCell']) (by unfold maxLen; omega) (by omega) (by simp only [World.size_alloc, World.heap_drewN]; omega) ?_; intro A4 c4 w4 own4 ch4 at4; have CA4 : Ch [] w w4 := ((CA3.drewN n4).alloc _).step ch4 (fun x hx => .inr (own3.blks x hx).1); have hB4 : Blk w4 g 58 [.int .i64 b0, .int .i64 0, .int .i64 0] := ((hB3.drewN n4).alloc _).ch ch4 (fun hx => gA3 g hx rfl); have hg4 : g < w4.heap.size := hB4.lt; have gA4 : ∀ x ∈ blkOf A4, g ≠ x := fun x hx => (by rcases at4 x hx with h | h; exact gA3 x h; (simp only [World.size_alloc, World.heap_drewN] at h; omega)); have D41 : w4.cell? ⟨g, 1, none⟩ = some (.int .i64 0) := hB4.cell 1; have D42 : w4.cell? ⟨g, 2, none⟩ = some (.int .i64 0) := hB4.cell 2; have hsz4 := CA4.size)))
            go_roundw
            case rel =>
              refine ⟨p + 3, out ++ [l0, l1, 61, 61], A5, n + 4, c5, by go_num, rfl, ?_, ?_, by omega, by omega, CA5⟩
              · simpa [List.map_append, List.append_assoc] using own5
              · show _ = _
                rw [List.append_assoc, ← HG.out]; exact hE.out
            case measure => simp only [intOf]; omega
      · skip
        have hp1 : p + 1 < s.size := by omega
        obtain ⟨a2, a3⟩ := byt_rng s (p + 1)
        have e1 : ((s[p + 1]'hp1).toNat : Int) = byt s (p + 1) := byt_get hp1
        rw [hat 1 hp1] at hg
        simp only [if_pos (show 2 ≤ s.size - p by omega), if_neg (show ¬ 3 ≤ s.size - p by omega)] at hg
        clear hat hln
        generalize byt s p = b0 at a0 a1 e0 hg
        generalize byt s (p + 1) = b1 at a2 a3 e1 hg
        obtain ⟨l0, K0⟩ : ∃ l, b64L (b0 / 4) = l := ⟨_, rfl⟩
        obtain ⟨l1, K1⟩ : ∃ l, b64L (b0 % 4 * 16 + b1 / 16) = l := ⟨_, rfl⟩
        obtain ⟨l2, K2⟩ : ∃ l, b64L (b1 % 16 * 4 + 0 / 64) = l := ⟨_, rfl⟩
        rw [K0, K1, K2] at hg
        have HG := hid hg
        clear hg
        replace K2 : b64L (b1 % 16 * 4) = l2 := by rw [← K2]; congr 1; omega
        have m0 : bits .and .i64 b0 3 = b0 % 4 := maskI b0 2 3 (by omega) (by omega) (by decide) (by decide)
        have o0 : bits .or .i64 (b0 % 4 * 16) (b1 / 16) = b0 % 4 * 16 + b1 / 16 := orI (b0 % 4) (b1 / 16) 4 (by omega) (by omega) (by omega) (by omega) (by omega)
        have m1 : bits .and .i64 b1 15 = b1 % 16 := maskI b1 4 15 (by omega) (by omega) (by decide) (by decide)
        have o1 : bits .or .i64 (b1 % 16 * 4) 0 = b1 % 16 * 4 := by have := orI (b1 % 16) 0 2 (by omega) (by omega) (by omega) (by omega) (by omega); simpa using this
        go_wp2_with fail
        go_loopw [6, 7] (fun x k w2 => ((x = .int .i64 0 ∧ k = .int .i64 0 ∧ Blk w2 g 58 [.int .i64 0, .int .i64 0, .int .i64 0]) ∨ (x = .int .i64 1 ∧ k = .int .i64 1 ∧ Blk w2 g 58 [.int .i64 b0, .int .i64 0, .int .i64 0]) ∨ (x = .int .i64 2 ∧ k = .int .i64 2 ∧ Blk w2 g 58 [.int .i64 b0, .int .i64 b1, .int .i64 0])) ∧ Ch [] wr w2) (fun _ k _ => 3 - (intOf k).toNat)
        case atStart => exact ⟨.inl ⟨rfl, rfl, Blk.newAt _ _ _ hgd⟩, (Ch.refl _ _).alloc _⟩
        case round =>
          rename World => w2
          obtain ⟨hv, CI⟩ := hrel
          have hsz2 := CI.size
          rcases hv with ⟨rfl, rfl, hB⟩ | ⟨rfl, rfl, hB⟩ | ⟨rfl, rfl, hB⟩
          · have F := hB.frozen 0
            have C : w2.cell? ⟨g, 0, none⟩ = some (.int .i64 0) := hB.cell 0
            have hglt := hB.lt
            go_wp2_with fail
            go_roundw
            case rel => exact ⟨.inr (.inl ⟨by go_num, by go_num, by first | exact hB.set 0 _⟩), CI.setCell (p := ⟨g, _, none⟩) (.inr (by show _ ≤ g; omega)) _⟩
            case measure => simp [intOf]
          · have F := hB.frozen 1
            have C : w2.cell? ⟨g, 1, none⟩ = some (.int .i64 0) := hB.cell 1
            have hglt := hB.lt
            go_wp2_with fail
            go_roundw
            case rel => exact ⟨.inr (.inr (⟨by go_num, by go_num, by first | exact hB.set 1 _⟩)), CI.setCell (p := ⟨g, _, none⟩) (.inr (by show _ ≤ g; omega)) _⟩
            case measure => simp [intOf]
          · have own2 := own.ch CI (by simp)
            have hcells := hB
            have hglt := hB.lt
            have gA : ∀ x ∈ blkOf A, g ≠ x := fun x hx => by have := (own.blks x hx).2; omega
            have C0 : w2.cell? ⟨g, 0, none⟩ = some (.int .i64 b0) := hB.cell 0
            have C1 : w2.cell? ⟨g, 1, none⟩ = some (.int .i64 b1) := hB.cell 1
            have C2 : w2.cell? ⟨g, 2, none⟩ = some (.int .i64 0) := hB.cell 2
            have CW := CC.trans CI
            have hnm : n ≤ 2000004 := by omega
            clear hcells CI CC own
            go_wp2_with fail
            refine wp_region_stagesM [⟨0, 8, 68719476736⟩, ⟨0, 32, 137438953472⟩, ⟨2, 137438953472, 274877906944⟩, ⟨4, 274877906944, 549755813888⟩, ⟨8, 549755813888, 1099511627776⟩, ⟨0, 32, 2199023255552⟩, ⟨32, 2199023255552, 4398046511104⟩, ⟨64, 4398046511104, 8796093022208⟩, ⟨128, 8796093022208, 17592186044416⟩, ⟨0, 32, 35184372088832⟩, ⟨512, 35184372088832, 70368744177664⟩, ⟨1024, 70368744177664, 140737488355328⟩, ⟨2304, 158329674399744, 281474976710656⟩, ⟨4112, 281474976710656, 562949953421312⟩, ⟨8208, 564049465049088, 1125899906842624⟩, ⟨24577, 1125968626319360, 2251799813685248⟩, ⟨65535, 2251799813685248, 8⟩] [([0, 1, 2, 3, 5, 6, 7, 8, 9, 10, 11, 12], 4, [0, 5, 6, 7, 8, 9, 10, 11, 12]), ([], 13, [0]), ([], 14, [0]), ([], 15, [])] [16] (by kernel_rfl) (by kernel_rfl) ?_
            refine wpStages_step ?_
            simp only [pick, List.map_cons, List.map_nil, List.getD_cons_zero, List.getD_cons_succ]
            repeat (go_big_quiet_step (fail))
            refine wpQuiet_nil ?_
            intro n0
            simp only [pick, List.map_cons, List.map_nil, List.getD_cons_zero, List.getD_cons_succ]
            go_wp2_with (go_at_call 39; (with_reducible refine (refLetter _ (by omega) (by omega) _).mono ?_); rintro e w4 ⟨rfl, rfl⟩)
            try rw [K0]
            refine stagePost_mk ?_ ?_
            · intro o ho
              simp only [pick, List.map_cons, List.map_nil, List.getD_cons_zero, List.getD_cons_succ, List.mem_cons, List.not_mem_nil, or_false] at ho
              rcases ho with rfl | rfl | rfl | rfl | rfl | rfl | rfl | rfl | rfl
              all_goals
                refine float_any ?_
                repeat (go_big_quiet_step (fail))
                refine wpQuiet_nil ?_
                rfl
            refine wpStages_step ?_
            simp only [pick, List.map_nil]
            refine wpQuiet_nil ?_
            intro n1
            simp only [pick, List.map_cons, List.map_nil, List.getD_cons_zero, List.getD_cons_succ]
            go_wp2_with (go_at_call 39; (with_reducible refine (refLetter _ (by omega) (by omega) _).mono ?_); rintro e w5 ⟨rfl, rfl⟩)
            try rw [K1]
            refine stagePost_mk ?_ ?_
            · intro o ho
              simp only [pick, List.map_cons, List.map_nil, List.getD_cons_zero, List.mem_cons, List.not_mem_nil, or_false] at ho
              rcases ho with rfl
              all_goals
                refine float_any ?_
                repeat (go_big_quiet_step (fail))
                refine wpQuiet_nil ?_
                rfl
            refine wpStages_step ?_
            simp only [pick, List.map_nil]
            refine wpQuiet_nil ?_
            intro n2
            simp only [pick, List.map_cons, List.map_nil, List.getD_cons_zero, List.getD_cons_succ]
            go_wp2_with fail
            refine stagePost_mk ?_ ?_
            · intro o ho
              simp only [pick, List.map_cons, List.map_nil, List.getD_cons_zero, List.mem_cons, List.not_mem_nil, or_false] at ho
              rcases ho with rfl
              all_goals
                refine float_any ?_
                repeat (go_big_quiet_step (fail))
                refine wpQuiet_nil ?_
                rfl
            refine wpStages_step ?_
            simp only [pick, List.map_nil]
            refine wpQuiet_nil ?_
            intro n3
            simp only [pick, List.map_cons, List.map_nil, List.getD_cons_zero, List.getD_cons_succ]
            have ownA2 := own2
            have CA2 := CW
            have hB2 := hB
            have gA2 := gA
            clear own2 CW hB gA
            have own2 := ownA2
            clear ownA2
            go_wp2_with (at_builtin; go_must (refine wpList_app _ rfl (.tmp 36) (.tmp 50) _ rfl w.heap.size 5 _ 1 1 Tryd.underlying34 u8_info rfl (by omega) _ _ _ _ rfl (((own2.drewN (n0 + n1 + n2)).alloc _).drewN n3) _ _ _ _ [.int .u8 l0, .int .u8 l1] rfl ((Rd.new _ 1 [.int .u8 l0, .int .u8 l1] 2 rfl _).drewN n3) (by simp [Value.oneCell']) (by unfold maxLen; omega) (by omega) (by simp only [World.size_alloc, World.heap_drewN]; omega) ?_; intro A3 c3 w3 own3 ch3 at3; have CA3 : Ch [] w w3 := (((CA2.drewN (n0 + n1 + n2)).alloc _).drewN n3).step ch3 (fun x hx => .inr (own2.blks x hx).1); have hB3 : Blk w3 g 58 [.int .i64 b0, .int .i64 b1, .int .i64 0] := (((hB2.drewN (n0 + n1 + n2)).alloc _).drewN n3).ch ch3 (fun hx => gA2 g hx rfl); have hg3 : g < w3.heap.size := hB3.lt; have gA3 : ∀ x ∈ blkOf A3, g ≠ x := fun x hx => (by rcases at3 x hx with h | h; exact gA2 x h; (simp only [World.size_alloc, World.heap_drewN] at h; omega)); have D31 : w3.cell? ⟨g, 1, none⟩ = some (.int .i64 b1) := hB3.cell 1; have D32 : w3.cell? ⟨g, 2, none⟩ = some (.int .i64 0) := hB3.cell 2; have hsz3 := CA3.size))
            refine stagePost_mk (by simp [pick]) ?_
            refine wpStages_last ?_
            simp only [pick, List.map_cons, List.map_nil, List.getD_cons_zero, List.getD_cons_succ]
            repeat (go_big_quiet_step (fail))
            refine wpQuiet_nil ?_
            intro n4
            go_wp2_with (first
              | (go_at_call 39; (with_reducible refine (refLetter _ (by omega) (by omega) _).mono ?_); rintro e w9 ⟨rfl, rfl⟩)
              | (at_builtin; (refine wpList_app _ rfl (.tmp 78) (.tmp 79) _ rfl w.heap.size 5 _ 1 1 Tryd.underlying34 u8_info rfl (by omega) _ _ _ _ rfl (own4.alloc _) _ _ _ _ [.int .u8 61] rfl (Rd.new _ 1 [.int .u8 61] 1 rfl _) (by simp [Value.oneCell']) (by unfold maxLen; omega) (by omega) (by simp only [World.size_alloc]; omega) ?_; intro A5 c5 w5 own5 ch5 at5; have CA5 : Ch [] w w5 := (CA4.alloc _).step ch5 (fun x hx => .inr (own4.blks x hx).1); have hB5 : Blk w5 g 58 [.int .i64 b0, .int .i64 b1, .int .i64 0] := (hB4.alloc _).ch ch5 (fun hx => gA4 g hx rfl); have hg5 : g < w5.heap.size := hB5.lt; have gA5 : ∀ x ∈ blkOf A5, g ≠ x := fun x hx => (by rcases at5 x hx with h | h; exact gA4 x h; (simp only [World.size_alloc] at h; omega)); have D51 : w5.cell? ⟨g, 1, none⟩ = some (.int .i64 b1) := hB5.cell 1; have D52 : w5.cell? ⟨g, 2, none⟩ = some (.int .i64 0) := hB5.cell 2; have hsz5 := CA5.size))
              | (at_builtin; (refine wpList_app _ rfl (.tmp 54) (.tmp 64) _ rfl w.heap.size 5 _ 1 1 Tryd.underlying34 u8_info rfl (by omega) _ _ _ _ rfl ((own3.drewN n4).alloc _) _ _ _ _ [.int .u8 l2] rfl (Rd.new _ 1 [.int .u8 l2] 1 rfl _) (by simp [Value.oneCell']) (by unfold maxLen; omega) (by omega) (by simp only [World.size_alloc, World.heap_drewN]; omega) ?_; intro A4 c4 w4 own4 ch4 at4; have CA4 : Ch [] w w4 := ((CA3.drewN n4).alloc _).step ch4 (fun x hx => .inr (own3.blks x hx).1); have hB4 : Blk w4 g 58 [.int .i64 b0, .int .i64 b1, .int .i64 0] := ((hB3.drewN n4).alloc _).ch ch4 (fun hx => gA3 g hx rfl); have hg4 : g < w4.heap.size := hB4.lt; have gA4 : ∀ x ∈ blkOf A4, g ≠ x := fun x hx => (by rcases at4 x hx with h | h; exact gA3 x h; (simp only [World.size_alloc, World.heap_drewN] at h; omega)); have D41 : w4.cell? ⟨g, 1, none⟩ = some (.int .i64 b1) := hB4.cell 1; have D42 : w4.cell? ⟨g, 2, none⟩ = some (.int .i64 0) := hB4.cell 2; have hsz4 := CA4.size)))
            go_roundw
            case rel =>
              refine ⟨p + 3, out ++ [l0, l1, l2, 61], A5, n + 4, c5, by go_num, rfl, ?_, ?_, by omega, by omega, CA5⟩
              · simpa [List.map_append, List.append_assoc] using own5
              · show _ = _
                rw [List.append_assoc, ← HG.out]; exact hE.out
            case measure => simp only [intOf]; omega
      · skip
        have hp1 : p + 1 < s.size := by omega
        obtain ⟨a2, a3⟩ := byt_rng s (p + 1)
        have e1 : ((s[p + 1]'hp1).toNat : Int) = byt s (p + 1) := byt_get hp1
        rw [hat 1 hp1] at hg
        have hp2 : p + 2 < s.size := by omega
        obtain ⟨a4, a5⟩ := byt_rng s (p + 2)
        have e2 : ((s[p + 2]'hp2).toNat : Int) = byt s (p + 2) := byt_get hp2
        rw [hat 2 hp2] at hg
        simp only [if_pos (show 2 ≤ s.size - p by omega), if_pos (show 3 ≤ s.size - p by omega)] at hg
        clear hat hln
        generalize byt s p = b0 at a0 a1 e0 hg
        generalize byt s (p + 1) = b1 at a2 a3 e1 hg
        generalize byt s (p + 2) = b2 at a4 a5 e2 hg
        obtain ⟨l0, K0⟩ : ∃ l, b64L (b0 / 4) = l := ⟨_, rfl⟩
        obtain ⟨l1, K1⟩ : ∃ l, b64L (b0 % 4 * 16 + b1 / 16) = l := ⟨_, rfl⟩
        obtain ⟨l2, K2⟩ : ∃ l, b64L (b1 % 16 * 4 + b2 / 64) = l := ⟨_, rfl⟩
        obtain ⟨l3, K3⟩ : ∃ l, b64L (b2 % 64) = l := ⟨_, rfl⟩
        rw [K0, K1, K2, K3] at hg
        have HG := hid hg
        clear hg
        have m0 : bits .and .i64 b0 3 = b0 % 4 := maskI b0 2 3 (by omega) (by omega) (by decide) (by decide)
        have o0 : bits .or .i64 (b0 % 4 * 16) (b1 / 16) = b0 % 4 * 16 + b1 / 16 := orI (b0 % 4) (b1 / 16) 4 (by omega) (by omega) (by omega) (by omega) (by omega)
        have m1 : bits .and .i64 b1 15 = b1 % 16 := maskI b1 4 15 (by omega) (by omega) (by decide) (by decide)
        have o1 : bits .or .i64 (b1 % 16 * 4) (b2 / 64) = b1 % 16 * 4 + b2 / 64 := orI (b1 % 16) (b2 / 64) 2 (by omega) (by omega) (by omega) (by omega) (by omega)
        have m2 : bits .and .i64 b2 63 = b2 % 64 := maskI b2 6 63 (by omega) (by omega) (by decide) (by decide)
        go_wp2_with fail
        go_loopw [6, 7] (fun x k w2 => ((x = .int .i64 0 ∧ k = .int .i64 0 ∧ Blk w2 g 58 [.int .i64 0, .int .i64 0, .int .i64 0]) ∨ (x = .int .i64 1 ∧ k = .int .i64 1 ∧ Blk w2 g 58 [.int .i64 b0, .int .i64 0, .int .i64 0]) ∨ (x = .int .i64 2 ∧ k = .int .i64 2 ∧ Blk w2 g 58 [.int .i64 b0, .int .i64 b1, .int .i64 0]) ∨ (x = .int .i64 3 ∧ k = .int .i64 3 ∧ Blk w2 g 58 [.int .i64 b0, .int .i64 b1, .int .i64 b2])) ∧ Ch [] wr w2) (fun _ k _ => 3 - (intOf k).toNat)
        case atStart => exact ⟨.inl ⟨rfl, rfl, Blk.newAt _ _ _ hgd⟩, (Ch.refl _ _).alloc _⟩
        case round =>
          rename World => w2
          obtain ⟨hv, CI⟩ := hrel
          have hsz2 := CI.size
          rcases hv with ⟨rfl, rfl, hB⟩ | ⟨rfl, rfl, hB⟩ | ⟨rfl, rfl, hB⟩ | ⟨rfl, rfl, hB⟩
          · have F := hB.frozen 0
            have C : w2.cell? ⟨g, 0, none⟩ = some (.int .i64 0) := hB.cell 0
            have hglt := hB.lt
            go_wp2_with fail
            go_roundw
            case rel => exact ⟨.inr (.inl ⟨by go_num, by go_num, by first | exact hB.set 0 _⟩), CI.setCell (p := ⟨g, _, none⟩) (.inr (by show _ ≤ g; omega)) _⟩
            case measure => simp [intOf]
          · have F := hB.frozen 1
            have C : w2.cell? ⟨g, 1, none⟩ = some (.int .i64 0) := hB.cell 1
            have hglt := hB.lt
            go_wp2_with fail
            go_roundw
            case rel => exact ⟨.inr (.inr (.inl ⟨by go_num, by go_num, by first | exact hB.set 1 _⟩)), CI.setCell (p := ⟨g, _, none⟩) (.inr (by show _ ≤ g; omega)) _⟩
            case measure => simp [intOf]
          · have F := hB.frozen 2
            have C : w2.cell? ⟨g, 2, none⟩ = some (.int .i64 0) := hB.cell 2
            have hglt := hB.lt
            go_wp2_with fail
            go_roundw
            case rel => exact ⟨.inr (.inr (.inr (⟨by go_num, by go_num, by first | exact hB.set 2 _⟩))), CI.setCell (p := ⟨g, _, none⟩) (.inr (by show _ ≤ g; omega)) _⟩
            case measure => simp [intOf]
          · have own2 := own.ch CI (by simp)
            have hcells := hB
            have hglt := hB.lt
            have gA : ∀ x ∈ blkOf A, g ≠ x := fun x hx => by have := (own.blks x hx).2; omega
            have C0 : w2.cell? ⟨g, 0, none⟩ = some (.int .i64 b0) := hB.cell 0
            have C1 : w2.cell? ⟨g, 1, none⟩ = some (.int .i64 b1) := hB.cell 1
            have C2 : w2.cell? ⟨g, 2, none⟩ = some (.int .i64 b2) := hB.cell 2
            have CW := CC.trans CI
            have hnm : n ≤ 2000004 := by omega
            clear hcells CI CC own
            go_wp2_with fail
            refine wp_region_stagesM [⟨0, 8, 68719476736⟩, ⟨0, 32, 137438953472⟩, ⟨2, 137438953472, 274877906944⟩, ⟨4, 274877906944, 549755813888⟩, ⟨8, 549755813888, 1099511627776⟩, ⟨0, 32, 2199023255552⟩, ⟨32, 2199023255552, 4398046511104⟩, ⟨64, 4398046511104, 8796093022208⟩, ⟨128, 8796093022208, 17592186044416⟩, ⟨0, 32, 35184372088832⟩, ⟨512, 35184372088832, 70368744177664⟩, ⟨1024, 70368744177664, 140737488355328⟩, ⟨2304, 158329674399744, 281474976710656⟩, ⟨4112, 281474976710656, 562949953421312⟩, ⟨8208, 564049465049088, 1125899906842624⟩, ⟨24577, 1125968626319360, 2251799813685248⟩, ⟨65535, 2251799813685248, 8⟩] [([0, 1, 2, 3, 5, 6, 7, 8, 9, 10, 11, 12], 4, [0, 5, 6, 7, 8, 9, 10, 11, 12]), ([], 13, [0]), ([], 14, [0]), ([], 15, [])] [16] (by kernel_rfl) (by kernel_rfl) ?_
            refine wpStages_step ?_
            simp only [pick, List.map_cons, List.map_nil, List.getD_cons_zero, List.getD_cons_succ]
            repeat (go_big_quiet_step (fail))
            refine wpQuiet_nil ?_
            intro n0
            simp only [pick, List.map_cons, List.map_nil, List.getD_cons_zero, List.getD_cons_succ]
            go_wp2_with (go_at_call 39; (with_reducible refine (refLetter _ (by omega) (by omega) _).mono ?_); rintro e w4 ⟨rfl, rfl⟩)
            try rw [K0]
            refine stagePost_mk ?_ ?_
            · intro o ho
              simp only [pick, List.map_cons, List.map_nil, List.getD_cons_zero, List.getD_cons_succ, List.mem_cons, List.not_mem_nil, or_false] at ho
              rcases ho with rfl | rfl | rfl | rfl | rfl | rfl | rfl | rfl | rfl
              all_goals
                refine float_any ?_
                repeat (go_big_quiet_step (fail))
                refine wpQuiet_nil ?_
                rfl
            refine wpStages_step ?_
            simp only [pick, List.map_nil]
            refine wpQuiet_nil ?_
            intro n1
            simp only [pick, List.map_cons, List.map_nil, List.getD_cons_zero, List.getD_cons_succ]
            go_wp2_with (go_at_call 39; (with_reducible refine (refLetter _ (by omega) (by omega) _).mono ?_); rintro e w5 ⟨rfl, rfl⟩)
            try rw [K1]
            refine stagePost_mk ?_ ?_
            · intro o ho
              simp only [pick, List.map_cons, List.map_nil, List.getD_cons_zero, List.mem_cons, List.not_mem_nil, or_false] at ho
              rcases ho with rfl
              all_goals
                refine float_any ?_
                repeat (go_big_quiet_step (fail))
                refine wpQuiet_nil ?_
                rfl
            refine wpStages_step ?_
            simp only [pick, List.map_nil]
            refine wpQuiet_nil ?_
            intro n2
            simp only [pick, List.map_cons, List.map_nil, List.getD_cons_zero, List.getD_cons_succ]
            go_wp2_with fail
            refine stagePost_mk ?_ ?_
            · intro o ho
              simp only [pick, List.map_cons, List.map_nil, List.getD_cons_zero, List.mem_cons, List.not_mem_nil, or_false] at ho
              rcases ho with rfl
              all_goals
                refine float_any ?_
                repeat (go_big_quiet_step (fail))
                refine wpQuiet_nil ?_
                rfl
            refine wpStages_step ?_
            simp only [pick, List.map_nil]
            refine wpQuiet_nil ?_
            intro n3
            simp only [pick, List.map_cons, List.map_nil, List.getD_cons_zero, List.getD_cons_succ]
            have ownA2 := own2
            have CA2 := CW
            have hB2 := hB
            have gA2 := gA
            clear own2 CW hB gA
            have own2 := ownA2
            clear ownA2
            go_wp2_with (at_builtin; go_must (refine wpList_app _ rfl (.tmp 36) (.tmp 50) _ rfl w.heap.size 5 _ 1 1 Tryd.underlying34 u8_info rfl (by omega) _ _ _ _ rfl (((own2.drewN (n0 + n1 + n2)).alloc _).drewN n3) _ _ _ _ [.int .u8 l0, .int .u8 l1] rfl ((Rd.new _ 1 [.int .u8 l0, .int .u8 l1] 2 rfl _).drewN n3) (by simp [Value.oneCell']) (by unfold maxLen; omega) (by omega) (by simp only [World.size_alloc, World.heap_drewN]; omega) ?_; intro A3 c3 w3 own3 ch3 at3; have CA3 : Ch [] w w3 := (((CA2.drewN (n0 + n1 + n2)).alloc _).drewN n3).step ch3 (fun x hx => .inr (own2.blks x hx).1); have hB3 : Blk w3 g 58 [.int .i64 b0, .int .i64 b1, .int .i64 b2] := (((hB2.drewN (n0 + n1 + n2)).alloc _).drewN n3).ch ch3 (fun hx => gA2 g hx rfl); have hg3 : g < w3.heap.size := hB3.lt; have gA3 : ∀ x ∈ blkOf A3, g ≠ x := fun x hx => (by rcases at3 x hx with h | h; exact gA2 x h; (simp only [World.size_alloc, World.heap_drewN] at h; omega)); have D31 : w3.cell? ⟨g, 1, none⟩ = some (.int .i64 b1) := hB3.cell 1; have D32 : w3.cell? ⟨g, 2, none⟩ = some (.int .i64 b2) := hB3.cell 2; have hsz3 := CA3.size))
            refine stagePost_mk (by simp [pick]) ?_
            refine wpStages_last ?_
            simp only [pick, List.map_cons, List.map_nil, List.getD_cons_zero, List.getD_cons_succ]
            repeat (go_big_quiet_step (fail))
            refine wpQuiet_nil ?_
            intro n4
            go_wp2_with (first
              | (go_at_call 39; (with_reducible refine (refLetter _ (by omega) (by omega) _).mono ?_); rintro e w9 ⟨rfl, rfl⟩)
              | (at_builtin; (refine wpList_app _ rfl (.tmp 71) (.tmp 76) _ rfl w.heap.size 5 _ 1 1 Tryd.underlying34 u8_info rfl (by omega) _ _ _ _ rfl (own4.alloc _) _ _ _ _ [.int .u8 l3] rfl (Rd.new _ 1 [.int .u8 l3] 1 rfl _) (by simp [Value.oneCell']) (by unfold maxLen; omega) (by omega) (by simp only [World.size_alloc]; omega) ?_; intro A5 c5 w5 own5 ch5 at5; have CA5 : Ch [] w w5 := (CA4.alloc _).step ch5 (fun x hx => .inr (own4.blks x hx).1); have hB5 : Blk w5 g 58 [.int .i64 b0, .int .i64 b1, .int .i64 b2] := (hB4.alloc _).ch ch5 (fun hx => gA4 g hx rfl); have hg5 : g < w5.heap.size := hB5.lt; have gA5 : ∀ x ∈ blkOf A5, g ≠ x := fun x hx => (by rcases at5 x hx with h | h; exact gA4 x h; (simp only [World.size_alloc] at h; omega)); have D51 : w5.cell? ⟨g, 1, none⟩ = some (.int .i64 b1) := hB5.cell 1; have D52 : w5.cell? ⟨g, 2, none⟩ = some (.int .i64 b2) := hB5.cell 2; have hsz5 := CA5.size))
              | (at_builtin; (refine wpList_app _ rfl (.tmp 54) (.tmp 64) _ rfl w.heap.size 5 _ 1 1 Tryd.underlying34 u8_info rfl (by omega) _ _ _ _ rfl ((own3.drewN n4).alloc _) _ _ _ _ [.int .u8 l2] rfl (Rd.new _ 1 [.int .u8 l2] 1 rfl _) (by simp [Value.oneCell']) (by unfold maxLen; omega) (by omega) (by simp only [World.size_alloc, World.heap_drewN]; omega) ?_; intro A4 c4 w4 own4 ch4 at4; have CA4 : Ch [] w w4 := ((CA3.drewN n4).alloc _).step ch4 (fun x hx => .inr (own3.blks x hx).1); have hB4 : Blk w4 g 58 [.int .i64 b0, .int .i64 b1, .int .i64 b2] := ((hB3.drewN n4).alloc _).ch ch4 (fun hx => gA3 g hx rfl); have hg4 : g < w4.heap.size := hB4.lt; have gA4 : ∀ x ∈ blkOf A4, g ≠ x := fun x hx => (by rcases at4 x hx with h | h; exact gA3 x h; (simp only [World.size_alloc, World.heap_drewN] at h; omega)); have D41 : w4.cell? ⟨g, 1, none⟩ = some (.int .i64 b1) := hB4.cell 1; have D42 : w4.cell? ⟨g, 2, none⟩ = some (.int .i64 b2) := hB4.cell 2; have hsz4 := CA4.size)))
            go_roundw
            case rel =>
              refine ⟨p + 3, out ++ [l0, l1, l2, l3], A5, n + 4, c5, by go_num, rfl, ?_, ?_, by omega, by omega, CA5⟩
              · simpa [List.map_append, List.append_assoc] using own5
              · show _ = _
                rw [List.append_assoc, ← HG.out]; exact hE.out
            case measure => simp only [intOf]; omega
    · have hnu : (numsOf s).drop p = [] := List.drop_eq_nil_of_le (by rw [numsOf_length]; omega)
      have hE2 := hE.out
      rw [hnu, show enc [] = [] from rfl, List.append_nil] at hE2
      subst hE2
      go_wp2_with (refine wpList_strOf rfl 34 9 5 _ rfl Tryd.underlying34 Tryd.underlying5 Tryd.underlying9 A n c wr.heap.size _ rfl (Rd.ints own.rd) ?_)
      go_ret
      exact ⟨rfl, CC⟩
end Go.Proofs.YtlgeohjcjhhmhaaDoor
