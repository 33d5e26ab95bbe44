/- The reference's registry in memory; ginnelref13.New (printed by mk_tenr.py). -/
import Derived.Test.YtbmbnibamhgfmaaDoorTenS
import Derived.Test.YtbmbnibamhgfmaaDoorBudgetRef
namespace Go.Proofs.YtbmbnibamhgfmaaDoor
open Go.RowKit

theorem bud_infoZ : (Tryd.prog.info? 76).map (fun i => (i.zero, i.size, i.bytes)) = some (some (.agg #[.int .i64 0, .int .u64 0, .int .u64 0, .int .i64 0]), 4, 32) := by kernel_rfl
/-- The reference's registry in memory: its budgets and numbers of sessions as X says. -/
structure RfM (w : World) (g n : Nat) (TA : Option Addr) (cap : Nat) (X : List En) (BA : Option Addr) (bc : Nat) (AA : Option Addr) (ac : Nat) : Prop where
  blk : Blk w g 43 [.slice TA n cap, .slice BA X.length bc, .slice AA X.length ac]
  bud : Own w (g + 1) 76 4 BA X.length bc (X.flatMap fun e => e.bd.cells)
  act : Own w (g + 1) 3 1 AA X.length ac (X.map fun e => .int .i64 e.act)
  ba : ∀ b ∈ blkOf BA, b ∉ blkOf AA
theorem RfM.ch {w w' : World} {g n : Nat} {TA : Option Addr} {cap : Nat} {X : List En} {BA : Option Addr} {bc : Nat} {AA : Option Addr} {ac : Nat} {S : List Nat} (h : RfM w g n TA cap X BA bc AA ac) (hc : Ch S w w') (hS : ∀ b ∈ S, b < g ∨ w.heap.size ≤ b) : RfM w' g n TA cap X BA bc AA ac :=
  ⟨h.blk.ch hc (fun hb => by have := hS g hb; have := h.blk.lt; omega), h.bud.ch hc (fun b hb hs => by have := hS b hs; have := h.bud.blks b hb; omega), h.act.ch hc (fun b hb hs => by have := hS b hs; have := h.act.blks b hb; omega), h.ba⟩
set_option maxRecDepth 100000 in
set_option maxHeartbeats 16000000 in
theorem refNew (w : World) (A : Option Addr) (n cap B : Nat) (T : List Tn) (h : Rd w B 6 A n (T.flatMap tnC)) (hB : B ≤ w.heap.size) (hl : n ≤ 1000) (X : List En) (hX : X.map (·.t) = T) (hz : ∀ x ∈ X, x.bd = ⟨x.t.b, x.t.w, 0, 0⟩ ∧ x.act = 0) :
    Calls Tryd.prog 8 #[.slice A n cap] w fun e w' => e = .returned (.pointer (some ⟨w.heap.size, 0, none⟩)) ∧ (∃ BA bc AA ac, RfM w' w.heap.size n A cap X BA bc AA ac) ∧ Ch [] w w' := by
  have hrE := h.rangeE (fun t _ => tn_len t) (by decide)
  have HRE : Hid (0 < n → ∃ b off, A = some ⟨b, off, none⟩ ∧ b < w.heap.size ∧ ∀ (k : Nat) (x : Tn), T[k]? = some x → w.rangeAt b (off + k * 6) (tnC x)) := fun hn => by
    obtain ⟨b, off, e, hb, hr⟩ := hrE.2 hn
    exact ⟨b, off, e, by omega, hr⟩
  have HN := hid hrE.1
  have HXN : Hid (X.length = n) := by show _ = _; rw [← hrE.1, ← hX, List.length_map]
  have HXT : Hid (∀ (k : Nat) (x : En), X[k]? = some x → T[k]? = some x.t ∧ x.bd = ⟨x.t.b, x.t.w, 0, 0⟩ ∧ x.act = 0) := fun k x hk => ⟨by rw [← hX, List.getElem?_map, hk]; rfl, hz x (List.mem_of_getElem? hk)⟩
  clear h hrE hX hz
  go_enter Tryd.func8, Tryd.ntmps8
  go_upto_region 2 with fail
  have BX : Blk (w.alloc (.cells #[.slice A n cap, .slice none 0 0, .slice none 0 0] 43)) w.heap.size 43 [.slice A n cap, .slice none 0 0, .slice none 0 0] := Blk.new w _ _
  have CX : Ch [] w (w.alloc (.cells #[.slice A n cap, .slice none 0 0, .slice none 0 0] 43)) := (Ch.refl _ _).alloc _
  generalize hw1 : w.alloc (.cells #[.slice A n cap, .slice none 0 0, .slice none 0 0] 43) = w1 at BX CX ⊢
  clear hw1
  obtain ⟨s, hs⟩ : ∃ s, w.heap.size = s := ⟨_, rfl⟩
  have HS := hid hs
  rw [hs] at BX ⊢
  clear hs
  go_wp2_with fail
  go_loopw [4] (fun i wr => ∃ (k : Nat) (BA : Option Addr) (bc : Nat) (AA : Option Addr) (ac : Nat), i = .int .i64 k ∧ k ≤ n ∧ Blk wr s 43 [.slice A n cap, .slice BA k bc, .slice AA k ac] ∧ Own wr (s + 1) 76 4 BA k bc ((X.take k).flatMap fun e => e.bd.cells) ∧ Own wr (s + 1) 3 1 AA k ac ((X.take k).map fun e => .int .i64 e.act) ∧ Hid (∀ b ∈ blkOf BA, b ∉ blkOf AA) ∧ Ch [] w wr) (fun i _ => n - (intOf i).toNat)
  case atStart => exact ⟨0, none, 0, none, 0, rfl, by omega, BX, Own.nil _ _ _ _, Own.nil _ _ _ _, by show ∀ b ∈ [], _; simp, CX⟩
  case round =>
    clear BX CX
    obtain ⟨k, BA, bc, AA, ac, rfl, hk, BX, oB, oA, HBA, CX⟩ := hrel
    by_cases hlt : k < n
    · obtain ⟨x, hx⟩ : ∃ x, X[k]? = some x := ⟨_, List.getElem?_eq_getElem (by rw [HXN.out]; exact hlt)⟩
      obtain ⟨ht, hxb, hxa⟩ := HXT.out k x hx
      obtain ⟨b, off, rfl, hb, hr⟩ := HRE.out (by omega)
      have hrx := range_ch (hr k _ ht) CX hb (by simp)
      have HTX : Hid (X.take (k + 1) = X.take k ++ [x]) := by show _ = _; rw [List.take_add_one, hx]; rfl
      obtain ⟨tb, htb⟩ : ∃ tb, x.t.b = tb := ⟨_, rfl⟩
      obtain ⟨tw, htw⟩ : ∃ tw, x.t.w = tw := ⟨_, rfl⟩
      have HXB : Hid (x.bd.cells = Bud.cells ⟨tb, tw, 0, 0⟩ ∧ x.act = 0) := ⟨by rw [hxb, htb, htw], hxa⟩
      have eb : wr.cell? ⟨b, off + k * 6 + 3, none⟩ = some (.int .i64 tb) := by rw [← htb]; exact hrx 3 _ rfl
      have ew : wr.cell? ⟨b, off + k * 6 + 4, none⟩ = some (.int .u64 tw) := by rw [← htw]; exact hrx 4 _ rfl
      have e1 := BX.cell 1
      have hslt := BX.lt
      have hi0 : (0 : Int) ≤ k := by omega
      have hik : (k : Int) < n := by omega
      clear hx ht hxb hxa hr hrx htb htw hb
      go_upto_region 5 with fail
      refine wp_region_tree [⟨0, 8, 16384⟩, ⟨0, 8, 32768⟩, ⟨2, 32768, 65536⟩, ⟨4, 65536, 131072⟩, ⟨8, 131072, 262144⟩, ⟨0, 1, 524288⟩, ⟨0, 16, 1048576⟩, ⟨96, 1572864, 2097152⟩, ⟨128, 2097152, 4194304⟩, ⟨256, 4194304, 8388608⟩, ⟨0, 1, 16777216⟩, ⟨0, 16, 33554432⟩, ⟨3072, 50331648, 67108864⟩, ⟨4096, 67108864, 134217728⟩, ⟨8192, 134217728, 268435456⟩, ⟨16896, 276824064, 536870912⟩, ⟨32768, 536870912, 1073741824⟩, ⟨65552, 1074003968, 2147483648⟩, ⟨262143, 16384, 4294967296⟩, ⟨524287, 4294967296, 8589934592⟩, ⟨786431, 10737418240, 0⟩] [(16, [0, 1, 2, 3, 4]), (17, [0]), (20, [])] (.one [0, 1, 2, 3, 4, 5, 6, 7, 8, 9, 10, 11, 12, 13, 14, 15] 16 [0, 1, 2, 3, 4] (.one [] 17 [0] (.one [18, 19] 20 [] (.last [])))) (by kernel_rfl) (by kernel_rfl) ?_
      refine wpTree_one ?_
      try simp only [pick, List.map_cons, List.map_nil, List.getD_cons_zero, List.getD_cons_succ]
      repeat (first
        | go_big_quiet_step (fail))
      refine wpQuiet_nil ?_
      intro n0
      try simp only [pick, List.map_cons, List.map_nil, List.getD_cons_zero, List.getD_cons_succ]
      go_wp2_with fail
      have BN : Blk ((wr.drewN n0).alloc (.cells #[.int .i64 tb, .int .u64 tw, .int .u64 0, .int .i64 0] 76)) wr.heap.size 76 (Bud.cells ⟨tb, tw, 0, 0⟩) := Blk.newAt _ _ _ rfl
      have oB1 : Own ((wr.drewN n0).alloc (.cells #[.int .i64 tb, .int .u64 tw, .int .u64 0, .int .i64 0] 76)) (s + 1) 76 4 BA k bc ((X.take k).flatMap fun e => e.bd.cells) := oB.alloc _
      have oA1 : Own ((wr.drewN n0).alloc (.cells #[.int .i64 tb, .int .u64 tw, .int .u64 0, .int .i64 0] 76)) (s + 1) 3 1 AA k ac ((X.take k).map fun e => .int .i64 e.act) := oA.alloc _
      have C1 : Ch [] wr ((wr.drewN n0).alloc (.cells #[.int .i64 tb, .int .u64 tw, .int .u64 0, .int .i64 0] 76)) := ((Ch.refl [] wr).drewN _).alloc _
      have hs1 : ((wr.drewN n0).alloc (.cells #[.int .i64 tb, .int .u64 tw, .int .u64 0, .int .i64 0] 76)).heap.size = wr.heap.size + 1 := by simp
      generalize ((wr.drewN n0).alloc (.cells #[.int .i64 tb, .int .u64 tw, .int .u64 0, .int .i64 0] 76)) = wa at BN oB1 oA1 C1 hs1 ⊢
      clear e1 eb ew
      have BX1 := BX.ch C1 (by simp)
      have e1 := BX1.cell 1
      refine stagePost_mk ?_ ?_
      · intro o ho
        simp only [pick, List.map_cons, List.map_nil, List.getD_cons_zero, List.getD_cons_succ, List.mem_cons, List.not_mem_nil, or_false] at ho
        rcases ho with rfl | rfl | rfl | rfl | rfl
        all_goals
          refine float_any ?_
          repeat (first
            | go_big_quiet_step (fail))
          refine wpQuiet_nil ?_
          rfl
      refine wpTree_one ?_
      try simp only [pick, List.map_nil]
      repeat (first
        | go_big_quiet_step (fail))
      refine wpQuiet_nil ?_
      intro n1
      try simp only [pick, List.map_cons, List.map_nil, List.getD_cons_zero, List.getD_cons_succ]
      have oB2 := oB1.drewN n1
      go_wp2_with (at_builtin; (refine wpList_app _ rfl (.tmp 18) (.tmp 30) _ rfl (s + 1) 76 _ 4 32 Tryd.underlying40 bud_infoZ rfl (by omega) _ _ _ _ rfl oB2 _ _ _ _ (Bud.cells ⟨tb, tw, 0, 0⟩) rfl (Rd.blk (B := wr.heap.size + 1) (n := 1) (BN.drewN n1) rfl (by omega)) (by simp [Bud.cells, Value.oneCell']) (by unfold maxLen; omega) (by omega) (by show s + 1 ≤ wa.heap.size; omega) ?_; intro BA4 bc4 wb oB4 ch4 at4))
      have C2 : Ch (blkOf BA) wr wb := (C1.mono (by simp)).trans (((Ch.refl _ wa).drewN _).trans ch4)
      have hbA := oA1.blks
      have hbB := oB1.blks
      have oA4 := (oA1.drewN n1).ch ch4 (fun b hb h => HBA.out b h hb)
      have BX4 := BX.ch C2 (fun h => by have := (hbB s h).1; omega)
      clear e1
      have f1 := BX4.cell 1
      have g1 := BX4.frozen 1
      refine stagePost_mk ?_ ?_
      · intro o ho
        simp only [pick, List.map_cons, List.map_nil, List.getD_cons_zero, List.mem_cons, List.not_mem_nil, or_false] at ho
        subst ho
        all_goals
          refine float_any ?_
          repeat (first
            | go_big_quiet_step (fail))
          refine wpQuiet_nil ?_
          rfl
      refine wpTree_one ?_
      try simp only [pick, List.map_cons, List.map_nil, List.getD_cons_zero, List.getD_cons_succ]
      repeat (first
        | go_big_quiet_step (fail))
      refine wpQuiet_nil ?_
      intro n2
      try simp only [pick, List.map_cons, List.map_nil, List.getD_cons_zero, List.getD_cons_succ]
      have f1' : (wb.drewN n2).cell? ⟨s, 1, none⟩ = some (.slice BA k bc) := f1
      clear f1
      go_wp2_with fail
      have BX5 : Blk ((wb.drewN n2).setCell ⟨s, 1, none⟩ (.slice BA4 (k + 1) bc4)) s 43 [.slice (some ⟨b, off, none⟩) n cap, .slice BA4 (k + 1) bc4, .slice AA k ac] := BX4.set 1 _
      have C5 : Ch [s] wb ((wb.drewN n2).setCell ⟨s, 1, none⟩ (.slice BA4 (k + 1) bc4)) := ((Ch.refl [s] wb).drewN _).setCell (p := ⟨s, 1, none⟩) (.inl (by simp)) _
      generalize ((wb.drewN n2).setCell ⟨s, 1, none⟩ (.slice BA4 (k + 1) bc4)) = wc at BX5 C5 ⊢
      clear f1' g1 BX4 BX1
      refine stagePost_mk (by simp [pick]) ?_
      refine wpTree_last ?_
      try simp only [pick, List.map_nil]
      repeat (first
        | go_big_quiet_step (fail))
      refine wpQuiet_nil ?_
      intro n3
      have BX6 := BX5.drewN n3
      have C6 : Ch [s] wb (wc.drewN n3) := C5.drewN n3
      have hb4 := oB4.blks
      have oB6 := oB4.ch C6 (fun b hb h => by rw [List.mem_singleton] at h; have := (hb4 b hb).1; omega)
      have oA6 := oA4.ch C6 (fun b hb h => by rw [List.mem_singleton] at h; have := (hbA b hb).1; omega)
      have h0 := BX6.cell 2
      have CX6 : Ch [] w (wc.drewN n3) := (CX.step C2 (fun i hi => .inr (by have := HS.out; have := (hbB i hi).1; omega))).step C6 (fun i hi => .inr (by rw [List.mem_singleton] at hi; have := HS.out; omega))
      have hBA6 : Hid (∀ b ∈ blkOf BA4, b ∉ blkOf AA) := fun b hb h => by
        rcases at4 b hb with h1 | h1
        · exact HBA.out b h1 h
        · have := (hbA b h).2
          have h2 : b = wa.heap.size := h1
          omega
      have hszb : (wc.drewN n3).heap.size ≥ wa.heap.size := by have h1 : wa.heap.size ≤ wb.heap.size := ch4.size; have h2 := C6.size; omega
      clear C2 C5 ch4 at4 oB4 oA4 oB1 oB2 oA1 BN hb4 BX5
      generalize wc.drewN n3 = wd at *
      go_wp2_with (first
        | go_big_skip
        | (at_builtin; (refine wpList_app _ rfl (.tmp 38) (.tmp 39) _ rfl (s + 1) 3 _ 1 8 Tryd.underlying41 int_infoM rfl (by omega) _ _ _ _ rfl (oA6.alloc _) _ _ _ _ [Value.int .i64 0] rfl (Rd.new wd 1 [Value.int .i64 0] 1 rfl 3) (by simp [Value.oneCell']) (by unfold maxLen; omega) (by omega) (by simp only [World.size_alloc]; omega) ?_; intro AA7 ac7 we oA7 ch7 at7; have BX7 := (BX6.alloc _).ch ch7 (fun h => by have := (hbA s h).1; omega); clear h0; have f2 := BX7.cell 2; have g2 := BX7.frozen 2)))
      go_roundw
      case rel =>
        have C8 : Ch [s] we (we.setCell ⟨s, 2, none⟩ (.slice AA7 (k + 1) ac7)) := (Ch.refl [s] we).setCell (p := ⟨s, 2, none⟩) (.inl (by simp)) _
        have hb7 := oA7.blks
        have hb6 := oB6.blks
        have oB8 := ((oB6.alloc _).ch ch7 (fun b hb h => hBA6.out b hb h)).ch C8 (fun b hb h => by rw [List.mem_singleton] at h; have := (hb6 b hb).1; omega)
        refine ⟨k + 1, BA4, bc4, AA7, ac7, by go_num, by omega, BX7.set 2 _, ?_, ?_, ?_, ?_⟩
        · rw [HTX.out, List.flatMap_append]
          simpa [HXB.out.1] using oB8
        · have o9 := oA7.ch C8 (fun b hb h => by rw [List.mem_singleton] at h; have := (hb7 b hb).1; omega)
          rw [HTX.out, List.map_append]
          simpa [HXB.out.2] using o9
        · intro b hb h
          rcases at7 b h with h1 | h1
          · exact hBA6.out b hb h1
          · rw [World.size_alloc] at h1
            have := (hb6 b hb).2
            omega
        · exact ((CX6.alloc _).step ch7 (fun i hi => .inr (by have := HS.out; have := (hbA i hi).1; omega))).step C8 (fun i hi => .inr (by rw [List.mem_singleton] at hi; have := HS.out; omega))
      case measure => simp [intOf]; omega
    · obtain rfl : k = n := by omega
      have hik : ¬ (k : Int) < k := by omega
      have HTA : Hid (X.take k = X) := by show _ = _; exact List.take_of_length_le (by rw [HXN.out]; exact Nat.le_refl _)
      go_wp2_with fail
      go_ret
      rw [HTA.out] at oB oA
      have hs := HS.out
      have hxn := HXN.out
      subst hxn
      refine ⟨?_, ⟨BA, bc, AA, ac, ?_⟩, CX⟩
      · rw [hs]; rfl
      · rw [hs]; exact ⟨BX, oB, oA, HBA.out⟩
end Go.Proofs.YtbmbnibamhgfmaaDoor
