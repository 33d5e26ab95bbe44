/- trie.Trie[int]: appendPrefixes, Prefixes (printed by mk_trie7.py). -/
import Derived.Test.YtjpiekljjhgmoaaDoorTrFnI
import Derived.Test.YtjpiekljjhgmoaaDoorTrO
import Derived.Test.YtjpiekljjhgmoaaDoorMD
import Derived.Deep.DeepCutAuto
import Derived.Deep.CutRange
namespace Go.Proofs.YtjpiekljjhgmoaaDoor
open Go.RowKit

def preN (nd : Tri) : Nat → Key → List ND
  | 0, _ => []
  | f + 1, κ => match nd κ with
    | none => []
    | some d => (if d.pr then [d] else []) ++ (preN nd f (κ ++ [false]) ++ preN nd f (κ ++ [true]))
theorem preN_none {nd : Tri} {f : Nat} {κ : Key} (h : nd κ = none) : preN nd f κ = [] := by
  cases f with
  | zero => rfl
  | succ f => unfold preN; rw [h]
theorem preN_some {nd : Tri} {f : Nat} {κ : Key} {d : ND} (h : nd κ = some d) : preN nd (f + 1) κ = (if d.pr then [d] else []) ++ (preN nd f (κ ++ [false]) ++ preN nd f (κ ++ [true])) := by
  conv => lhs; unfold preN
  rw [h]
theorem preN_mem {nd : Tri} {f : Nat} {κ : Key} {d : ND} (h : d ∈ preN nd f κ) : ∃ κ', nd κ' = some d := by
  induction f generalizing κ with
  | zero => cases h
  | succ f ih =>
    cases hn : nd κ with
    | none => rw [preN_none hn] at h; cases h
    | some d' =>
      rw [preN_some hn, List.mem_append, List.mem_append] at h
      rcases h with h | h | h
      · split at h
        · rw [List.mem_singleton] at h; exact ⟨κ, by rw [hn, h]⟩
        · cases h
      · exact ih h
      · exact ih h
theorem TrW.pre {tn tt : TypeId} {w : World} {g : Nat} {nd : Tri} {m : KM} {n : Int} {F : List Nat} (h : TrW tn tt w g nd m n F) (f : Nat) : ∀ κ, κ ≠ [] → (preN nd f κ).map (fun d => (keyP d.q, d.x)) = preK m f κ := by
  induction f with
  | zero => intro κ _; rfl
  | succ f ih =>
    intro κ hne
    have i0 := ih (κ ++ [false]) (by simp)
    have i1 := ih (κ ++ [true]) (by simp)
    unfold preK
    rw [← i0, ← i1, ← h.val κ]
    cases hn : nd κ with
    | none =>
      rw [preN_none hn, preN_none (h.t.kids hne hn false), preN_none (h.t.kids hne hn true)]
      simp [Tri.val, hn]
    | some d =>
      rw [preN_some hn]
      obtain ⟨b, q, pr, x⟩ := d
      have hk : keyP q = κ := (h.t.good _ _ hn).2
      cases pr <;> simp [Tri.val, hn, hk]
theorem TrI.below {tn tt : TypeId} {w w' : World} {g : Nat} {nd : Tri} {n : Int} {B : Nat} (h : TrI tn tt w g nd n) (hb : Below B w w') (hg : g < B) (hB : ∀ κ d, nd κ = some d → d.b < B) : TrI tn tt w' g nd n :=
  ⟨h.root.below hb hg, fun κ d hd => (h.node κ d hd).below hb (hB κ d hd), h.inj, h.good, h.par⟩
theorem TrI.short {tn tt : TypeId} {w : World} {g : Nat} {nd : Tri} {n : Int} (h : TrI tn tt w g nd n) {κ : Key} {d : ND} (hd : nd κ = some d) : κ.length ≤ 129 := by
  obtain ⟨h1, h2⟩ := h.good κ d hd
  have := (keyP_len h1).2
  rw [h2] at this
  exact this
set_option maxRecDepth 20000 in
set_option maxHeartbeats 8000000 in
theorem trAppI (g : Nat) (nd : Tri) (n : Int) (B : Nat) (hgB : g < B) (hBn : ∀ κ d, nd κ = some d → d.b < B) (f : Nat) : ∀ (κ : Key) (w : World) (A : Option Addr) (ln c : Nat) (cs : List Value), κ ≠ [] → 130 ≤ κ.length + f → TrI 81 76 w g nd n → Own w B 33 18 A ln c cs → B ≤ w.heap.size → ln + (preN nd f κ).length ≤ 1000000 →
    Calls Tryd.prog 49 #[ptrV (nd κ), .slice A ln c] w fun e w' => ∃ A' c', e = .returned (.slice A' (ln + (preN nd f κ).length) c') ∧ Own w' B 33 18 A' (ln + (preN nd f κ).length) c' (cs ++ (preN nd f κ).flatMap fun d => pfxC d.q) ∧ Below B w w' := by
  induction f with
  | zero =>
    intro κ w A ln c cs hne hf hT own hBw hlen
    have hn : nd κ = none := by
      cases hn : nd κ with
      | none => rfl
      | some d => have := hT.short hn; omega
    rw [hn, preN_none hn]
    show Calls Tryd.prog 49 #[.pointer none, .slice A ln c] w _
    simp only [List.length_nil, Nat.add_zero, List.flatMap_nil, List.append_nil]
    go_enter Tryd.func49, Tryd.ntmps49
    go_wp2_with fail
    go_ret
    exact ⟨A, c, rfl, own, Below.refl _ _⟩
  | succ f ih =>
    intro κ w A ln c cs hne hf hT own hBw hlen
    cases hn : nd κ with
    | none =>
      rw [preN_none hn]
      show Calls Tryd.prog 49 #[.pointer none, .slice A ln c] w _
      simp only [List.length_nil, Nat.add_zero, List.flatMap_nil, List.append_nil]
      go_enter Tryd.func49, Tryd.ntmps49
      go_wp2_with fail
      go_ret
      exact ⟨A, c, rfl, own, Below.refl _ _⟩
    | some d =>
      have i0 := ih (κ ++ [false])
      have i1 := ih (κ ++ [true])
      have HBW := hid hBw
      rw [preN_some hn] at hlen ⊢
      show Calls Tryd.prog 49 #[.pointer (some ⟨d.b, 0, none⟩), .slice A ln c] w _
      have e18 : w.cell? ⟨d.b, 18, none⟩ = some (.bool d.pr) := ((hT.node _ _ hn).cell 18).trans (nodeC_at (hT.l16 hn) _ _ 0)
      generalize preN nd f (κ ++ [false]) = L0 at i0 hlen ⊢
      generalize preN nd f (κ ++ [true]) = L1 at i1 hlen ⊢
      have HI0 := hid (fun w A ln c cs => i0 w A ln c cs (by simp) (by simp; omega))
      have HI1 := hid (fun w A ln c cs => i1 w A ln c cs (by simp) (by simp; omega))
      clear ih i0 i1
      cases hpr : d.pr with
      | false =>
        rw [hpr] at hlen e18
        simp only [Bool.false_eq_true, if_false, List.nil_append, List.length_append] at hlen ⊢
        obtain ⟨tot, htot⟩ : ∃ tot, ln + (L0.length + L1.length) = tot := ⟨_, rfl⟩
        obtain ⟨CS, hCS⟩ : ∃ CS, (cs ++ (L0 ++ L1).flatMap fun d => pfxC d.q) = CS := ⟨_, rfl⟩
        rw [htot, hCS]
        have HLN : Hid (tot = ln + L0.length + L1.length) := by show _ = _; omega
        have HLF : Hid ((cs ++ L0.flatMap fun d => pfxC d.q) ++ (L1.flatMap fun d => pfxC d.q) = CS) := by show _ = _; rw [← hCS, List.flatMap_append, List.append_assoc]
        have HL0 : Hid (ln + L0.length ≤ 1000000) := by show _ ≤ _; omega
        have HL1 : Hid (ln + L0.length + L1.length ≤ 1000000) := by show _ ≤ _; omega
        clear hlen htot hCS
        go_enter Tryd.func49, Tryd.ntmps49
        go_upto_region 5 with fail
        have e20 : w.cell? ⟨d.b, 20, none⟩ = some (ptrV (nd (κ ++ [false]))) := ((hT.node _ _ hn).cell 20).trans (nodeC_at (hT.l16 hn) _ _ 2)
        have e21 : w.cell? ⟨d.b, 21, none⟩ = some (ptrV (nd (κ ++ [true]))) := ((hT.node _ _ hn).cell 21).trans (nodeC_at (hT.l16 hn) _ _ 3)
        refine wp_region_stagesM [⟨0, 1, 524288⟩, ⟨1, 524288, 1048576⟩, ⟨2, 1048576, 2097152⟩, ⟨4, 2097152, 4194304⟩, ⟨8, 4194304, 8388608⟩, ⟨0, 1, 16777216⟩, ⟨32, 16777216, 33554432⟩, ⟨64, 33554432, 67108864⟩, ⟨128, 67108864, 134217728⟩, ⟨256, 134217728, 268435456⟩, ⟨0, 2, 536870912⟩, ⟨1536, 805306368, 1073741824⟩, ⟨2064, 1082130432, 2147483648⟩, ⟨8191, 2147483648, 16⟩] [([0, 1, 2, 3, 4, 5, 6, 7, 8, 9, 10], 11, [0, 1, 2, 3, 4]), ([], 12, [])] [13] (by kernel_rfl) (by kernel_rfl) ?_
        refine wpStages_step ?_
        try simp only [pick, List.map_cons, List.map_nil, List.getD_cons_zero, List.getD_cons_succ]
        repeat (go_big_quiet_step (fail))
        refine wpQuiet_nil ?_
        intro n0
        try simp only [pick, List.map_cons, List.map_nil, List.getD_cons_zero, List.getD_cons_succ]
        have TX0 := hT.nil ((Ch.refl [] w).drewN n0)
        have OX0 := own.drewN n0
        have BX0 := Below.drewN ((Below.refl B w)) n0
        go_wp2_with (go_at_call 49; (with_reducible refine (HI0.out _ A ln c cs TX0 OX0 (Nat.le_trans HBW.out BX0.size) HL0.out).mono ?_); rintro e w5 ⟨A5, c5, rfl, O5, B5⟩)
        have BX5 := BX0.trans B5
        have TX5 := TrI.below TX0 B5 hgB hBn
        clear e20 e21
        have e20 : w5.cell? ⟨d.b, 20, none⟩ = some (ptrV (nd (κ ++ [false]))) := ((TX5.node _ _ hn).cell 20).trans (nodeC_at (TX5.l16 hn) _ _ 2)
        have e21 : w5.cell? ⟨d.b, 21, none⟩ = some (ptrV (nd (κ ++ [true]))) := ((TX5.node _ _ hn).cell 21).trans (nodeC_at (TX5.l16 hn) _ _ 3)
        refine stagePost_mk ?_ ?_
        · intro o ho
          simp only [pick, List.map_cons, List.map_nil, List.getD_cons_zero, List.getD_cons_succ, List.mem_cons, List.not_mem_nil, or_false] at ho
          rcases ho with rfl | rfl | rfl | rfl | rfl
          all_goals
            refine float_any ?_
            repeat (go_big_quiet_step (fail))
            refine wpQuiet_nil ?_
            rfl
        refine wpStages_step ?_
        try simp only [pick, List.map_nil]
        repeat (go_big_quiet_step (fail))
        refine wpQuiet_nil ?_
        intro n1
        try simp only [pick, List.map_cons, List.map_nil, List.getD_cons_zero, List.getD_cons_succ]
        have TX6 := TX5.nil ((Ch.refl [] w5).drewN n1)
        have O6 := O5.drewN n1
        have BX6 := Below.drewN BX5 n1
        go_wp2_with (go_at_call 49; (with_reducible refine (HI1.out _ A5 _ c5 _ TX6 O6 (Nat.le_trans HBW.out BX6.size) HL1.out).mono ?_); rintro e w7 ⟨A7, c7, rfl, O7, B7⟩)
        have BX7 := BX6.trans B7
        refine stagePost_mk (by simp [pick]) ?_
        refine wpStages_last ?_
        try simp only [pick, List.map_cons, List.map_nil, List.getD_cons_zero, List.getD_cons_succ]
        repeat (go_big_quiet_step (fail))
        refine wpQuiet_nil ?_
        intro n2
        go_wp2_with fail
        go_ret
        exact ⟨A7, c7, by (rw [HLN.out]) <;> rfl, by have := O7.drewN n2; rw [HLN.out]; rw [HLF.out] at this; exact this, Below.drewN BX7 n2⟩

      | true =>
        rw [hpr] at hlen e18
        simp only [if_true, List.length_append, List.length_singleton] at hlen ⊢
        obtain ⟨tot, htot⟩ : ∃ tot, ln + (1 + (L0.length + L1.length)) = tot := ⟨_, rfl⟩
        obtain ⟨CS, hCS⟩ : ∃ CS, (cs ++ ([d] ++ (L0 ++ L1)).flatMap fun d => pfxC d.q) = CS := ⟨_, rfl⟩
        rw [htot, hCS]
        have HLN : Hid (tot = ln + 1 + L0.length + L1.length) := by show _ = _; omega
        have HLF : Hid (((cs ++ pfxC d.q) ++ L0.flatMap fun d => pfxC d.q) ++ (L1.flatMap fun d => pfxC d.q) = CS) := by show _ = _; rw [← hCS]; simp
        have HL0 : Hid (ln + 1 + L0.length ≤ 1000000) := by show _ ≤ _; omega
        have HL1 : Hid (ln + 1 + L0.length + L1.length ≤ 1000000) := by show _ ≤ _; omega
        have hln : ln ≤ 1000000 := by omega
        clear hlen htot hCS
        have BN := hT.node κ d hn
        have h16 := hT.l16 hn
        obtain ⟨bd, ⟨qs, qb, qn⟩, pr, x⟩ := d
        simp only at hpr h16
        subst hpr
        obtain ⟨y0, y1, y2, y3, y4, y5, y6, y7, y8, y9, y10, y11, y12, y13, y14, y15, rfl⟩ := len16 h16
        have HRN : Hid (w.rangeAt bd 0 [.bool qs, .int .u8 y0, .int .u8 y1, .int .u8 y2, .int .u8 y3, .int .u8 y4, .int .u8 y5, .int .u8 y6, .int .u8 y7, .int .u8 y8, .int .u8 y9, .int .u8 y10, .int .u8 y11, .int .u8 y12, .int .u8 y13, .int .u8 y14, .int .u8 y15, .int .i64 qn]) := BN.rangeMid 0 _ (nodeC_pfx (d := ⟨bd, (qs, [y0, y1, y2, y3, y4, y5, y6, y7, y8, y9, y10, y11, y12, y13, y14, y15], qn), true, x⟩) _ _)
        have HIP : Hid ((Tryd.prog.info? 33).map (·.size) = some (List.length ([.bool qs, .int .u8 y0, .int .u8 y1, .int .u8 y2, .int .u8 y3, .int .u8 y4, .int .u8 y5, .int .u8 y6, .int .u8 y7, .int .u8 y8, .int .u8 y9, .int .u8 y10, .int .u8 y11, .int .u8 y12, .int .u8 y13, .int .u8 y14, .int .u8 y15, .int .i64 qn] : List Value))) := pfx_inf (p := (qs, [y0, y1, y2, y3, y4, y5, y6, y7, y8, y9, y10, y11, y12, y13, y14, y15], qn)) rfl
        simp only at e18
        clear BN h16
        go_enter Tryd.func49, Tryd.ntmps49
        go_upto_region 5 with (first
          | (at_builtin; (refine wpList_app _ rfl (.tmp 12) (.tmp 17) _ rfl B 33 _ 18 32 Tryd.underlying41 pfx_infoZ rfl (by omega) _ _ _ _ rfl (own.alloc _) _ _ _ _ (pfxC (qs, [y0, y1, y2, y3, y4, y5, y6, y7, y8, y9, y10, y11, y12, y13, y14, y15], qn)) rfl (Rd.new w 18 (pfxC (qs, [y0, y1, y2, y3, y4, y5, y6, y7, y8, y9, y10, y11, y12, y13, y14, y15], qn)) 1 rfl _) (List.all_eq_true.1 (pfx_one _)) (by unfold maxLen; omega) (by omega) (by simp only [World.size_alloc]; have := HBW.out; omega) ?_; intro A4 c4 w4 own4 ch4 at4))
          | (refine wpList_buildRows rfl 41 33 1 _ rfl [.bool qs, .int .u8 y0, .int .u8 y1, .int .u8 y2, .int .u8 y3, .int .u8 y4, .int .u8 y5, .int .u8 y6, .int .u8 y7, .int .u8 y8, .int .u8 y9, .int .u8 y10, .int .u8 y11, .int .u8 y12, .int .u8 y13, .int .u8 y14, .int .u8 y15, .int .i64 qn] _ 18 _ Tryd.underlying41 pfx_infoZ (by decide) (by decide) (by kernel_rfl) ?_)
          | (refine wpList_load_want rfl 33 _ rfl bd 0 rfl [.bool qs, .int .u8 y0, .int .u8 y1, .int .u8 y2, .int .u8 y3, .int .u8 y4, .int .u8 y5, .int .u8 y6, .int .u8 y7, .int .u8 y8, .int .u8 y9, .int .u8 y10, .int .u8 y11, .int .u8 y12, .int .u8 y13, .int .u8 y14, .int .u8 y15, .int .i64 qn] _ HRN.out Tryd.underlying33 rfl HIP.out ?_))
        have B4 : Below B w w4 := (((Ch.refl (blkOf A) w).alloc _).trans ch4).below (fun k hk => (own.blks k hk).1) HBW.out
        have T4 := TrI.below hT B4 hgB hBn
        clear e18 HRN at4 ch4
        have e20 : w4.cell? ⟨bd, 20, none⟩ = some (ptrV (nd (κ ++ [false]))) := ((T4.node _ _ hn).cell 20).trans (nodeC_at (T4.l16 hn) _ _ 2)
        have e21 : w4.cell? ⟨bd, 21, none⟩ = some (ptrV (nd (κ ++ [true]))) := ((T4.node _ _ hn).cell 21).trans (nodeC_at (T4.l16 hn) _ _ 3)
        refine wp_region_stagesM [⟨0, 1, 524288⟩, ⟨1, 524288, 1048576⟩, ⟨2, 1048576, 2097152⟩, ⟨4, 2097152, 4194304⟩, ⟨8, 4194304, 8388608⟩, ⟨0, 1, 16777216⟩, ⟨32, 16777216, 33554432⟩, ⟨64, 33554432, 67108864⟩, ⟨128, 67108864, 134217728⟩, ⟨256, 134217728, 268435456⟩, ⟨0, 2, 536870912⟩, ⟨1536, 805306368, 1073741824⟩, ⟨2064, 1082130432, 2147483648⟩, ⟨8191, 2147483648, 16⟩] [([0, 1, 2, 3, 4, 5, 6, 7, 8, 9, 10], 11, [0, 1, 2, 3, 4]), ([], 12, [])] [13] (by kernel_rfl) (by kernel_rfl) ?_
        refine wpStages_step ?_
        try simp only [pick, List.map_cons, List.map_nil, List.getD_cons_zero, List.getD_cons_succ]
        repeat (go_big_quiet_step (fail))
        refine wpQuiet_nil ?_
        intro n0
        try simp only [pick, List.map_cons, List.map_nil, List.getD_cons_zero, List.getD_cons_succ]
        have TX0 := T4.nil ((Ch.refl [] w4).drewN n0)
        have OX0 := own4.drewN n0
        have BX0 := Below.drewN (B4) n0
        go_wp2_with (go_at_call 49; (with_reducible refine (HI0.out _ A4 (ln + 1) c4 _ TX0 OX0 (Nat.le_trans HBW.out BX0.size) HL0.out).mono ?_); rintro e w5 ⟨A5, c5, rfl, O5, B5⟩)
        have BX5 := BX0.trans B5
        have TX5 := TrI.below TX0 B5 hgB hBn
        clear e20 e21
        have e20 : w5.cell? ⟨bd, 20, none⟩ = some (ptrV (nd (κ ++ [false]))) := ((TX5.node _ _ hn).cell 20).trans (nodeC_at (TX5.l16 hn) _ _ 2)
        have e21 : w5.cell? ⟨bd, 21, none⟩ = some (ptrV (nd (κ ++ [true]))) := ((TX5.node _ _ hn).cell 21).trans (nodeC_at (TX5.l16 hn) _ _ 3)
        refine stagePost_mk ?_ ?_
        · intro o ho
          simp only [pick, List.map_cons, List.map_nil, List.getD_cons_zero, List.getD_cons_succ, List.mem_cons, List.not_mem_nil, or_false] at ho
          rcases ho with rfl | rfl | rfl | rfl | rfl
          all_goals
            refine float_any ?_
            repeat (go_big_quiet_step (fail))
            refine wpQuiet_nil ?_
            rfl
        refine wpStages_step ?_
        try simp only [pick, List.map_nil]
        repeat (go_big_quiet_step (fail))
        refine wpQuiet_nil ?_
        intro n1
        try simp only [pick, List.map_cons, List.map_nil, List.getD_cons_zero, List.getD_cons_succ]
        have TX6 := TX5.nil ((Ch.refl [] w5).drewN n1)
        have O6 := O5.drewN n1
        have BX6 := Below.drewN BX5 n1
        go_wp2_with (go_at_call 49; (with_reducible refine (HI1.out _ A5 _ c5 _ TX6 O6 (Nat.le_trans HBW.out BX6.size) HL1.out).mono ?_); rintro e w7 ⟨A7, c7, rfl, O7, B7⟩)
        have BX7 := BX6.trans B7
        refine stagePost_mk (by simp [pick]) ?_
        refine wpStages_last ?_
        try simp only [pick, List.map_cons, List.map_nil, List.getD_cons_zero, List.getD_cons_succ]
        repeat (go_big_quiet_step (fail))
        refine wpQuiet_nil ?_
        intro n2
        go_wp2_with fail
        go_ret
        exact ⟨A7, c7, by (rw [HLN.out]) <;> rfl, by have := O7.drewN n2; rw [HLN.out]; rw [HLF.out] at this; exact this, Below.drewN BX7 n2⟩

set_option maxRecDepth 20000 in
set_option maxHeartbeats 8000000 in
theorem trPreI (w : World) (g : Nat) (nd : Tri) (n : Int) (hT : TrI 81 76 w g nd n) (hlen : (preN nd 129 [false] ++ preN nd 129 [true]).length ≤ 1000000) :
    Calls Tryd.prog 18 #[.pointer (some ⟨g, 0, none⟩)] w fun e w' => ∃ A' c', e = .returned (.slice A' (preN nd 129 [false] ++ preN nd 129 [true]).length c') ∧ Own w' w.heap.size 33 18 A' (preN nd 129 [false] ++ preN nd 129 [true]).length c' ((preN nd 129 [false] ++ preN nd 129 [true]).flatMap fun d => pfxC d.q) ∧ Below w.heap.size w w' := by
  have hgB := hT.root.lt
  have hBn : ∀ κ d, nd κ = some d → d.b < w.heap.size := fun κ d h => (hT.node κ d h).lt
  have i0 := fun w' A ln c cs h1 h2 h3 h4 => trAppI g nd n w.heap.size hgB hBn 129 [false] w' A ln c cs (by simp) (by simp) h1 h2 h3 h4
  have i1 := fun w' A ln c cs h1 h2 h3 h4 => trAppI g nd n w.heap.size hgB hBn 129 [true] w' A ln c cs (by simp) (by simp) h1 h2 h3 h4
  have HRT : Hid (∀ w', Below w.heap.size w w' → w'.cell? ⟨g, 0, none⟩ = some (ptrV (nd [false])) ∧ w'.cell? ⟨g, 1, none⟩ = some (ptrV (nd [true])) ∧ TrI 81 76 w' g nd n) := fun w' b => ⟨(hT.root.below b hgB).cell 0, (hT.root.below b hgB).cell 1, hT.below b hgB hBn⟩
  rw [List.length_append] at hlen
  generalize preN nd 129 [false] = L0 at *
  generalize preN nd 129 [true] = L1 at *
  obtain ⟨tot, htot⟩ : ∃ tot, (L0 ++ L1).length = tot := ⟨_, rfl⟩
  obtain ⟨CS, hCS⟩ : ∃ CS, ((L0 ++ L1).flatMap fun d => pfxC d.q) = CS := ⟨_, rfl⟩
  rw [htot, hCS]
  have HLN : Hid (tot = L0.length + L1.length) := by show _ = _; rw [← htot, List.length_append]
  have HLF : Hid (([] ++ L0.flatMap fun d => pfxC d.q) ++ (L1.flatMap fun d => pfxC d.q) = CS) := by show _ = _; rw [← hCS, List.flatMap_append]; simp
  have HL0 : Hid (0 + L0.length ≤ 1000000) := by show _ ≤ _; omega
  have HL1 : Hid (L0.length + L1.length ≤ 1000000) := by show _ ≤ _; omega
  have HI0 := hid i0
  have HI1 := hid i1
  clear hlen htot hCS i0 i1 hBn
  obtain ⟨e0, e1, T0⟩ := HRT.out w (Below.refl _ _)
  go_enter Tryd.func18, Tryd.ntmps18
  go_upto_region 1 with fail
  refine wp_region_stagesM [⟨0, 1, 8⟩, ⟨1, 8, 16⟩, ⟨2, 16, 32⟩, ⟨4, 32, 64⟩, ⟨8, 64, 128⟩, ⟨0, 1, 256⟩, ⟨32, 256, 512⟩, ⟨64, 512, 1024⟩, ⟨128, 1024, 2048⟩, ⟨256, 2048, 4096⟩, ⟨512, 4096, 8192⟩, ⟨1040, 8320, 16384⟩, ⟨4095, 16384, 4⟩] [([0, 1, 2, 3, 4, 5, 6, 7, 8, 9], 10, [0, 1, 2, 3, 4]), ([], 11, [])] [12] (by kernel_rfl) (by kernel_rfl) ?_
  refine wpStages_step ?_
  try simp only [pick, List.map_cons, List.map_nil, List.getD_cons_zero, List.getD_cons_succ]
  repeat (go_big_quiet_step (fail))
  refine wpQuiet_nil ?_
  intro n0
  try simp only [pick, List.map_cons, List.map_nil, List.getD_cons_zero, List.getD_cons_succ]
  have BX0 := Below.drewN (Below.refl w.heap.size w) n0
  obtain ⟨_, _, TX0⟩ := HRT.out _ BX0
  go_wp2_with (go_at_call 49; (with_reducible refine (HI0.out _ none 0 0 [] TX0 (Own.nil _ _ _ _) BX0.size HL0.out).mono ?_); rintro e w5 ⟨A5, c5, rfl, O5, B5⟩)
  rw [Nat.zero_add] at O5
  have BX5 := BX0.trans B5
  clear e0 e1
  obtain ⟨e0, e1, TX5⟩ := HRT.out _ BX5
  refine stagePost_mk ?_ ?_
  · intro o ho
    simp only [pick, List.map_cons, List.map_nil, List.getD_cons_zero, List.getD_cons_succ, List.mem_cons, List.not_mem_nil, or_false] at ho
    rcases ho with rfl | rfl | rfl | rfl | rfl
    all_goals
      refine float_any ?_
      repeat (go_big_quiet_step (fail))
      refine wpQuiet_nil ?_
      rfl
  refine wpStages_step ?_
  try simp only [pick, List.map_nil]
  repeat (go_big_quiet_step (fail))
  refine wpQuiet_nil ?_
  intro n1
  try simp only [pick, List.map_cons, List.map_nil, List.getD_cons_zero, List.getD_cons_succ]
  have TX6 := TX5.nil ((Ch.refl [] w5).drewN n1)
  have O6 := O5.drewN n1
  have BX6 := Below.drewN BX5 n1
  go_wp2_with (go_at_call 49; (with_reducible refine (HI1.out _ A5 _ c5 _ TX6 O6 BX6.size HL1.out).mono ?_); rintro e w7 ⟨A7, c7, rfl, O7, B7⟩)
  have BX7 := BX6.trans B7
  refine stagePost_mk (by simp [pick]) ?_
  refine wpStages_last ?_
  try simp only [pick, List.map_cons, List.map_nil, List.getD_cons_zero, List.getD_cons_succ]
  repeat (go_big_quiet_step (fail))
  refine wpQuiet_nil ?_
  intro n2
  go_wp2_with fail
  go_ret
  exact ⟨A7, c7, by (rw [HLN.out]) <;> rfl, by have := O7.drewN n2; rw [HLN.out]; rw [HLF.out] at this; exact this, Below.drewN BX7 n2⟩
/-- Prefixes by the map and its ordered entries. -/
theorem trPreFI {w : World} {g : Nat} {m : KM} {n : Int} {F : List Nat} (h : TrMI w g m n F) {x : List (Pfx × Value)} (hx : Ents m x) (hl : x.length ≤ 1000000) :
    Calls Tryd.prog 18 #[.pointer (some ⟨g, 0, none⟩)] w fun e w' => ∃ A' c', e = .returned (.slice A' x.length c') ∧ Own w' w.heap.size 33 18 A' x.length c' (x.flatMap fun e => pfxC e.1) ∧ Ch [] w w' := by
  obtain ⟨nd, W⟩ := h
  have hk : (preN nd 129 [false] ++ preN nd 129 [true]).map (·.q) = x.map (·.1) := by
    refine hx.keys (fun p hp => ?_) ?_
    · obtain ⟨d, hd, rfl⟩ := List.mem_map.1 hp
      rcases List.mem_append.1 hd with h | h
      · obtain ⟨κ, hκ⟩ := preN_mem h
        exact (W.t.good κ d hκ).1
      · obtain ⟨κ, hκ⟩ := preN_mem h
        exact (W.t.good κ d hκ).1
    · unfold keysOf
      rw [← W.pre 129 [false] (by simp), ← W.pre 129 [true] (by simp)]
      simp only [List.map_append, List.map_map]
      rfl
  have hlen : (preN nd 129 [false] ++ preN nd 129 [true]).length = x.length := by
    have := congrArg List.length hk
    simpa using this
  have hfl : ((preN nd 129 [false] ++ preN nd 129 [true]).flatMap fun d => pfxC d.q) = x.flatMap fun e => pfxC e.1 := by
    have := congrArg (fun l => l.flatMap pfxC) hk
    simpa [List.flatMap_map] using this
  have := trPreI w g nd n W.t (by rw [hlen]; exact hl)
  rw [hlen, hfl] at this
  exact this.mono fun e w' ⟨A, c, h1, h2, h3⟩ => ⟨A, c, h1, h2, Ch.of_below h3 []⟩
end Go.Proofs.YtjpiekljjhgmoaaDoor
