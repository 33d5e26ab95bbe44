/- tenant.Valid; ginnelref13.ValidTenant, CheckTenants (printed by mk_tenv.py). -/
import Derived.Test.YtbmbnibamhgfmaaDoorTenP
import Derived.Test.YtbmbnibamhgfmaaDoorTenR
import Derived.Test.YtbmbnibamhgfmaaDoorAclU
namespace Go.Proofs.YtbmbnibamhgfmaaDoor
open Go.RowKit

theorem colon_yes {s : ByteArray} {k : Nat} (hk : k < s.size) (hb : byt s k = 58) : colon s = true := by
  have hk' : k < s.data.size := hk
  have hx : s.data.toList[k]? = some 58 := by
    rw [Array.getElem?_toList, Array.getElem?_eq_getElem hk']
    unfold byt at hb
    rw [Array.getElem?_eq_getElem hk'] at hb
    congr 1
    apply UInt8.toNat_inj.1
    simp only [Option.getD_some] at hb
    have : (58 : UInt8).toNat = 58 := rfl
    omega
  unfold colon
  have h1 := Lib.indexByte_ge s.data.toList 58
  rcases Int.lt_or_le (Lib.indexByte s.data.toList 58) 0 with h | h
  · exact absurd hx (Lib.indexByte_none (by omega) k)
  · simpa using h
theorem colon_no {s : ByteArray} (h : ∀ j, j < s.size → byt s j ≠ 58) : colon s = false := by
  unfold colon
  rcases Int.lt_or_le (Lib.indexByte s.data.toList 58) 0 with h1 | h1
  · simpa using h1
  · exfalso
    obtain ⟨o, ho⟩ := Int.eq_ofNat_of_zero_le h1
    obtain ⟨hx, _⟩ := Lib.indexByte_some ho
    have hlt : o < s.data.size := by
      have := (List.getElem?_eq_some_iff.1 hx).1
      simpa using this
    refine h o hlt ?_
    unfold byt
    rw [Array.getElem?_toList] at hx
    rw [hx]; rfl
set_option maxRecDepth 100000 in
set_option maxHeartbeats 16000000 in
theorem refTenValid (w : World) (t : Tn) (B : Nat) (hg : GoodTn t) (hu : t.u.size ≤ 140737488351232) (hp : t.p.size ≤ 140737488351232) (hr : Rd w B 22 t.A t.L.length (t.L.flatMap rulC)) (hB : B ≤ w.heap.size) :
    Calls Tryd.prog 21 #[.agg (tnC t).toArray] w fun e w' => e = .returned (.bool (validT t)) ∧ Ch [] w w' := by
  have HVR : Hid (∀ w', Ch [] w w' → Calls Tryd.prog 28 #[.slice t.A t.L.length t.c] w' fun e w'' => e = .returned (.bool (decide (t.L.length ≤ 32) && t.L.all validR)) ∧ Ch [] w' w'') := fun w' c => refRules w' t.A t.L.length t.c B t.L (hr.ch c hB (by simp)) (Nat.le_trans hB c.size) hg.n hg.L
  have HVB := hid (fun w => rudValid t.b t.w w)
  obtain ⟨vt, hvt⟩ : ∃ vt, validT t = vt := ⟨_, rfl⟩
  rw [hvt]
  have hvt2 : (credOk t.u && credOk t.p && (decide (t.L.length ≤ 32) && t.L.all validR) && validBud t.b t.w && decide (1 ≤ t.m) && decide (t.m ≤ 64) && !colon t.u) = vt := by
    rw [← hvt]
    unfold validT validBud
    generalize credOk t.u = a1
    generalize credOk t.p = a2
    generalize decide (t.L.length ≤ 32) = a3
    generalize t.L.all validR = a4
    generalize decide (0 ≤ t.b) = a5
    generalize decide (t.b ≤ 1000) = a6
    generalize decide (1 ≤ t.w) = a7
    generalize decide (t.w ≤ 1099511627776) = a8
    generalize decide (1 ≤ t.m) = a9
    generalize decide (t.m ≤ 64) = a10
    generalize colon t.u = a11
    cases a1 <;> cases a2 <;> cases a3 <;> cases a4 <;> simp <;> cases a5 <;> cases a6 <;> cases a7 <;> cases a8 <;> cases a9 <;> cases a10 <;> cases a11 <;> rfl
  clear hvt hg hr
  obtain ⟨tu, tp, tA, tc, tL, tb, tw, tm⟩ := t
  simp only at HVR HVB hvt2 hu hp
  generalize (decide (tL.length ≤ 32) && tL.all validR) = vr at HVR hvt2
  generalize validBud tb tw = vb at HVB hvt2
  have HF : Hid ((tu.size < 1 ∨ 255 < tu.size ∨ tp.size < 1 ∨ 255 < tp.size ∨ vr = false ∨ vb = false ∨ tm < 1 ∨ tm > 64) → vt = false) := fun h => by
    rw [← hvt2]
    unfold credOk
    rcases h with h | h | h | h | h | h | h | h
    · rw [decide_eq_false (by omega : ¬ 1 ≤ tu.size)]; simp
    · rw [decide_eq_false (by omega : ¬ tu.size ≤ 255)]; simp
    · rw [decide_eq_false (by omega : ¬ 1 ≤ tp.size)]; simp
    · rw [decide_eq_false (by omega : ¬ tp.size ≤ 255)]; simp
    · rw [h]; simp
    · rw [h]; simp
    · rw [decide_eq_false (by omega : ¬ 1 ≤ tm)]; simp
    · rw [decide_eq_false (by omega : ¬ tm ≤ 64)]; simp
  obtain ⟨r, hr⟩ : ∃ r, colon tu = r := ⟨_, rfl⟩
  have HT : Hid ((credOk tu && credOk tp && vr && vb && decide (1 ≤ tm) && decide (tm ≤ 64)) = true → vt = !r) := fun h => by
    rw [← hvt2, h, hr]; rfl
  have HR := hid hr
  clear hvt2 hr
  have B0 : Blk (w.alloc (.cells #[.string tu, .string tp, .slice tA tL.length tc, .int .i64 tb, .int .u64 tw, .int .i64 tm] 47)) w.heap.size 47 [.string tu, .string tp, .slice tA tL.length tc, .int .i64 tb, .int .u64 tw, .int .i64 tm] := Blk.new w _ _
  have C0 : Ch [] w (w.alloc (.cells #[.string tu, .string tp, .slice tA tL.length tc, .int .i64 tb, .int .u64 tw, .int .i64 tm] 47)) := (Ch.refl _ _).alloc _
  show Calls Tryd.prog 21 #[.agg #[.string tu, .string tp, .slice tA tL.length tc, .int .i64 tb, .int .u64 tw, .int .i64 tm]] w _
  have e0 := B0.cell 0
  have e1 := B0.cell 1
  have e2 := B0.cell 2
  by_cases h0 : tu.size < 1
  · have i0 : (tu.size : Int) < 1 := by omega
    go_enter Tryd.func21, Tryd.ntmps21
    go_wp2_with (first
      | go_big_skip
      | (go_at_call 28; (with_reducible refine (HVR.out _ C0).mono ?_); rintro e w2 ⟨rfl, C2⟩; have B2 := B0.ch C2 (by simp); replace C0 := C0.trans C2; clear C2 e0 e1 e2; have e3 := B2.cell 3; have e4 := B2.cell 4; have e5 := B2.cell 5; have e0 := B2.cell 0)
      | (go_at_call 35; (with_reducible refine (HVB.out _).mono ?_); rintro e w3 ⟨rfl, rfl⟩))
    go_ret
    exact ⟨ret_bool (HF.out (.inl h0)).symm, C0⟩
  · have i0 : ¬ (tu.size : Int) < 1 := by omega
    by_cases h1 : 255 < tu.size
    · have i1 : (tu.size : Int) > 255 := by omega
      go_enter Tryd.func21, Tryd.ntmps21
      go_wp2_with (first
        | go_big_skip
        | (go_at_call 28; (with_reducible refine (HVR.out _ C0).mono ?_); rintro e w2 ⟨rfl, C2⟩; have B2 := B0.ch C2 (by simp); replace C0 := C0.trans C2; clear C2 e0 e1 e2; have e3 := B2.cell 3; have e4 := B2.cell 4; have e5 := B2.cell 5; have e0 := B2.cell 0)
        | (go_at_call 35; (with_reducible refine (HVB.out _).mono ?_); rintro e w3 ⟨rfl, rfl⟩))
      go_ret
      exact ⟨ret_bool (HF.out (.inr (.inl h1))).symm, C0⟩
    · have i1 : ¬ (tu.size : Int) > 255 := by omega
      by_cases h2 : tp.size < 1
      · have i2 : (tp.size : Int) < 1 := by omega
        go_enter Tryd.func21, Tryd.ntmps21
        go_wp2_with (first
          | go_big_skip
          | (go_at_call 28; (with_reducible refine (HVR.out _ C0).mono ?_); rintro e w2 ⟨rfl, C2⟩; have B2 := B0.ch C2 (by simp); replace C0 := C0.trans C2; clear C2 e0 e1 e2; have e3 := B2.cell 3; have e4 := B2.cell 4; have e5 := B2.cell 5; have e0 := B2.cell 0)
          | (go_at_call 35; (with_reducible refine (HVB.out _).mono ?_); rintro e w3 ⟨rfl, rfl⟩))
        go_ret
        exact ⟨ret_bool (HF.out (.inr (.inr (.inl h2)))).symm, C0⟩
      · have i2 : ¬ (tp.size : Int) < 1 := by omega
        by_cases h3 : 255 < tp.size
        · have i3 : (tp.size : Int) > 255 := by omega
          go_enter Tryd.func21, Tryd.ntmps21
          go_wp2_with (first
            | go_big_skip
            | (go_at_call 28; (with_reducible refine (HVR.out _ C0).mono ?_); rintro e w2 ⟨rfl, C2⟩; have B2 := B0.ch C2 (by simp); replace C0 := C0.trans C2; clear C2 e0 e1 e2; have e3 := B2.cell 3; have e4 := B2.cell 4; have e5 := B2.cell 5; have e0 := B2.cell 0)
            | (go_at_call 35; (with_reducible refine (HVB.out _).mono ?_); rintro e w3 ⟨rfl, rfl⟩))
          go_ret
          exact ⟨ret_bool (HF.out (.inr (.inr (.inr (.inl h3))))).symm, C0⟩
        · have i3 : ¬ (tp.size : Int) > 255 := by omega
          by_cases h4 : vr = false
          · subst h4
            go_enter Tryd.func21, Tryd.ntmps21
            go_wp2_with (first
              | go_big_skip
              | (go_at_call 28; (with_reducible refine (HVR.out _ C0).mono ?_); rintro e w2 ⟨rfl, C2⟩; have B2 := B0.ch C2 (by simp); replace C0 := C0.trans C2; clear C2 e0 e1 e2; have e3 := B2.cell 3; have e4 := B2.cell 4; have e5 := B2.cell 5; have e0 := B2.cell 0)
              | (go_at_call 35; (with_reducible refine (HVB.out _).mono ?_); rintro e w3 ⟨rfl, rfl⟩))
            go_ret
            exact ⟨ret_bool (HF.out (by simp)).symm, C0⟩
          · obtain rfl : vr = true := by simpa using h4
            by_cases h5 : vb = false
            · subst h5
              go_enter Tryd.func21, Tryd.ntmps21
              go_wp2_with (first
                | go_big_skip
                | (go_at_call 28; (with_reducible refine (HVR.out _ C0).mono ?_); rintro e w2 ⟨rfl, C2⟩; have B2 := B0.ch C2 (by simp); replace C0 := C0.trans C2; clear C2 e0 e1 e2; have e3 := B2.cell 3; have e4 := B2.cell 4; have e5 := B2.cell 5; have e0 := B2.cell 0)
                | (go_at_call 35; (with_reducible refine (HVB.out _).mono ?_); rintro e w3 ⟨rfl, rfl⟩))
              go_ret
              exact ⟨ret_bool (HF.out (by simp)).symm, C0⟩
            · obtain rfl : vb = true := by simpa using h5
              by_cases h6 : tm < 1
              · skip
                go_enter Tryd.func21, Tryd.ntmps21
                go_wp2_with (first
                  | go_big_skip
                  | (go_at_call 28; (with_reducible refine (HVR.out _ C0).mono ?_); rintro e w2 ⟨rfl, C2⟩; have B2 := B0.ch C2 (by simp); replace C0 := C0.trans C2; clear C2 e0 e1 e2; have e3 := B2.cell 3; have e4 := B2.cell 4; have e5 := B2.cell 5; have e0 := B2.cell 0)
                  | (go_at_call 35; (with_reducible refine (HVB.out _).mono ?_); rintro e w3 ⟨rfl, rfl⟩))
                go_ret
                exact ⟨ret_bool (HF.out (.inr (.inr (.inr (.inr (.inr (.inr (.inl h6)))))))).symm, C0⟩
              · skip
                by_cases h7 : tm > 64
                · skip
                  go_enter Tryd.func21, Tryd.ntmps21
                  go_wp2_with (first
                    | go_big_skip
                    | (go_at_call 28; (with_reducible refine (HVR.out _ C0).mono ?_); rintro e w2 ⟨rfl, C2⟩; have B2 := B0.ch C2 (by simp); replace C0 := C0.trans C2; clear C2 e0 e1 e2; have e3 := B2.cell 3; have e4 := B2.cell 4; have e5 := B2.cell 5; have e0 := B2.cell 0)
                    | (go_at_call 35; (with_reducible refine (HVB.out _).mono ?_); rintro e w3 ⟨rfl, rfl⟩))
                  go_ret
                  exact ⟨ret_bool (HF.out (.inr (.inr (.inr (.inr (.inr (.inr (.inr (h7))))))))).symm, C0⟩
                · skip
                  have HVT : Hid (vt = !r) := HT.out (by simp [credOk]; omega)
                  have HOK := HR
                  clear HF HT
                  go_enter Tryd.func21, Tryd.ntmps21
                  go_wp2_with (first
                    | go_big_skip
                    | (go_at_call 28; (with_reducible refine (HVR.out _ C0).mono ?_); rintro e w2 ⟨rfl, C2⟩; have B2 := B0.ch C2 (by simp); replace C0 := C0.trans C2; clear C2 e0 e1 e2; have e3 := B2.cell 3; have e4 := B2.cell 4; have e5 := B2.cell 5; have e0 := B2.cell 0)
                    | (go_at_call 35; (with_reducible refine (HVB.out _).mono ?_); rintro e w3 ⟨rfl, rfl⟩))
                  go_loopw [3] (fun i wr => ∃ k : Nat, i = .int .i64 k ∧ k ≤ tu.size ∧ Hid (∀ j, j < k → byt tu j ≠ 58) ∧ Blk wr w.heap.size 47 (tnC ⟨tu, tp, tA, tc, tL, tb, tw, tm⟩) ∧ Ch [] w wr) (fun i _ => tu.size - (intOf i).toNat)
                  case atStart => exact ⟨0, rfl, by omega, by show ∀ j, _; omega, B2, C0⟩
                  case round =>
                    clear B2 B0 C0 e0 e3 e4 e5
                    obtain ⟨k, rfl, hk, HN, B3, C3⟩ := hrel
                    have e0 : wr.cell? ⟨w.heap.size, 0, none⟩ = some (.string tu) := B3.cell 0
                    by_cases hlt : k < tu.size
                    · have eb : ((tu[k]'hlt).toNat : Int) = byt tu k := byt_get hlt
                      have hi0 : (0 : Int) ≤ k := by omega
                      have hik : (k : Int) < tu.size := by omega
                      cases hb : (byt tu k == 58)
                      · have HN2 : Hid (∀ j, j < k + 1 → byt tu j ≠ 58) := fun j hj => by
                          by_cases h : j < k
                          · exact HN.out j h
                          · obtain rfl : j = k := by omega
                            simpa using hb
                        go_wp2_with go_big_skip
                        go_roundw
                        case rel => exact ⟨k + 1, by go_num, by omega, HN2, B3, C3⟩
                        case measure => simp [intOf]; omega
                      · have HR1 : Hid (r = true) := by
                          show r = true
                          rw [← HOK.out]
                          exact colon_yes hlt (by simpa using hb)
                        go_wp2_with go_big_skip
                        go_ret
                        exact ⟨ret_bool (by rw [HVT.out, HR1.out]; rfl), C3⟩
                    · have HR1 : Hid (r = false) := by
                        show r = false
                        rw [← HOK.out]
                        exact colon_no (fun j hj => HN.out j (by omega))
                      have hik : ¬ (k : Int) < tu.size := by omega
                      go_wp2_with go_big_skip
                      go_ret
                      exact ⟨ret_bool (by rw [HVT.out, HR1.out]; rfl), C3⟩
theorem tenValid (w : World) (t : Tn) (B : Nat) (hg : GoodTn t) (hu : t.u.size ≤ 140737488351232) (hp : t.p.size ≤ 140737488351232) (hr : Rd w B 22 t.A t.L.length (t.L.flatMap rulC)) (hB : B ≤ w.heap.size) :
    Calls Tryd.prog 20 #[.agg (tnC t).toArray] w fun e w' => e = .returned (.bool (validT t)) ∧ Ch [] w w' := by
  have HNE : Hid (∀ w', Ch [] w w' → Calls Tryd.prog 31 #[.agg (tnC t).toArray] w' (NewRes t w')) := fun w' c => newEnt w' t B hg hu hp (hr.ch c hB (by simp)) (Nat.le_trans hB c.size)
  have B0 : Blk (w.alloc (.cells (tnC t).toArray 47)) w.heap.size 47 (tnC t) := Blk.new w _ _
  have C0 : Ch [] w (w.alloc (.cells (tnC t).toArray 47)) := (Ch.refl _ _).alloc _
  have HI6 : Hid ((Tryd.prog.info? 47).map (·.size) = some (tnC t).length) := tn_info
  clear hg hr
  cases hv : validT t
  · have HN2 : Hid (∀ w', Ch [] w w' → Calls Tryd.prog 31 #[.agg (tnC t).toArray] w' fun e w'' => e = .returned (.pointer none) ∧ Ch [] w' w'') := fun w' c => (HNE.out w' c).mono fun e w'' h => by
      rcases h.1 with ⟨hx, _⟩ | ⟨_, he⟩
      · rw [hv] at hx; cases hx
      · exact ⟨he, h.2⟩
    clear HNE
    generalize tnC t = cs at *
    go_enter Tryd.func20, Tryd.ntmps20
    go_wp2_with (first
      | (refine wpList_load_want rfl 47 _ rfl w.heap.size 0 rfl cs _ B0.range Tryd.underlying47 rfl HI6.out ?_)
      | (go_at_call 31; (with_reducible refine (HN2.out _ C0).mono ?_); rintro e w3 ⟨rfl, C3⟩))
    go_ret
    exact ⟨rfl, C0.trans C3⟩
  · have HN2 : Hid (∀ w', Ch [] w w' → Calls Tryd.prog 31 #[.agg (tnC t).toArray] w' fun e w'' => (∃ g, e = .returned (.pointer (some ⟨g, 0, none⟩))) ∧ Ch [] w' w'') := fun w' c => (HNE.out w' c).mono fun e w'' h => by
      rcases h.1 with ⟨_, g, he, _⟩ | ⟨hx, _⟩
      · exact ⟨⟨g, he⟩, h.2⟩
      · rw [hv] at hx; cases hx
    clear HNE
    generalize tnC t = cs at *
    go_enter Tryd.func20, Tryd.ntmps20
    go_wp2_with (first
      | (refine wpList_load_want rfl 47 _ rfl w.heap.size 0 rfl cs _ B0.range Tryd.underlying47 rfl HI6.out ?_)
      | (go_at_call 31; (with_reducible refine (HN2.out _ C0).mono ?_); rintro e w3 ⟨⟨g, rfl⟩, C3⟩))
    go_ret
    exact ⟨rfl, C0.trans C3⟩
theorem nodup_of {T : List Tn} (h : ∀ (i k : Nat) a b, k < i → T[i]? = some a → T[k]? = some b → a.u ≠ b.u) : (T.map (·.u)).Nodup := by
  rw [List.nodup_iff_pairwise_ne, List.pairwise_iff_getElem]
  intro i j hi hj hij e
  rw [List.length_map] at hi hj
  simp only [List.getElem_map] at e
  exact h j i _ _ hij (List.getElem?_eq_getElem hj) (List.getElem?_eq_getElem hi) e.symm
theorem not_nodup {T : List Tn} {i k : Nat} {a b : Tn} (hk : k < i) (ha : T[i]? = some a) (hb : T[k]? = some b) (e : a.u = b.u) : ¬ (T.map (·.u)).Nodup := fun h => by
  rw [List.nodup_iff_pairwise_ne, List.pairwise_iff_getElem] at h
  obtain ⟨hi, hx⟩ := List.getElem?_eq_some_iff.1 ha
  obtain ⟨hj, hy⟩ := List.getElem?_eq_some_iff.1 hb
  have := h k i (by simpa using hj) (by simpa using hi) hk
  simp only [List.getElem_map, hx, hy] at this
  exact this e.symm
theorem u_ne {a b : ByteArray} (h : (a.toList == b.toList) = false) : a ≠ b := fun e => by subst e; simp at h
theorem u_eq {a b : ByteArray} (h : (a.toList == b.toList) = true) : a = b := by
  have h1 := eq_of_beq h
  rw [ByteArray.toList_eq, ByteArray.toList_eq] at h1
  exact ByteArray.ext (Array.ext' h1)
set_option maxRecDepth 100000 in
set_option maxHeartbeats 16000000 in
theorem chkTen (w : World) (A : Option Addr) (n cap B : Nat) (T : List Tn) (h : Rd w B 6 A n (T.flatMap tnC)) (hB : B ≤ w.heap.size) (hl : n ≤ 140737488351232) (hT : ∀ t ∈ T, TnIn w B t) :
    Calls Tryd.prog 22 #[.slice A n cap] w fun e w' => e = .returned (.int .i64 (chkT T)) ∧ Ch [] w w' := by
  have hrE := h.rangeE (fun t _ => tn_len t) (by decide)
  have HRE : Hid (0 < n → ∃ b off, A = some ⟨b, off, none⟩ ∧ b < w.heap.size ∧ ∀ (k : Nat) (x : Tn), T[k]? = some x → w.rangeAt b (off + k * 6) (tnC x)) := fun hn => by
    obtain ⟨b, off, e, hb, hr⟩ := hrE.2 hn
    exact ⟨b, off, e, by omega, hr⟩
  have HN := hid hrE.1
  have HNE : Hid (∀ t ∈ T, ∀ w', Ch [] w w' → Calls Tryd.prog 21 #[.agg (tnC t).toArray] w' fun e w'' => e = .returned (.bool (validT t)) ∧ Ch [] w' w'') := fun t ht w' c => refTenValid w' t B (hT t ht).good (hT t ht).u (hT t ht).p ((hT t ht).r.ch c hB (by simp)) (Nat.le_trans hB c.size)
  have HI6 := hid tn_info
  obtain ⟨r, hr⟩ : ∃ r, chkT T = r := ⟨_, rfl⟩
  rw [hr]
  unfold chkT at hr
  rw [hrE.1] at hr
  have HR := hid hr
  clear h hrE hT hr
  by_cases h1 : n < 1
  · have HR1 : Hid (r = 1) := by show r = 1; rw [← HR.out, if_pos (Or.inl h1)]
    have hi1 : (n : Int) < 1 := by omega
    clear HR HRE HNE
    go_enter Tryd.func22, Tryd.ntmps22
    go_wp2_with go_big_skip
    go_ret
    exact ⟨by rw [HR1.out]; rfl, Ch.refl _ _⟩
  · by_cases h8 : 8 < n
    · have HR1 : Hid (r = 1) := by show r = 1; rw [← HR.out, if_pos (Or.inr h8)]
      have hi1 : ¬ (n : Int) < 1 := by omega
      have hi8 : (n : Int) > 8 := by omega
      clear HR HRE HNE
      go_enter Tryd.func22, Tryd.ntmps22
      go_wp2_with go_big_skip
      go_ret
      exact ⟨by rw [HR1.out]; rfl, Ch.refl _ _⟩
    · have HR1 : Hid ((if T.all validT = true then (if (T.map (·.u)).Nodup then (0 : Int) else 5) else 1) = r) := by
        show _ = r
        rw [← HR.out]
        exact (if_neg (by omega)).symm
      have hi1 : ¬ (n : Int) < 1 := by omega
      have hi8 : ¬ (n : Int) > 8 := by omega
      clear HR
      obtain ⟨b, off, rfl, hb, hrg⟩ := HRE.out (by omega)
      have HRG := hid hrg
      clear HRE hrg
      go_enter Tryd.func22, Tryd.ntmps22
      go_wp2_with go_big_skip
      go_loopw [3] (fun i wr => ∃ k : Nat, i = .int .i64 k ∧ k ≤ n ∧ Hid ((T.take k).all validT = true) ∧ Ch [] w wr) (fun i _ => n - (intOf i).toNat)
      case atStart => exact ⟨0, rfl, by omega, rfl, Ch.refl _ _⟩
      case round =>
        obtain ⟨k, rfl, hk, HV, CW⟩ := hrel
        by_cases hlt : k < n
        · obtain ⟨t, ht⟩ : ∃ t, T[k]? = some t := ⟨_, List.getElem?_eq_getElem (by rw [HN.out]; exact hlt)⟩
          have hmem := List.mem_of_getElem? ht
          have HRD : Hid (∀ w', Ch [] w w' → w'.rangeAt b (off + k * 6) (tnC t)) := fun w' c => range_ch (HRG.out k t ht) c hb (by simp)
          have HNT := hid (HNE.out t hmem)
          have HTK : Hid (T.take (k + 1) = T.take k ++ [t]) := by show _ = _; rw [List.take_add_one, ht]; rfl
          have HMEM := hid hmem
          have hi0 : (0 : Int) ≤ k := by omega
          have hik : (k : Int) < n := by omega
          clear ht hmem
          cases hv : validT t
          · have HR2 : Hid (r = 1) := by
              show r = 1
              rw [← HR1.out, if_neg (fun hx => by have := List.all_eq_true.1 hx t HMEM.out; rw [hv] at this; cases this)]
            rw [hv] at HNT
            clear HR1 HV hv
            go_wp2_with (first
              | go_big_skip
              | (refine wpList_load_want rfl 47 _ rfl b (off + k * 6) rfl (tnC t) _ (HRD.out _ CW) Tryd.underlying47 rfl HI6.out ?_)
              | (go_at_call 21; (with_reducible refine (HNT.out _ CW).mono ?_); rintro e w3 ⟨rfl, C3⟩; replace CW := CW.trans C3; clear C3))
            go_ret
            exact ⟨by rw [HR2.out]; rfl, CW⟩
          · have HV2 : Hid ((T.take (k + 1)).all validT = true) := by show _ = true; rw [HTK.out, List.all_append, HV.out]; simp [hv]
            rw [hv] at HNT
            clear HV hv
            go_wp2_with (first
              | go_big_skip
              | (refine wpList_load_want rfl 47 _ rfl b (off + k * 6) rfl (tnC t) _ (HRD.out _ CW) Tryd.underlying47 rfl HI6.out ?_)
              | (go_at_call 21; (with_reducible refine (HNT.out _ CW).mono ?_); rintro e w3 ⟨rfl, C3⟩; replace CW := CW.trans C3; clear C3))
            go_roundw
            case rel => exact ⟨k + 1, by go_num, by omega, HV2, CW⟩
            case measure => simp [intOf]; omega
        · obtain rfl : k = n := by omega
          have hik : ¬ (k : Int) < k := by omega
          have hVA : T.all validT = true := by rw [← List.take_of_length_le (l := T) (i := k) (by rw [HN.out]; exact Nat.le_refl _)]; exact HV.out
          have HR2 : Hid ((if (T.map (·.u)).Nodup then (0 : Int) else 5) = r) := by show _ = r; rw [← HR1.out, if_pos hVA]
          clear HR1 HV hVA HNE
          have HU : Hid (∀ (j : Nat) x, T[j]? = some x → ∀ w', Ch [] w w' → w'.cell? ⟨b, off + j * 6, none⟩ = some (.string x.u)) := fun j x hx w' c => range_ch (HRG.out j x hx) c hb (by simp) 0 _ rfl
          go_wp2_with fail
          go_loopw [4] (fun i wq => ∃ k2 : Nat, i = .int .i64 k2 ∧ k2 ≤ k ∧ Hid (∀ (i j : Nat) a b, i < k2 → j < i → T[i]? = some a → T[j]? = some b → a.u ≠ b.u) ∧ Ch [] w wq) (fun i _ => k - (intOf i).toNat)
          case atStart => exact ⟨0, rfl, by omega, by show ∀ i j a b, _; omega, CW⟩
          case round =>
            clear CW
            obtain ⟨k2, rfl, hk2, HD, CQ⟩ := hrel
            by_cases hlt2 : k2 < k
            · obtain ⟨a, ha⟩ : ∃ a, T[k2]? = some a := ⟨_, List.getElem?_eq_getElem (by rw [HN.out]; exact hlt2)⟩
              have HA := hid ha
              clear ha
              have hj0 : (0 : Int) ≤ k2 := by omega
              have hjk : (k2 : Int) < k := by omega
              go_wp2_with fail
              go_loopw [5] (fun i wz => ∃ k3 : Nat, i = .int .i64 k3 ∧ k3 ≤ k2 ∧ Hid (∀ (j : Nat) b, j < k3 → T[j]? = some b → a.u ≠ b.u) ∧ Ch [] w wz) (fun i _ => k2 - (intOf i).toNat)
              case atStart => exact ⟨0, rfl, by omega, by show ∀ j b, _; omega, CQ⟩
              case round =>
                clear CQ
                obtain ⟨k3, rfl, hk3, HE, CZ⟩ := hrel
                by_cases hlt3 : k3 < k2
                · obtain ⟨c, hc⟩ : ∃ c, T[k3]? = some c := ⟨_, List.getElem?_eq_getElem (by rw [HN.out]; omega)⟩
                  have HC := hid hc
                  clear hc
                  have ea := HU.out k2 a HA.out _ CZ
                  have ec := HU.out k3 c HC.out _ CZ
                  have hx0 : (0 : Int) ≤ k3 := by omega
                  have hxk : (k3 : Int) < k := by omega
                  have hx2 : (k3 : Int) < k2 := by omega
                  cases he : (a.u.toList == c.u.toList)
                  · have HE2 : Hid (∀ (j : Nat) b, j < k3 + 1 → T[j]? = some b → a.u ≠ b.u) := fun j b hj hb => by
                      by_cases h : j < k3
                      · exact HE.out j b h hb
                      · obtain rfl : j = k3 := by omega
                        obtain rfl : b = c := by rw [HC.out] at hb; exact (Option.some.inj hb).symm
                        exact u_ne he
                    go_wp2_with fail
                    go_quiet (fail)
                    go_wp2
                    go_roundw
                    case rel => exact ⟨k3 + 1, by go_num, by omega, HE2, CZ.drewN _⟩
                    case measure => simp [intOf]; omega
                  · have HR3 : Hid (r = 5) := by
                      show r = 5
                      rw [← HR2.out, if_neg (not_nodup hlt3 HA.out HC.out (u_eq he))]
                    go_wp2_with fail
                    go_quiet (fail)
                    go_wp2
                    go_ret
                    exact ⟨by rw [HR3.out]; rfl, CZ.drewN _⟩
                · obtain rfl : k3 = k2 := by omega
                  have hx2 : ¬ (k3 : Int) < k3 := by omega
                  have HD2 : Hid (∀ (i j : Nat) a b, i < k3 + 1 → j < i → T[i]? = some a → T[j]? = some b → a.u ≠ b.u) := fun i j x y hi hj hx hy => by
                    by_cases h : i < k3
                    · exact HD.out i j x y h hj hx hy
                    · obtain rfl : i = k3 := by omega
                      obtain rfl : x = a := by rw [HA.out] at hx; exact (Option.some.inj hx).symm
                      exact HE.out j y hj hy
                  go_wp2_with fail
                  go_roundw
                  case rel => exact ⟨k3 + 1, by go_num, by omega, HD2, CZ⟩
                  case measure => simp [intOf]; omega
            · have HR3 : Hid (r = 0) := by
                show r = 0
                rw [← HR2.out, if_pos (nodup_of (fun i j a b hj ha hb => HD.out i j a b (by have := (List.getElem?_eq_some_iff.1 ha).1; rw [HN.out] at this; omega) hj ha hb))]
              have hjk : ¬ (k2 : Int) < k := by omega
              go_wp2_with fail
              go_ret
              exact ⟨by rw [HR3.out]; rfl, CQ⟩
end Go.Proofs.YtbmbnibamhgfmaaDoor
