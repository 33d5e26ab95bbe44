/- Entries and a registry in memory; tenant.New (printed by mk_tenn.py). -/
import Derived.Test.YtbmbnibamhgfmaaDoorTen
import Derived.Test.YtbmbnibamhgfmaaDoorUsr
import Derived.Test.YtbmbnibamhgfmaaDoorMD
namespace Go.Proofs.YtbmbnibamhgfmaaDoor
open Go.RowKit Go.Maps Go.WideShapes

structure En where
  g : Nat
  t : Tn
  bd : Bud
  act : Int
def enP (e : En) : Value := .pointer (some ⟨e.g, 0, none⟩)
structure EnsM (w : World) (X : List En) (G : Nat → List Nat) : Prop where
  get : ∀ i e, X[i]? = some e → EntM w e.g e.t e.bd e.act (G i)
  apart : ∀ i j, i < j → j < X.length → ∀ b ∈ G i, b ∉ G j
section
variable {w w' : World} {X : List En} {G : Nat → List Nat} {S : List Nat}
theorem EnsM.nil (w : World) : EnsM w [] (fun _ => []) := ⟨fun _ _ h => by simp at h, fun _ _ _ h => by simp at h⟩
theorem EnsM.ch (h : EnsM w X G) (hc : Ch S w w') (hS : ∀ i, i < X.length → ∀ b ∈ G i, b ∉ S) : EnsM w' X G := ⟨fun i e he => (h.get i e he).ch hc (hS i (List.getElem?_eq_some_iff.1 he).1), h.apart⟩
theorem EntM.lt {g : Nat} {t : Tn} {bd : Bud} {act : Int} {FF : List Nat} (h : EntM w g t bd act FF) : ∀ b ∈ FF, b < w.heap.size := by
  obtain ⟨_, _, _, _, _, _, _, _, _, _, _, _, h⟩ := h
  exact h
theorem EnsM.lt (h : EnsM w X G) (i : Nat) (hi : i < X.length) : ∀ b ∈ G i, b < w.heap.size := (h.get i X[i] (List.getElem?_eq_getElem hi)).lt
theorem EnsM.snoc (h : EnsM w X G) (e : En) (F : List Nat) (he : EntM w e.g e.t e.bd e.act F) (hd : ∀ i, i < X.length → ∀ b ∈ G i, b ∉ F) : EnsM w (X ++ [e]) (fun i => if i = X.length then F else G i) := by
  constructor
  · intro i x hx
    show EntM _ _ _ _ _ (if i = X.length then F else G i)
    rcases Nat.lt_trichotomy i X.length with hi | hi | hi
    · rw [List.getElem?_append_left hi] at hx
      rw [if_neg (by omega)]
      exact h.get i x hx
    · subst hi
      rw [List.getElem?_append_right (Nat.le_refl _), Nat.sub_self] at hx
      rw [if_pos rfl, ← Option.some.inj hx]
      exact he
    · rw [List.getElem?_eq_none (by rw [List.length_append, List.length_singleton]; omega)] at hx
      cases hx
  · intro i j hij hj b hb
    rw [List.length_append, List.length_singleton] at hj
    show b ∉ (if j = X.length then F else G j)
    replace hb : b ∈ (if i = X.length then F else G i) := hb
    rw [if_neg (by omega)] at hb
    by_cases h1 : j = X.length
    · rw [if_pos h1]
      exact hd i (by omega) b hb
    · rw [if_neg h1]
      exact h.apart i j hij (by omega) b hb
end
/-- A registry in memory; its blocks are among FF. -/
def RegM (w : World) (g : Nat) (X : List En) (FF : List Nat) : Prop := ∃ (A : Option Addr) (c : Nat) (G : Nat → List Nat),
  Blk w g 71 [.slice A X.length c] ∧ Rd w w.heap.size 1 A X.length (X.map enP) ∧ EnsM w X G ∧ g ∈ FF ∧ g ∉ blkOf A ∧ (∀ b ∈ blkOf A, b ∈ FF) ∧ (∀ i, i < X.length → ∀ b ∈ G i, b ∈ FF ∧ b ≠ g ∧ b ∉ blkOf A) ∧ ∀ b ∈ FF, b < w.heap.size
open Classical in
/-- The error of tenant.New. -/
noncomputable def chkT (T : List Tn) : Int := if T.length < 1 ∨ 8 < T.length then 1 else if T.all validT = true then (if (T.map (·.u)).Nodup then 0 else 5) else 1
def NewReg (T : List Tn) (w : World) (e : Ending) (w' : World) : Prop :=
  ((chkT T = 0 ∧ ∃ g, e = .returned (.tuple #[.pointer (some ⟨g, 0, none⟩), .int .i64 0]) ∧ ∃ X, RegM w' g X (newB w w') ∧ X.map (·.t) = T ∧ ∀ x ∈ X, x.bd = ⟨x.t.b, x.t.w, 0, 0⟩ ∧ x.act = 0) ∨ (chkT T ≠ 0 ∧ e = .returned (.tuple #[.pointer none, .int .i64 (chkT T)]))) ∧ Ch [] w w'
/-- Tenants that came in: their rules lie below B. -/
structure TnIn (w : World) (B : Nat) (t : Tn) : Prop where
  good : GoodTn t
  u : t.u.size ≤ 140737488351232
  p : t.p.size ≤ 140737488351232
  r : Rd w B 22 t.A t.L.length (t.L.flatMap rulC)
theorem OM.lt {w : World} {b n : Nat} {D : DataW Unit} (h : OM w b n D) : b < w.heap.size := World.ownsMap.lt h
theorem tn_len (t : Tn) : (tnC t).length = 6 := rfl
theorem tn_one (t : Tn) : (tnC t).all (·.oneCell') = true := rfl
theorem entP_infoZ : (Tryd.prog.info? 73).map (fun i => (i.zero, i.size, i.bytes)) = some (some (.pointer none), 1, 8) := by kernel_rfl
def tn0 : Tn := ⟨⟨#[]⟩, ⟨#[]⟩, none, 0, [], 0, 0, 0⟩
set_option maxRecDepth 100000 in
set_option maxHeartbeats 8000000 in
theorem tenNew (w : World) (A : Option Addr) (n cap B : Nat) (T : List Tn) (h : Rd w B 6 A n (T.flatMap tnC)) (hB : B ≤ w.heap.size) (hl : n ≤ 140737488351232) (hT : ∀ t ∈ T, TnIn w B t) :
    Calls Tryd.prog 7 #[.slice A n cap] w (NewReg T w) := by
  have hrE := h.rangeE (fun t _ => tn_len t) (by decide)
  have HRE : Hid (0 < n → ∃ b off, A = some ⟨b, off, none⟩ ∧ b < w.heap.size ∧ ∀ (k : Nat) (x : Tn), T[k]? = some x → w.rangeAt b (off + k * 6) (tnC x)) := fun hn => by
    obtain ⟨b, off, e, hb, hr⟩ := hrE.2 hn
    exact ⟨b, off, e, by omega, hr⟩
  have HN := hid hrE.1
  have HNE : Hid (∀ t ∈ T, ∀ w', Ch [] w w' → Calls Tryd.prog 31 #[.agg (tnC t).toArray] w' (NewRes t w')) := fun t ht w' c => newEnt w' t B (hT t ht).good (hT t ht).u (hT t ht).p ((hT t ht).r.ch c hB (by simp)) (Nat.le_trans hB c.size)
  have HUS : Hid (∀ t ∈ T, t.u.size ≤ maxLen) := fun t ht => by have := (hT t ht).u; unfold maxLen; omega
  have HI6 := hid tn_info
  unfold NewReg
  obtain ⟨r, hr⟩ : ∃ r, chkT T = r := ⟨_, rfl⟩
  rw [hr]
  unfold chkT at hr
  rw [hrE.1] at hr
  have HR := hid hr
  clear h hrE hT hr
  by_cases h1 : n < 1
  · have HR1 : Hid (r = 1) := by show r = 1; rw [← HR.out, if_pos (Or.inl h1)]
    have hi1 : (n : Int) < 1 := by omega
    clear HR HRE HNE HUS
    go_enter Tryd.func7, Tryd.ntmps7
    go_wp2_with go_big_skip
    go_ret2
    exact ⟨.inr ⟨by rw [HR1.out]; decide, by rw [HR1.out]; rfl⟩, Ch.refl _ _⟩
  · by_cases h8 : 8 < n
    · have HR1 : Hid (r = 1) := by show r = 1; rw [← HR.out, if_pos (Or.inr h8)]
      have hi1 : ¬ (n : Int) < 1 := by omega
      have hi8 : (n : Int) > 8 := by omega
      clear HR HRE HNE HUS
      go_enter Tryd.func7, Tryd.ntmps7
      go_wp2_with go_big_skip
      go_ret2
      exact ⟨.inr ⟨by rw [HR1.out]; decide, by rw [HR1.out]; rfl⟩, Ch.refl _ _⟩
    · have HR1 : Hid ((if T.all validT = true then (if (T.map (·.u)).Nodup then (0 : Int) else 5) else 1) = r) := by
        show _ = r
        rw [← HR.out]
        exact (if_neg (by omega)).symm
      have hi1 : ¬ (n : Int) < 1 := by omega
      have hi8 : ¬ (n : Int) > 8 := by omega
      clear HR
      have hmm := @run_makeMap Tryd.prog
      go_enter Tryd.func7, Tryd.ntmps7
      go_upto_region 5 with go_big_skip
      have BX : Blk ((w.alloc (.cells #[.slice none 0 0] 71)).alloc (.map #[] 0)) w.heap.size 71 [.slice none 0 0] := (Blk.new w _ [.slice none 0 0]).alloc _
      have om : OM ((w.alloc (.cells #[.slice none 0 0] 71)).alloc (.map #[] 0)) (w.heap.size + 1) 0 (usersD []) := by
        have := World.ownsMap_made (w.alloc (.cells #[.slice none 0 0] 71)) Tryd.prog 9 (plainElem (H := Unit) Tryd.prog 4)
        rwa [World.size_alloc] at this
      have CW : Ch [] w ((w.alloc (.cells #[.slice none 0 0] 71)).alloc (.map #[] 0)) := ((Ch.refl _ _).alloc _).alloc _
      have hs2 : w.heap.size + 2 ≤ ((w.alloc (.cells #[.slice none 0 0] 71)).alloc (.map #[] 0)).heap.size := by simp
      generalize hw1 : (w.alloc (.cells #[.slice none 0 0] 71)).alloc (.map #[] 0) = w1 at BX om CW hs2 ⊢
      clear hw1 hmm
      obtain ⟨s, hs⟩ : ∃ s, w.heap.size = s := ⟨_, rfl⟩
      have HS := hid hs
      rw [hs] at BX om hs2 ⊢
      clear hs
      go_wp2_with fail
      go_loopw [22] (fun i wr => ∃ (k : Nat) (X : List En) (G : Nat → List Nat) (A1 : Option Addr) (c1 : Nat), i = .int .i64 k ∧ k ≤ n ∧ Hid (X.map (·.t) = T.take k) ∧ Hid (∀ x ∈ X, x.bd = ⟨x.t.b, x.t.w, 0, 0⟩ ∧ x.act = 0) ∧ Hid ((T.take k).all validT = true) ∧ Hid (EnsM wr X G) ∧ Blk wr s 71 [.slice A1 k c1] ∧ Own wr (s + 2) 73 1 A1 k c1 (X.map enP) ∧ Hid (∀ i, i < k → ∀ b ∈ G i, s + 2 ≤ b ∧ b ∉ blkOf A1) ∧ OM wr (s + 1) k (usersD ((T.take k).map (·.u))) ∧ Hid (SetOk ((T.take k).map (·.u))) ∧ Ch [] w wr) (fun i _ => n - (intOf i).toNat)
      case atStart => exact ⟨0, [], fun _ => [], none, 0, rfl, by omega, rfl, by show ∀ x ∈ [], _; simp, rfl, EnsM.nil _, BX, Own.nil _ _ _ _, by show ∀ i, _; omega, om, SetOk.nil, CW⟩
      case round =>
        clear BX om CW
        obtain ⟨k, X, G, A1, c1, rfl, hk, HX, HX0, HV, HE, BX, own, HG, om, HSE, CW⟩ := hrel
        by_cases hlt : k < n
        · obtain ⟨b, off, rfl, hb, hr⟩ := HRE.out (by omega)
          obtain ⟨t, ht⟩ : ∃ t, T[k]? = some t := ⟨_, List.getElem?_eq_getElem (by rw [HN.out]; exact hlt)⟩
          have hmem := List.mem_of_getElem? ht
          have HRD : Hid (∀ w', Ch [] w w' → w'.rangeAt b (off + k * 6) (tnC t)) := fun w' c => range_ch (hr k t ht) c hb (by simp)
          have HNT := hid (HNE.out t hmem)
          have HTK : Hid (T.take (k + 1) = T.take k ++ [t]) := by show _ = _; rw [List.take_add_one, ht]; rfl
          have HUT := hid (HUS.out t hmem)
          have hi0 : (0 : Int) ≤ k := by omega
          have hik : (k : Int) < n := by omega
          have HMEM := hid hmem
          clear hr ht hmem
          cases hv : validT t
          · have HNB : Hid (∀ w', Ch [] w w' → Calls Tryd.prog 31 #[.agg (tnC t).toArray] w' fun e w'' => e = .returned (.pointer none) ∧ Ch [] w' w'') := fun w' c => (HNT.out w' c).mono fun e w'' h => by
              rcases h.1 with ⟨hx, _⟩ | ⟨_, he⟩
              · rw [hv] at hx; cases hx
              · exact ⟨he, h.2⟩
            have HR2 : Hid (r = 1) := by
              show r = 1
              rw [← HR1.out, if_neg (fun hx => by have := List.all_eq_true.1 hx t HMEM.out; rw [hv] at this; cases this)]
            clear HR1 HNT hv HE HX HX0 HV HG HSE own om BX
            go_wp2_with (first
              | go_big_skip
              | (refine wpList_load_want rfl 47 _ rfl b (off + k * 6) rfl (tnC t) _ (HRD.out _ CW) Tryd.underlying47 rfl HI6.out ?_)
              | (refine wpList_storeB rfl 47 _ _ rfl wr.heap.size 47 (tnC tn0) (tnC t) rfl rfl (Blk.new _ _ _) HI6.out rfl (tn_one t) ?_; intro w2 BT D Z; clear Z; have D2 := ((Ch.refl [] wr).alloc _).step D (fun i hi => .inr (by simp at hi; omega)); clear D; replace CW := CW.trans D2; clear D2)
              | (refine wpList_load_want rfl 47 _ rfl wr.heap.size 0 rfl (tnC t) _ BT.range Tryd.underlying47 rfl HI6.out ?_)
              | (go_at_call 31; (with_reducible refine (HNB.out _ CW).mono ?_); rintro e w3 ⟨rfl, C3⟩; replace CW := CW.trans C3; clear C3))
            go_ret2
            exact ⟨.inr ⟨by rw [HR2.out]; decide, by rw [HR2.out]; rfl⟩, CW⟩
          · have HNB : Hid (∀ w', Ch [] w w' → Calls Tryd.prog 31 #[.agg (tnC t).toArray] w' fun e w'' => ∃ g, e = .returned (.pointer (some ⟨g, 0, none⟩)) ∧ EntM w'' g t ⟨t.b, t.w, 0, 0⟩ 0 (newB w' w'') ∧ Ch [] w' w'') := fun w' c => (HNT.out w' c).mono fun e w'' h => by
              rcases h.1 with ⟨_, g, he, hm⟩ | ⟨hx, _⟩
              · exact ⟨g, he, hm, h.2⟩
              · rw [hv] at hx; cases hx
            have HVT := hid hv
            have hsr := BX.lt
            have hsw := OM.lt om
            have hbA := own.blks
            have HEL := hid HE.out.lt
            have hXk : X.length = k := by
              have := congrArg List.length HX.out
              rw [List.length_map, List.length_take, HN.out] at this
              omega
            clear HNT hv
            go_upto_region 11 with (first
              | go_big_skip
              | (refine wpList_load_want rfl 47 _ rfl b (off + k * 6) rfl (tnC t) _ (HRD.out _ CW) Tryd.underlying47 rfl HI6.out ?_)
              | (refine wpList_storeB rfl 47 _ _ rfl wr.heap.size 47 (tnC tn0) (tnC t) rfl rfl (Blk.new _ _ _) HI6.out rfl (tn_one t) ?_; intro w2 BT D Z; clear Z; have D2 := ((Ch.refl [] wr).alloc _).step D (fun i hi => .inr (by simp at hi; omega)); clear D; replace CW := CW.trans D2; replace own := own.ch D2 (by simp); replace BX := BX.ch D2 (by simp); replace om := om.ch D2 (by simp); replace HE : Hid (EnsM w2 X G) := HE.out.ch D2 (by simp); clear D2)
              | (refine wpList_load_want rfl 47 _ rfl wr.heap.size 0 rfl (tnC t) _ BT.range Tryd.underlying47 rfl HI6.out ?_)
              | (go_at_call 31; (with_reducible refine (HNB.out _ CW).mono ?_); rintro e w3 ⟨g, rfl, EM, C3⟩; have sz2 := C3.size; have ltT := BT.lt; replace BT := BT.ch C3 (by simp); replace CW := CW.trans C3; replace own := own.ch C3 (by simp); replace BX := BX.ch C3 (by simp); replace om := om.ch C3 (by simp); replace HE : Hid (EnsM w3 X G) := HE.out.ch C3 (by simp); clear C3))
            have e0 := BX.cell 0
            have hXA : s ∉ blkOf A1 := fun h => by have := (hbA s h).1; omega
            have hw3 : s + 2 ≤ w3.heap.size := by omega
            go_upto_region 12 with (first
              | go_big_skip
              | (at_builtin; (refine wpList_app _ rfl (.tmp 34) (.tmp 36) _ rfl (s + 2) 73 _ 1 8 Tryd.underlying69 entP_infoZ rfl (by omega) _ _ _ _ rfl (own.alloc _) _ _ _ _ [Value.pointer (some ⟨g, 0, none⟩)] rfl (Rd.new w3 1 [Value.pointer (some ⟨g, 0, none⟩)] 1 rfl 73) (by simp [Value.oneCell']) (by unfold maxLen; omega) (by omega) (by simp only [World.size_alloc]; omega) ?_; intro A4 c4 w4 own4 ch4 at4; have BX4 := (BX.alloc _).ch ch4 hXA; clear e0; have f0 := BX4.cell 0; have g0 := BX4.frozen 0)))
            have BX5 : Blk (w4.setCell ⟨s, 0, none⟩ (.slice A4 (k + 1) c4)) s 71 [.slice A4 (k + 1) c4] := BX4.set 0 (.slice A4 (k + 1) c4)
            have D5 : Ch (s :: blkOf A1) w3 (w4.setCell ⟨s, 0, none⟩ (.slice A4 (k + 1) c4)) := (((Ch.refl (s :: blkOf A1) w3).alloc _).step ch4 (fun i hi => .inl (List.mem_cons_of_mem _ hi))).setCell (p := ⟨s, 0, none⟩) (.inl (by simp)) _
            have D6 : Ch [s] w4 (w4.setCell ⟨s, 0, none⟩ (.slice A4 (k + 1) c4)) := (Ch.refl [s] w4).setCell (p := ⟨s, 0, none⟩) (.inl (by simp)) _
            generalize w4.setCell ⟨s, 0, none⟩ (.slice A4 (k + 1) c4) = w5 at BX5 D5 D6 ⊢
            have hb4 := own4.blks
            have own5 := own4.ch D6 (fun b hb h => by rw [List.mem_singleton] at h; have := (hb4 b hb).1; omega)
            have hout : ∀ b, s < b → b ∉ blkOf A1 → b ∉ s :: blkOf A1 := fun b h1 h2 h => by
              rcases List.mem_cons.1 h with h | h
              · omega
              · exact h2 h
            have hold : ∀ b, wr.heap.size ≤ b → b ∉ blkOf A1 := fun b h1 h => by have := (hbA b h).2; omega
            have EM5 := EM.ch D5 (fun b hb => hout b (by have := (newB_ge hb).1; omega) (hold b (by have := (newB_ge hb).1; omega)))
            have HE5 := HE.out.ch D5 (fun i hi b hb => hout b (by have := (HG.out i (by omega) b hb).1; omega) (HG.out i (by omega) b hb).2)
            have HE6 := hid (HE5.snoc ⟨g, t, ⟨t.b, t.w, 0, 0⟩, 0⟩ (newB w2 w3) EM5 (fun i hi b hb h => by have := HEL.out i hi b hb; have := (newB_ge h).1; omega))
            have BT5 := BT.ch D5 (hout _ (by omega) (hold _ (Nat.le_refl _)))
            have om5 := om.ch D5 (hout _ (by omega) (fun h => by have := (hbA _ h).1; omega))
            have CW5 := CW.step D5 (fun i hi => .inr (by have := HS.out; rcases List.mem_cons.1 hi with h | h; omega; have := (hbA i h).1; omega))
            have HG6 : Hid (∀ i, i < k + 1 → ∀ b ∈ (if i = X.length then newB w2 w3 else G i), s + 2 ≤ b ∧ b ∉ blkOf A4) := fun i hi b hb => by
              by_cases hx : i = X.length
              · rw [if_pos hx] at hb
                have := newB_ge hb
                refine ⟨by omega, fun h => ?_⟩
                rcases at4 b h with h | h
                · exact hold b (by omega) h
                · rw [World.size_alloc] at h; omega
              · rw [if_neg hx] at hb
                have h1 := HG.out i (by omega) b hb
                have h2 := HEL.out i (by omega) b hb
                refine ⟨h1.1, fun h => ?_⟩
                rcases at4 b h with h | h
                · exact h1.2 h
                · rw [World.size_alloc] at h; omega
            have eu : w5.cell? ⟨wr.heap.size, 0, none⟩ = some (.string t.u) := BT5.cell 0
            clear f0 g0 BX4 ch4 at4 D5 D6 BX own own4 EM HE HE5 EM5 BT BT5 CW hout hold hbA hb4 HEL HG
            go_wp2_with (first
              | go_big_skip
              | (at_mapUpdate; refine wpList_mapUpdate_own _ rfl _ _ _ 72 rfl 9 4 kS_keyed Tryd.underlying72 _ (s + 1) k _ rfl om5 (by unfold maxLen; omega) _ _ _ rfl rfl (kS_key HUT.out) (.lit (.bool true)) [] (plainElem_bool Tryd.underlying4 true) ?_; intro w6 om6 gr6))
            go_roundw
            case rel =>
              have C6 : Ch [s + 1] w5 w6 := Ch.grown gr6
              exact ⟨k + 1, X ++ [⟨g, t, ⟨t.b, t.w, 0, 0⟩, 0⟩], _, A4, c4, by go_num, by omega, by show _ = _; rw [HTK.out, List.map_append, HX.out]; rfl, by
                show ∀ x ∈ _, _
                intro x hx
                rcases List.mem_append.1 hx with h | h
                · exact HX0.out x h
                · rw [List.mem_singleton] at h; subst h; exact ⟨rfl, rfl⟩, by show _ = true; rw [HTK.out, List.all_append, HV.out]; simp [HVT.out], by show EnsM _ _ _; exact HE6.out.ch C6 (fun i hi b hb h => by
                  rw [List.mem_singleton] at h
                  rw [List.length_append, List.length_singleton, hXk] at hi
                  have := (HG6.out i hi b hb).1
                  omega), BX5.ch C6 (by simp), by rw [List.map_append]; exact own5.ch C6 (fun b hb h => by rw [List.mem_singleton] at h; have := (own5.blks b hb).1; omega), HG6, by rw [HTK.out, List.map_append, List.map_singleton, usersD_snoc]; exact om6, by show SetOk _; rw [HTK.out, List.map_append, List.map_singleton]; exact HSE.out.snoc om _, CW5.step C6 (fun i hi => .inr (by rw [List.mem_singleton] at hi; have := HS.out; omega))⟩
            case measure => simp [intOf]; omega
        · obtain rfl : k = n := by omega
          have hik : ¬ (k : Int) < k := by omega
          have HTA : Hid (T.take k = T) := by show _ = _; exact List.take_of_length_le (by rw [HN.out]; exact Nat.le_refl _)
          have hXk : X.length = k := by
            have := congrArg List.length HX.out
            rw [List.length_map, List.length_take, HN.out] at this
            omega
          have hVA : T.all validT = true := by rw [← HTA.out]; exact HV.out
          have hSE := HSE.out
          rw [HTA.out] at om hSE
          by_cases hnd : (T.map (·.u)).Nodup
          · have HR2 : Hid (r = 0) := by show r = 0; rw [← HR1.out, if_pos hVA, if_pos hnd]
            have hsz : ¬ (Maps.size (usersD (T.map (·.u))) : Int) < k := by
              have := hSE.2.2 hnd
              rw [List.length_map, HN.out] at this
              omega
            clear HR1 hnd hSE HSE hVA HV
            generalize usersD (T.map (·.u)) = D at om hsz
            go_wp2_with (first
              | (at_len; refine wpList_len_own _ rfl _ _ rfl 9 4 Tryd.underlying72 _ (s + 1) k _ rfl om ?_)
              | go_big_skip)
            go_ret2
            have hsw := HS.out
            have hbA := own.blks
            have hlt2 := HE.out.lt
            subst hXk
            exact ⟨.inl ⟨HR2.out, s, rfl, X, ⟨A1, c1, G, BX, own.rd, HE.out, newB_mem (by omega) BX.lt, fun h => by have := (hbA s h).1; omega, fun b hb => newB_mem (by have := (hbA b hb).1; omega) (hbA b hb).2, fun i hi b hb => ⟨newB_mem (by have := (HG.out i hi b hb).1; omega) (hlt2 i hi b hb), by have := (HG.out i hi b hb).1; omega, (HG.out i hi b hb).2⟩, fun b hb => (newB_ge hb).2⟩, by rw [HX.out, HTA.out], HX0.out⟩, CW⟩
          · have HR2 : Hid (r = 5) := by show r = 5; rw [← HR1.out, if_pos hVA, if_neg hnd]
            have hsz : (Maps.size (usersD (T.map (·.u))) : Int) < k := by
              have h1 := hSE.1
              have h2 := fun h => hnd (hSE.2.1 h)
              rw [List.length_map, HN.out] at h1 h2
              have : ¬ Maps.size (usersD (T.map (·.u))) = k := h2
              omega
            clear HR1 hnd hSE HSE hVA HV
            generalize usersD (T.map (·.u)) = D at om hsz
            go_wp2_with (first
              | (at_len; refine wpList_len_own _ rfl _ _ rfl 9 4 Tryd.underlying72 _ (s + 1) k _ rfl om ?_)
              | go_big_skip)
            go_ret2
            exact ⟨.inr ⟨by rw [HR2.out]; decide, by rw [HR2.out]; rfl⟩, CW⟩
end Go.Proofs.YtbmbnibamhgfmaaDoor
