/- The law's walk and the trie agree; agrees (printed by mk_trag.py). -/
import Derived.Test.YtjpiekljjhgmoaaDoorTrMw
import Derived.Test.YtjpiekljjhgmoaaDoorTrFgI
import Derived.Test.YtjpiekljjhgmoaaDoorMD
import Derived.Deep.DeepCutAuto
import Derived.Deep.CutRange
namespace Go.Proofs.YtjpiekljjhgmoaaDoor
open Go.RowKit

def toV (e : Ent) : Pfx × Value := (e.1, .int .i64 e.2)
theorem ents_ord {m : KM} {X : List Ent} (h : Ents m (X.map toV)) : X.Pairwise fun a b => cmpP a.1 b.1 = -1 := by
  have := h.ord
  rw [List.pairwise_map] at this
  exact this
theorem ents_ok {m : KM} {X : List Ent} (h : Ents m (X.map toV)) : ∀ e ∈ X, OkP e.1 := fun e he => h.ok (toV e) (List.mem_map.2 ⟨e, he, rfl⟩)
theorem cmpP_irr {p q : Pfx} (h : cmpP p q = -1) : p ≠ q := fun e => by
  subst e
  have := cmpP_anti p p
  omega
theorem filter_one {X : List Ent} (ho : X.Pairwise fun a b => cmpP a.1 b.1 = -1) {e : Ent} (he : e ∈ X) : X.filter (fun a => decide (a.1 = e.1)) = [e] := by
  obtain ⟨l1, l2, rfl⟩ := List.append_of_mem he
  rw [List.pairwise_append, List.pairwise_cons] at ho
  have h1 : l1.filter (fun a => decide (a.1 = e.1)) = [] := by
    rw [List.filter_eq_nil_iff]
    intro a ha
    have := cmpP_irr (ho.2.2 a ha e (List.mem_cons_self ..))
    simpa using this
  have h2 : l2.filter (fun a => decide (a.1 = e.1)) = [] := by
    rw [List.filter_eq_nil_iff]
    intro a ha
    have := cmpP_irr (ho.2.1.1 a ha)
    simpa using this.symm
  rw [List.filter_append, h1, List.filter_cons_of_pos (by simp), h2]
  rfl
theorem walkN_eq {m : KM} {X : List Ent} (h : Ents m (X.map toV)) {six : Bool} {bs : List Int} (hg : GoodA bs) (hv : validA six bs = true) {n : Nat} (hn : n ≤ bitN six) : walkN X six bs n = ((m (keyA six bs n)).map fun v => kPfx six bs (n, v)).toList := by
  have hnL : (n : Int) ≤ bitL six := by rw [bitN_eq]; omega
  have hok := okP_of hg hv hnL
  have hkey := keyP_of (six := six) hg hnL
  have hsel : ∀ e ∈ X, selN six bs n e = decide (e.1 = (six, truncL bs n, (n : Int))) := fun e he => by
    obtain ⟨⟨s, b, k⟩, x⟩ := e
    have hoe := ents_ok h _ he
    simp only at hoe
    rw [Bool.eq_iff_iff]
    unfold selN contP
    simp only [Bool.and_eq_true, beq_iff_eq, decide_eq_true_eq]
    constructor
    · rintro ⟨rfl, ⟨⟨_, _⟩, rfl⟩, h4⟩
      rw [h4]
    · intro e
      obtain ⟨rfl, rfl, rfl⟩ : s = six ∧ b = truncL bs n ∧ k = n := by simpa using e
      exact ⟨rfl, ⟨⟨hoe.v, hv⟩, rfl⟩, rfl⟩
  unfold walkN
  rw [List.filter_congr hsel]
  cases hm : m (keyA six bs n) with
  | some v =>
    rw [← hkey] at hm
    obtain ⟨e, he, hk⟩ := h.all _ _ hm
    obtain ⟨e', he', rfl⟩ := List.mem_map.1 he
    have heq : e'.1 = (six, truncL bs n, (n : Int)) := keyP_inj (ents_ok h _ he') hok hk
    rw [← heq, filter_one (ents_ord h) he']
    simp [kPfx, heq]
  | none =>
    rw [List.filter_eq_nil_iff.2 fun e he => ?_]
    · rfl
    · simp only [decide_eq_true_eq]
      intro heq
      have := h.mem (toV e) (List.mem_map.2 ⟨e, he, rfl⟩)
      simp only [toV] at this
      rw [heq, hkey, hm] at this
      cases this
theorem walkN_past {m : KM} {X : List Ent} (h : Ents m (X.map toV)) {six : Bool} {bs : List Int} {n : Nat} (hn : bitN six < n) : walkN X six bs n = [] := by
  unfold walkN
  rw [List.filter_eq_nil_iff.2 fun e he => ?_]
  · rfl
  · have hr := (ents_ok h _ he).rng
    unfold selN contP
    simp only [Bool.and_eq_true, beq_iff_eq, decide_eq_true_eq]
    rintro ⟨h1, ⟨_, h3⟩, _⟩
    rw [h3, bitN_eq] at hr
    omega
theorem flat_short {α : Type} {f : Nat → List α} {M N : Nat} (hMN : M ≤ N) (h : ∀ n, M ≤ n → f n = []) : (List.range N).flatMap f = (List.range M).flatMap f := by
  induction N with
  | zero => obtain rfl : M = 0 := by omega
            rfl
  | succ N ih =>
    by_cases e : M = N + 1
    · rw [e]
    · rw [List.range_succ, List.flatMap_append, ih (by omega)]
      simp [h N (by omega)]
theorem filterMap_flat {α β γ : Type} (l : List α) (f : α → Option β) (g : β → γ) : (l.filterMap f).map g = l.flatMap fun a => ((f a).map g).toList := by
  induction l with
  | nil => rfl
  | cons a l ih =>
    rw [List.flatMap_cons, ← ih]
    cases h : f a <;> simp [h]
theorem walk_eq {m : KM} {X : List Ent} (h : Ents m (X.map toV)) {six : Bool} {bs : List Int} (hg : GoodA bs) : walkL X six bs 129 = (mK m six bs).map (kPfx six bs) := by
  unfold walkL mK
  cases hv : validA six bs with
  | false =>
    have : ∀ n, walkN X six bs n = [] := fun n => by
      unfold walkN
      rw [List.filter_eq_nil_iff.2 fun e he => ?_]
      · rfl
      · unfold selN contP
        rw [hv]
        simp
    simp [this]
  | true =>
    simp only [if_true]
    have hb : bitN six + 1 ≤ 129 := by cases six <;> decide
    rw [flat_short hb (fun n hn => walkN_past h (by omega)), filterMap_flat]
    unfold List.flatMap
    congr 1
    refine List.map_congr_left fun n hn => ?_
    rw [walkN_eq h hg hv (by have := List.mem_range.1 hn; omega)]
    cases m (keyA six bs n) <;> rfl
set_option maxRecDepth 20000 in
set_option maxHeartbeats 16000000 in
theorem lawAgrees {w : World} {g : Nat} {m : KM} {N : Int} {F : List Nat} (hT : TrMI w g m N F) {X : List Ent} (hx : Ents m (X.map toV)) (A : Option Addr) (n cap B : Nat) (rd : Rd w B 19 A n (X.flatMap entC)) (hB : B ≤ w.heap.size) (hl : n ≤ 1000) (six : Bool) (bs : List Int) (hg : GoodA bs) :
    Calls Tryd.prog 35 #[.pointer (some ⟨g, 0, none⟩), .slice A n cap, .agg (addrC six bs).toArray] w fun e w' => e = .returned (.bool true) ∧ Ch [] w w' := by
  have BA : Blk (w.alloc (.cells (addrC six bs).toArray 24)) w.heap.size 24 (addrC six bs) := Blk.new w _ _
  have CC : Ch [] w (w.alloc (.cells (addrC six bs).toArray 24)) := (Ch.refl _ _).alloc _
  have HIA := hid (addr_inf (six := six) hg.1)
  have HG16 : Hid (∀ x ∈ X, GoodA x.1.2.1) := fun x hx' => (ents_ok hx x hx').g
  have HL16 : Hid (∀ x ∈ X, x.1.2.1.length = 16) := fun x hx' => (ents_ok hx x hx').g.1
  have HW := hid (walk_eq hx (six := six) hg)
  have HRD := hid (fun (w' : World) (c : Ch [] w w') => (rd.ch c hB (by simp) : Rd w' B 19 A n (X.flatMap entC)))
  have HWK : Hid (∀ w', Ch [] w w' → Calls Tryd.prog 60 #[.slice A n cap, .agg (addrC six bs).toArray] w' fun e w'' => ∃ A' c', e = .returned (.slice A' (mK m six bs).length c') ∧ Own w'' w'.heap.size 33 18 A' (mK m six bs).length c' (((mK m six bs).map (kPfx six bs)).flatMap pfxC) ∧ Ch [] w' w'') := fun w' c => by
    have := lawWalk six bs hg w' A n cap B X (HRD.out w' c) (Nat.le_trans hB c.size) hl HG16.out
    rw [HW.out, List.length_map] at this
    exact this
  have HMT : Hid (∀ w', Ch [] w w' → Calls Tryd.prog 16 #[.pointer (some ⟨g, 0, none⟩), .agg (addrC six bs).toArray] w' fun e w'' => ∃ A' c', e = .returned (.slice A' (mK m six bs).length c') ∧ Own w'' w'.heap.size 33 18 A' (mK m six bs).length c' (((mK m six bs).map (kPfx six bs)).flatMap pfxC) ∧ Ch [] w' w'') := fun w' c => by
    have := trMtsFI (hT.nil c) hg (l := mK m six bs) rfl
    rw [List.flatMap_map]
    exact this
  have HP16 : Hid (∀ p ∈ (mK m six bs).map (kPfx six bs), p.2.1.length = 16) := fun p hp => by
    obtain ⟨e, _, rfl⟩ := List.mem_map.1 hp
    exact (trunc_good hg e.1).1
  have HML : Hid ((mK m six bs).length ≤ 129) := by
    show _ ≤ _
    unfold mK
    split
    · refine Nat.le_trans (List.length_filterMap_le _ _) ?_
      rw [List.length_range]
      exact (by cases six <;> decide : bitN six + 1 ≤ 129)
    · simp
  rcases List.eq_nil_or_concat (mK m six bs) with hm | ⟨l', e0, hm⟩
  · have HLK : Hid (∀ w', Ch [] w w' → Calls Tryd.prog 14 #[.pointer (some ⟨g, 0, none⟩), .agg (addrC six bs).toArray] w' fun e w'' => e = .returned (.tuple #[.agg #[.bool false, .int .u8 0, .int .u8 0, .int .u8 0, .int .u8 0, .int .u8 0, .int .u8 0, .int .u8 0, .int .u8 0, .int .u8 0, .int .u8 0, .int .u8 0, .int .u8 0, .int .u8 0, .int .u8 0, .int .u8 0, .int .u8 0, .int .i64 0], .int .i64 0, .bool false]) ∧ Ch [] w' w'') := fun w' c => trLookNI (hT.nil c) hg hm
    have HIZ : Hid ((Tryd.prog.info? 33).map (·.size) = some (List.length ([.bool false, .int .u8 0, .int .u8 0, .int .u8 0, .int .u8 0, .int .u8 0, .int .u8 0, .int .u8 0, .int .u8 0, .int .u8 0, .int .u8 0, .int .u8 0, .int .u8 0, .int .u8 0, .int .u8 0, .int .u8 0, .int .u8 0, .int .i64 0] : List Value))) := pfx_inf (p := (false, zeros, 0)) rfl
    have hq : ∀ w, (Op.equalIn 10000 33 (.agg #[.bool false, .int .u8 0, .int .u8 0, .int .u8 0, .int .u8 0, .int .u8 0, .int .u8 0, .int .u8 0, .int .u8 0, .int .u8 0, .int .u8 0, .int .u8 0, .int .u8 0, .int .u8 0, .int .u8 0, .int .u8 0, .int .u8 0, .int .i64 0]) (.agg #[.bool false, .int .u8 0, .int .u8 0, .int .u8 0, .int .u8 0, .int .u8 0, .int .u8 0, .int .u8 0, .int .u8 0, .int .u8 0, .int .u8 0, .int .u8 0, .int .u8 0, .int .u8 0, .int .u8 0, .int .u8 0, .int .u8 0, .int .i64 0])).run Tryd.prog w = .ok true w := fun w => pfx_same (false, zeros, 0) rfl w
    rw [hm] at HWK HMT HP16 HML
    simp only [List.length_nil, List.map_nil, List.flatMap_nil] at HWK HMT
    generalize addrC six bs = ac at *
    clear hT hx rd hm hg
    go_enter Tryd.func35, Tryd.ntmps35
    go_upto_region 3 with (first
      | (refine wpList_load_want rfl 24 _ rfl w.heap.size 0 rfl ac _ BA.range Tryd.underlying24 rfl HIA.out ?_)
      | (go_at_call 60; (with_reducible refine (HWK.out _ CC).mono ?_); rintro e w1 ⟨A1, c1, rfl, own1, C⟩; replace BA := BA.ch C (by simp); replace CC := CC.trans C; clear C)
      | (go_at_call 14; (with_reducible refine (HLK.out _ CC).mono ?_); rintro e w2 ⟨rfl, C⟩; replace BA := BA.ch C (by simp); replace CC := CC.trans C; replace own1 := own1.ch C (by simp); clear C)
      | (refine wpList_storeB rfl 33 _ _ rfl w2.heap.size 33 (pfxC (false, zeros, 0)) [.bool false, .int .u8 0, .int .u8 0, .int .u8 0, .int .u8 0, .int .u8 0, .int .u8 0, .int .u8 0, .int .u8 0, .int .u8 0, .int .u8 0, .int .u8 0, .int .u8 0, .int .u8 0, .int .u8 0, .int .u8 0, .int .u8 0, .int .i64 0] rfl rfl (Blk.new _ _ _) HIZ.out rfl (pfx_one (false, zeros, 0)) ?_; intro w3 PP C9 Z9; clear Z9; have C := ((Ch.refl [] w2).alloc _).step C9 (fun i hi => .inr (by simp at hi; omega)); replace BA := BA.ch C (by simp); replace CC := CC.trans C; replace own1 := own1.ch C (by simp); clear C C9))
    generalize w2.heap.size = gp at PP ⊢
    have rd1 := own1.rd
    go_wp2_with (first
      | go_big_skip
      | (refine wpList_load_want rfl 24 _ rfl w.heap.size 0 rfl ac _ BA.range Tryd.underlying24 rfl HIA.out ?_)
      | (refine wpList_load_want rfl 33 _ rfl gp 0 rfl [.bool false, .int .u8 0, .int .u8 0, .int .u8 0, .int .u8 0, .int .u8 0, .int .u8 0, .int .u8 0, .int .u8 0, .int .u8 0, .int .u8 0, .int .u8 0, .int .u8 0, .int .u8 0, .int .u8 0, .int .u8 0, .int .u8 0, .int .i64 0] _ PP.range Tryd.underlying33 rfl HIZ.out ?_)
      | (go_at_call 16; (with_reducible refine (HMT.out _ CC).mono ?_); rintro e w4 ⟨A2, c2, rfl, own2, C⟩; replace PP := PP.ch C (by simp); replace CC := CC.trans C; have rd2 := rd1.ch C (Nat.le_refl _) (by simp); have sz4 := C.size; clear C)
      | (go_at_call 21; (with_reducible refine (eqEqP _ A2 A1 0 c2 c1 _ _ [] own2.rd rd2 (Nat.le_refl _) sz4 (by omega) (by simp)).mono ?_); rintro e w5 ⟨rfl, C⟩; replace PP := PP.ch C (by simp); replace CC := CC.trans C; clear C))
    go_ret
    exact ⟨rfl, CC⟩
  · rw [List.concat_eq_append] at hm
    obtain ⟨ln, hln⟩ : ∃ ln, l'.length = ln := ⟨_, rfl⟩
    have hlen : (mK m six bs).length = ln + 1 := by rw [hm]; simp [hln]
    obtain ⟨q, hqe⟩ : ∃ q, kPfx six bs e0 = q := ⟨_, rfl⟩
    have hmem : e0 ∈ mK m six bs := by rw [hm]; simp
    have hval : validA six bs = true ∧ m (keyA six bs e0.1) = some e0.2 ∧ e0.1 ≤ bitN six := by
      unfold mK at hmem
      split at hmem
      · rename_i hv
        rw [List.mem_filterMap] at hmem
        obtain ⟨k, hk, he⟩ := hmem
        cases hmk : m (keyA six bs k) with
        | none => rw [hmk] at he; cases he
        | some v =>
          rw [hmk] at he
          obtain rfl := Option.some.inj he
          exact ⟨hv, hmk, by have := List.mem_range.1 hk; simp only; omega⟩
      · cases hmem
    obtain ⟨hv, hmv, hke⟩ := hval
    have hkL : (e0.1 : Int) ≤ bitL six := by rw [bitN_eq]; omega
    have hokq : OkP q := by rw [← hqe]; exact okP_of hg hv hkL
    have hkq : keyP q = keyA six bs e0.1 := by rw [← hqe]; exact keyP_of hg hkL
    obtain ⟨j, ej, hj1, hj2, hj3⟩ : ∃ (j : Nat) (ej : Ent), idxE q X 0 = j ∧ X[j]? = some ej ∧ ej.1 = q := by
      rcases idxE_cases q X with ⟨_, h2⟩ | h
      · obtain ⟨e', he', hk'⟩ := hx.all _ _ hmv
        obtain ⟨e, he, rfl⟩ := List.mem_map.1 he'
        exact absurd (keyP_inj (ents_ok hx e he) hokq (by rw [hkq]; exact hk')) (h2 e he)
      · exact h
    have hv2 : e0.2 = .int .i64 ej.2 := by
      have h1 := hx.mem (toV ej) (List.mem_map.2 ⟨ej, List.mem_of_getElem? hj2, rfl⟩)
      simp only [toV] at h1
      rw [hj3, hkq, hmv] at h1
      exact Option.some.inj h1
    have HLK : Hid (∀ w', Ch [] w w' → Calls Tryd.prog 14 #[.pointer (some ⟨g, 0, none⟩), .agg (addrC six bs).toArray] w' fun e w'' => e = .returned (.tuple #[.agg (pfxC q).toArray, .int .i64 ej.2, .bool true]) ∧ Ch [] w' w'') := fun w' c => by
      have := trLookSI (hT.nil c) hg hm
      rw [hqe, hv2] at this
      exact this
    have HFD : Hid (∀ w', Ch [] w w' → Calls Tryd.prog 30 #[.slice A n cap, .agg (pfxC q).toArray] w' fun e w'' => e = .returned (.int .i64 j) ∧ Ch [] w' w'') := fun w' c => by
      have := lawFind q hokq.g.1 w' A n cap B X (HRD.out w' c) (Nat.le_trans hB c.size) (by omega) HL16.out
      rw [hj1] at this
      exact this
    have HLW : Hid (((mK m six bs).map (kPfx six bs))[ln]? = some q) := by
      show _ = _
      rw [hm, List.map_append, List.getElem?_append_right (by rw [List.length_map, hln]; exact Nat.le_refl _), List.length_map, hln, Nat.sub_self]
      simp [hqe]
    rw [hlen] at HWK HMT HML
    generalize (mK m six bs).map (kPfx six bs) = LL at HWK HMT HP16 HLW
    have hfx : ∀ x ∈ X, (entC x).length = 19 := fun x hx' => ent_len (HL16.out x hx')
    obtain ⟨hnX, hRX⟩ := rd.rangeE hfx (by omega)
    have hjn : j < n := by
      have := (List.getElem?_eq_some_iff.1 hj2).1
      omega
    obtain ⟨bX, oX, rfl, hbX, hrX⟩ := hRX (by omega)
    have hcX : ∀ w', Ch [] w w' → w'.cell? ⟨bX, oX + j * 19 + 18, none⟩ = some (.int .i64 ej.2) := fun w' c => range_ch (hrX j ej hj2) c (by omega) (by simp) 18 _ (ent_val (HL16.out ej (List.mem_of_getElem? hj2)))
    have HCX := hid hcX
    have HIQ := hid (pfx_inf (p := q) hokq.g.1)
    have HLQ : Hid ((pfxC (false, zeros, 0)).length = (pfxC q).length) := by show _ = _; rw [pfx_len hokq.g.1]; rfl
    have hq : ∀ w, (Op.equalIn 10000 33 (.agg (pfxC q).toArray) (.agg (pfxC q).toArray)).run Tryd.prog w = .ok true w := fun w => pfx_same q hokq.g.1 w
    generalize ej.2 = vj at HLK HCX
    generalize addrC six bs = ac at *
    have HL1 : Hid (ln + 1 ≤ 140737488351232) := Nat.le_trans HML.out (by decide)
    have hln9 : ln + 1 ≤ 129 := HML.out
    have HJ : Hid (j < n) := hjn
    clear hT hx rd hm hg hlen hmem hv hmv hke hkL hokq hkq hj1 hj2 hj3 hv2 hfx hnX hRX hrX hcX hbX hqe hln
    go_enter Tryd.func35, Tryd.ntmps35
    go_upto_region 3 with (first
      | (refine wpList_load_want rfl 24 _ rfl w.heap.size 0 rfl ac _ BA.range Tryd.underlying24 rfl HIA.out ?_)
      | (go_at_call 60; (with_reducible refine (HWK.out _ CC).mono ?_); rintro e w1 ⟨A1, c1, rfl, own1, C⟩; replace BA := BA.ch C (by simp); replace CC := CC.trans C; clear C)
      | (go_at_call 14; (with_reducible refine (HLK.out _ CC).mono ?_); rintro e w2 ⟨rfl, C⟩; replace BA := BA.ch C (by simp); replace CC := CC.trans C; replace own1 := own1.ch C (by simp); clear C)
      | (refine wpList_storeB rfl 33 _ _ rfl w2.heap.size 33 (pfxC (false, zeros, 0)) (pfxC q) rfl rfl (Blk.new _ _ _) HIQ.out HLQ.out (pfx_one q) ?_; intro w3 PP C9 Z9; clear Z9; have C := ((Ch.refl [] w2).alloc _).step C9 (fun i hi => .inr (by simp at hi; omega)); replace BA := BA.ch C (by simp); replace CC := CC.trans C; replace own1 := own1.ch C (by simp); clear C C9))
    generalize w2.heap.size = gp at PP ⊢
    have rd1 := own1.rd
    go_upto_region 7 with (first
      | go_big_skip
      | (refine wpList_load_want rfl 24 _ rfl w.heap.size 0 rfl ac _ BA.range Tryd.underlying24 rfl HIA.out ?_)
      | (go_at_call 16; (with_reducible refine (HMT.out _ CC).mono ?_); rintro e w4 ⟨A2, c2, rfl, own2, C⟩; replace PP := PP.ch C (by simp); replace CC := CC.trans C; have rd2 := rd1.ch C (Nat.le_refl _) (by simp); have sz4 := C.size; clear C)
      | (go_at_call 21; (with_reducible refine (eqEqP _ A2 A1 (ln + 1) c2 c1 _ _ LL own2.rd rd2 (Nat.le_refl _) sz4 HL1.out HP16.out).mono ?_); rintro e w5 ⟨rfl, C⟩; replace PP := PP.ch C (by simp); replace CC := CC.trans C; have rd3 := rd2.ch C sz4 (by simp); have sz5 := C.size; clear C))
    obtain ⟨_, hr3⟩ := rd3.rangeE (fun p hp => pfx_len (HP16.out p hp)) (by omega)
    obtain ⟨b3, o3, rfl, hb3, hr3⟩ := hr3 (by omega)
    have HR3 : Hid (∀ w', Ch [] w5 w' → w'.rangeAt b3 (o3 + ln * 18) (pfxC q)) := fun w' c => range_ch (hr3 ln q HLW.out) c (by omega) (by simp)
    have HRP : Hid (∀ w', Ch [] w5 w' → w'.rangeAt gp 0 (pfxC q)) := fun w' c => (PP.ch c (by simp)).range
    have kX : ∀ y : After w5, y.w.cell? ⟨bX, oX + j * 19 + 18, none⟩ = some (.int .i64 vj) := fun y => HCX.out _ (CC.trans y.ch)
    have HFA : Hid (∀ y : After w5, Calls Tryd.prog 30 #[.slice (some ⟨bX, oX, none⟩) n cap, .agg (pfxC q).toArray] y.w fun e w'' => e = .returned (.int .i64 j) ∧ Ch [] y.w w'') := fun y => HFD.out _ (CC.trans y.ch)
    have hj0 : (0 : Int) ≤ j := by omega
    have hj1 : (j : Int) < n := by have := HJ.out; omega
    have hl0 : (0 : Int) ≤ ln := Int.natCast_nonneg ln
    have hwl : wrap64 (ln : Int) = ln := w64 _ ⟨by omega, by omega⟩
    have hl1 : (ln : Int) < ln + 1 := by omega
    generalize pfxC q = cq at PP HIQ HR3 HRP HFA hq
    clear hr3 hb3
    refine wp_region_quietA (w5) (by kernel_rfl) (by kernel_rfl) (Ch.refl _ _) ?_
    repeat (first
      | (go_big_quiet_want; refine quiet_rowA 33 _ rfl gp 0 rfl cq _ HRP.out Tryd.underlying33 rfl HIQ.out ?_; simp only [Act.put, List.setIfInBounds_toArray, List.set_cons_succ, List.set_cons_zero]; go_big_quiet_on)
      | (go_big_quiet_want; refine quiet_rowA 33 _ rfl b3 (o3 + ln * 18) rfl cq _ HR3.out Tryd.underlying33 rfl HIQ.out ?_; simp only [Act.put, List.setIfInBounds_toArray, List.set_cons_succ, List.set_cons_zero]; go_big_quiet_on)
      | go_big_quiet_step (first
        | (go_at_call 30; with_reducible exact after_of (HFA.out _))))
    refine wpQuiet_nil ?_
    intro wq hwq
    go_wp2_with fail
    go_ret
    exact ⟨rfl, CC.trans hwq⟩
end Go.Proofs.YtjpiekljjhgmoaaDoor
