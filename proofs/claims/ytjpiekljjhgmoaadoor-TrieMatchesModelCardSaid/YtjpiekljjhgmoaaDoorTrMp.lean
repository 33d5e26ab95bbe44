/- The law's put (printed by mk_trmp.py). -/
import Derived.Test.YtjpiekljjhgmoaaDoorTrMf
import Derived.Test.YtjpiekljjhgmoaaDoorTrCm
import Derived.Test.YtjpiekljjhgmoaaDoorMD
import Derived.Deep.DeepCutAuto
import Derived.Deep.CutRange
namespace Go.Proofs.YtjpiekljjhgmoaaDoor
open Go.RowKit

theorem ent_infoZ : (Tryd.prog.info? 66).map (fun i => (i.zero, i.size, i.bytes)) = some (some (Value.agg #[.bool false, .int .u8 0, .int .u8 0, .int .u8 0, .int .u8 0, .int .u8 0, .int .u8 0, .int .u8 0, .int .u8 0, .int .u8 0, .int .u8 0, .int .u8 0, .int .u8 0, .int .u8 0, .int .u8 0, .int .u8 0, .int .u8 0, .int .i64 0, .int .i64 0]), 19, 40) := by kernel_rfl
theorem ent_info : (Tryd.prog.info? 66).map (·.size) = some 19 := by kernel_rfl
theorem ent_one (e : Ent) : ∀ u ∈ entC e, u.oneCell' = true := fun u hu => by
  unfold entC at hu
  rcases List.mem_append.1 hu with h | h
  · exact List.all_eq_true.1 (pfx_one e.1) u h
  · rw [List.mem_singleton] at h
    subst h
    rfl
theorem entOwn {w : World} {B : Nat} {t : TypeId} {A : Option Addr} {n c : Nat} {acc : List Ent} {e : Ent} (h : Own w B t 19 A n c (acc.flatMap entC ++ entC e)) : Own w B t 19 A n c ((acc ++ [e]).flatMap entC) := by
  rw [List.flatMap_append]
  simpa using h
def putX : List Ent → Pfx → Int → List Ent
  | [], p, v => [(p, v)]
  | e :: l, p, v => if cmpP e.1 p = -1 then e :: putX l p v else if cmpP e.1 p = 0 then (p, v) :: l else (p, v) :: e :: l
theorem putX_map (X : List Ent) (p : Pfx) (v : Int) : (putX X p v).map (fun e => (e.1, Value.int .i64 e.2)) = putE (X.map fun e => (e.1, Value.int .i64 e.2)) p (.int .i64 v) := by
  induction X with
  | nil => rfl
  | cons a l ih =>
    unfold putX
    rw [List.map_cons]
    unfold putE
    simp only
    split
    · rw [List.map_cons, ih]
    · split <;> rfl
theorem putX_low {l : List Ent} {p : Pfx} (v : Int) (r : List Ent) (h : ∀ e ∈ l, cmpP e.1 p = -1) : putX (l ++ r) p v = l ++ putX r p v := by
  induction l with
  | nil => rfl
  | cons a l ih =>
    rw [List.cons_append, putX, if_pos (h a (List.mem_cons_self ..)), ih fun e he => h e (List.mem_cons_of_mem _ he), List.cons_append]
theorem putX_past {l : List Ent} {p : Pfx} (v : Int) (r : List Ent) (h : ∃ e ∈ l, cmpP e.1 p ≠ -1) : putX (l ++ r) p v = putX l p v ++ r := by
  induction l with
  | nil => obtain ⟨e, he, _⟩ := h; cases he
  | cons a l ih =>
    rw [List.cons_append, putX, putX]
    by_cases h1 : cmpP a.1 p = -1
    · rw [if_pos h1, if_pos h1, ih ?_, List.cons_append]
      obtain ⟨e, he, hc⟩ := h
      rcases List.mem_cons.1 he with rfl | he
      · exact absurd h1 hc
      · exact ⟨e, he, hc⟩
    · rw [if_neg h1, if_neg h1]
      split <;> rfl
/-- What put has made of the first k entries. -/
def PutInv (X : List Ent) (p : Pfx) (v : Int) (k : Nat) (dn : Bool) (acc : List Ent) : Prop :=
  if dn then acc = putX (X.take k) p v ∧ ∃ e ∈ X.take k, cmpP e.1 p ≠ -1 else acc = X.take k ∧ ∀ e ∈ X.take k, cmpP e.1 p = -1
section
variable {X : List Ent} {p : Pfx} {v : Int} {k : Nat} {acc : List Ent} {x : Ent}
theorem PutInv.zero (X : List Ent) (p : Pfx) (v : Int) : PutInv X p v 0 false [] := ⟨by simp, by simp⟩
theorem PutInv.more (h : PutInv X p v k true acc) (hx : X[k]? = some x) : PutInv X p v (k + 1) true (acc ++ [x]) := by
  obtain ⟨h1, e, he, hc⟩ := h
  show _ ∧ _
  rw [take_one hx]
  exact ⟨by rw [putX_past v _ ⟨e, he, hc⟩, h1], e, List.mem_append_left _ he, hc⟩
theorem PutInv.low (h : PutInv X p v k false acc) (hx : X[k]? = some x) (hc : cmpP x.1 p = -1) : PutInv X p v (k + 1) false (acc ++ [x]) := by
  obtain ⟨h1, h2⟩ := h
  show _ ∧ _
  rw [take_one hx]
  refine ⟨by rw [h1], fun e he => ?_⟩
  rcases List.mem_append.1 he with h | h
  · exact h2 e h
  · rw [List.mem_singleton] at h; subst h; exact hc
theorem PutInv.same (h : PutInv X p v k false acc) (hx : X[k]? = some x) (hc : cmpP x.1 p = 0) : PutInv X p v (k + 1) true (acc ++ [(p, v)]) := by
  obtain ⟨h1, h2⟩ := h
  show _ ∧ _
  rw [take_one hx, putX_low v _ h2, h1]
  exact ⟨by simp [putX, hc], x, by simp, by omega⟩
theorem PutInv.high (h : PutInv X p v k false acc) (hx : X[k]? = some x) (hc : cmpP x.1 p = 1) : PutInv X p v (k + 1) true ((acc ++ [(p, v)]) ++ [x]) := by
  obtain ⟨h1, h2⟩ := h
  show _ ∧ _
  rw [take_one hx, putX_low v _ h2, h1]
  exact ⟨by simp [putX, hc], x, by simp, by omega⟩
theorem PutInv.done (h : PutInv X p v k true acc) (hk : X.length ≤ k) : acc = putX X p v := by rw [h.1, List.take_of_length_le hk]
theorem PutInv.last (h : PutInv X p v k false acc) (hk : X.length ≤ k) : acc ++ [(p, v)] = putX X p v := by
  obtain ⟨h1, h2⟩ := h
  rw [List.take_of_length_le hk] at h1 h2
  have := putX_low v [] h2
  rw [List.append_nil] at this
  rw [this, h1]; rfl
end
set_option maxRecDepth 20000 in
set_option maxHeartbeats 16000000 in
theorem lawPut (p : Pfx) (hp : GoodA p.2.1) (v : Int) (w : World) (A : Option Addr) (n cap B : Nat) (X : List Ent) (h : Rd w B 19 A n (X.flatMap entC)) (hB : B ≤ w.heap.size) (hl : n ≤ 1000) (hG : ∀ x ∈ X, GoodA x.1.2.1) :
    Calls Tryd.prog 32 #[.slice A n cap, .agg (pfxC p).toArray, .int .i64 v] w fun e w' => ∃ A' c', e = .returned (.slice A' (putX X p v).length c') ∧ Own w' w.heap.size 66 19 A' (putX X p v).length c' ((putX X p v).flatMap entC) ∧ Ch [] w w' := by
  have hf : ∀ x ∈ X, (entC x).length = 19 := fun x hx => ent_len (hG x hx).1
  obtain ⟨hn, h1⟩ := h.rangeE hf (by omega)
  have HN := hid hn
  have H1 := hid h1
  have HG := hid hG
  have HA := hid hp
  obtain ⟨ps, pb, pn⟩ := p
  have hp16 : pb.length = 16 := hp.1
  obtain ⟨y0, y1, y2, y3, y4, y5, y6, y7, y8, y9, y10, y11, y12, y13, y14, y15, rfl⟩ := len16 hp16
  have HI : Hid ((Tryd.prog.info? 33).map (·.size) = some (List.length ([.bool ps, .int .u8 y0, .int .u8 y1, .int .u8 y2, .int .u8 y3, .int .u8 y4, .int .u8 y5, .int .u8 y6, .int .u8 y7, .int .u8 y8, .int .u8 y9, .int .u8 y10, .int .u8 y11, .int .u8 y12, .int .u8 y13, .int .u8 y14, .int .u8 y15, .int .i64 pn] : List Value))) := pfx_inf (p := (ps, [y0, y1, y2, y3, y4, y5, y6, y7, y8, y9, y10, y11, y12, y13, y14, y15], pn)) rfl
  have BA0 : Blk (w.alloc (.cells ([.bool ps, .int .u8 y0, .int .u8 y1, .int .u8 y2, .int .u8 y3, .int .u8 y4, .int .u8 y5, .int .u8 y6, .int .u8 y7, .int .u8 y8, .int .u8 y9, .int .u8 y10, .int .u8 y11, .int .u8 y12, .int .u8 y13, .int .u8 y14, .int .u8 y15, .int .i64 pn] : List Value).toArray 33)) w.heap.size 33 [.bool ps, .int .u8 y0, .int .u8 y1, .int .u8 y2, .int .u8 y3, .int .u8 y4, .int .u8 y5, .int .u8 y6, .int .u8 y7, .int .u8 y8, .int .u8 y9, .int .u8 y10, .int .u8 y11, .int .u8 y12, .int .u8 y13, .int .u8 y14, .int .u8 y15, .int .i64 pn] := Blk.new w _ _
  have CC0 : Ch [] w (w.alloc (.cells ([.bool ps, .int .u8 y0, .int .u8 y1, .int .u8 y2, .int .u8 y3, .int .u8 y4, .int .u8 y5, .int .u8 y6, .int .u8 y7, .int .u8 y8, .int .u8 y9, .int .u8 y10, .int .u8 y11, .int .u8 y12, .int .u8 y13, .int .u8 y14, .int .u8 y15, .int .i64 pn] : List Value).toArray 33)) := (Ch.refl _ _).alloc _
  obtain ⟨R, hR⟩ : ∃ R, putX X (ps, [y0, y1, y2, y3, y4, y5, y6, y7, y8, y9, y10, y11, y12, y13, y14, y15], pn) v = R := ⟨_, rfl⟩
  rw [hR]
  have HR := hid hR
  show Calls Tryd.prog 32 #[.slice A n cap, .agg #[.bool ps, .int .u8 y0, .int .u8 y1, .int .u8 y2, .int .u8 y3, .int .u8 y4, .int .u8 y5, .int .u8 y6, .int .u8 y7, .int .u8 y8, .int .u8 y9, .int .u8 y10, .int .u8 y11, .int .u8 y12, .int .u8 y13, .int .u8 y14, .int .u8 y15, .int .i64 pn], .int .i64 v] w _
  clear h hn h1 hf hG hp hp16 hR
  go_enter Tryd.func32, Tryd.ntmps32
  go_wp2_with fail
  go_loopw [7, 8, 9] (fun out dn i wr => ∃ (k : Nat) (A2 : Option Addr) (c2 : Nat) (d : Bool) (acc : List Ent), out = .slice A2 acc.length c2 ∧ dn = .bool d ∧ i = .int .i64 k ∧ k ≤ n ∧ Own wr (w.heap.size + 1) 66 19 A2 acc.length c2 (acc.flatMap entC) ∧ Hid (PutInv X (ps, [y0, y1, y2, y3, y4, y5, y6, y7, y8, y9, y10, y11, y12, y13, y14, y15], pn) v k d acc) ∧ acc.length ≤ k + (if d = true then 1 else 0) ∧ Blk wr w.heap.size 33 [.bool ps, .int .u8 y0, .int .u8 y1, .int .u8 y2, .int .u8 y3, .int .u8 y4, .int .u8 y5, .int .u8 y6, .int .u8 y7, .int .u8 y8, .int .u8 y9, .int .u8 y10, .int .u8 y11, .int .u8 y12, .int .u8 y13, .int .u8 y14, .int .u8 y15, .int .i64 pn] ∧ Ch [] w wr) (fun _ _ i _ => n - (intOf i).toNat)
  case atStart => exact ⟨0, none, 0, false, [], rfl, rfl, rfl, by omega, Own.nil _ _ _ _, PutInv.zero _ _ _, by simp, BA0, CC0⟩
  case round =>
    clear BA0 CC0
    obtain ⟨k, A2, c2, d, acc, rfl, rfl, rfl, hk, own, HP, hal, BA, CC⟩ := hrel
    by_cases hlt : k < n
    · obtain ⟨b1, off1, rfl, hb1, hr1⟩ := H1.out (by omega)
      obtain ⟨x, hx⟩ : ∃ x, X[k]? = some x := ⟨_, List.getElem?_eq_getElem (by rw [HN.out]; exact hlt)⟩
      have hgx := HG.out x (List.mem_of_getElem? hx)
      have HCM := hid (refCmpP x.1 (ps, [y0, y1, y2, y3, y4, y5, y6, y7, y8, y9, y10, y11, y12, y13, y14, y15], pn) hgx HA.out)
      have hcr := cmpP_rng x.1 (ps, [y0, y1, y2, y3, y4, y5, y6, y7, y8, y9, y10, y11, y12, y13, y14, y15], pn)
      obtain ⟨⟨qs, qb, qn⟩, qv⟩ := x
      have hq16 : qb.length = 16 := hgx.1
      obtain ⟨z0, z1, z2, z3, z4, z5, z6, z7, z8, z9, z10, z11, z12, z13, z14, z15, rfl⟩ := len16 hq16
      have HR1 : Hid (∀ w', Ch [] wr w' → w'.rangeAt b1 (off1 + k * 19) [.bool qs, .int .u8 z0, .int .u8 z1, .int .u8 z2, .int .u8 z3, .int .u8 z4, .int .u8 z5, .int .u8 z6, .int .u8 z7, .int .u8 z8, .int .u8 z9, .int .u8 z10, .int .u8 z11, .int .u8 z12, .int .u8 z13, .int .u8 z14, .int .u8 z15, .int .i64 qn]) := fun w' c j v hj => range_ch (hr1 k _ hx) (CC.trans c) (by omega) (by simp) j v (ent_pfx (e := ((qs, [z0, z1, z2, z3, z4, z5, z6, z7, z8, z9, z10, z11, z12, z13, z14, z15], qn), qv)) hj)
      have HRA : Hid (∀ w', Ch [] wr w' → w'.rangeAt w.heap.size 0 [.bool ps, .int .u8 y0, .int .u8 y1, .int .u8 y2, .int .u8 y3, .int .u8 y4, .int .u8 y5, .int .u8 y6, .int .u8 y7, .int .u8 y8, .int .u8 y9, .int .u8 y10, .int .u8 y11, .int .u8 y12, .int .u8 y13, .int .u8 y14, .int .u8 y15, .int .i64 pn]) := fun w' c => (BA.ch c (by simp)).range
      have HIX : Hid ((Tryd.prog.info? 33).map (·.size) = some (List.length ([.bool qs, .int .u8 z0, .int .u8 z1, .int .u8 z2, .int .u8 z3, .int .u8 z4, .int .u8 z5, .int .u8 z6, .int .u8 z7, .int .u8 z8, .int .u8 z9, .int .u8 z10, .int .u8 z11, .int .u8 z12, .int .u8 z13, .int .u8 z14, .int .u8 z15, .int .i64 qn] : List Value))) := pfx_inf (p := (qs, [z0, z1, z2, z3, z4, z5, z6, z7, z8, z9, z10, z11, z12, z13, z14, z15], qn)) rfl
      have HIE : Hid ((Tryd.prog.info? 66).map (·.size) = some (List.length ([.bool qs, .int .u8 z0, .int .u8 z1, .int .u8 z2, .int .u8 z3, .int .u8 z4, .int .u8 z5, .int .u8 z6, .int .u8 z7, .int .u8 z8, .int .u8 z9, .int .u8 z10, .int .u8 z11, .int .u8 z12, .int .u8 z13, .int .u8 z14, .int .u8 z15, .int .i64 qn, .int .i64 qv] : List Value))) := ent_info
      have HX := hid hx
      have hi0 : (0 : Int) ≤ k := by omega
      have hi1 : (k : Int) < n := by omega
      clear hx hgx hq16 H1 HG HR
      cases d
      · simp only [Bool.false_eq_true, if_false] at hal
        rcases hcr with hc | hc | hc
        · have HC : Hid (∀ w, Calls Tryd.prog 57 #[.agg #[.bool qs, .int .u8 z0, .int .u8 z1, .int .u8 z2, .int .u8 z3, .int .u8 z4, .int .u8 z5, .int .u8 z6, .int .u8 z7, .int .u8 z8, .int .u8 z9, .int .u8 z10, .int .u8 z11, .int .u8 z12, .int .u8 z13, .int .u8 z14, .int .u8 z15, .int .i64 qn], .agg #[.bool ps, .int .u8 y0, .int .u8 y1, .int .u8 y2, .int .u8 y3, .int .u8 y4, .int .u8 y5, .int .u8 y6, .int .u8 y7, .int .u8 y8, .int .u8 y9, .int .u8 y10, .int .u8 y11, .int .u8 y12, .int .u8 y13, .int .u8 y14, .int .u8 y15, .int .i64 pn]] w fun e w' => e = .returned (.int .i64 (-1)) ∧ Ch [] w w') := by
            show ∀ w, _
            rw [← hc]
            exact HCM.out
          have HN0 : Hid (PutInv X (ps, [y0, y1, y2, y3, y4, y5, y6, y7, y8, y9, y10, y11, y12, y13, y14, y15], pn) v (k + 1) false (acc ++ [((qs, [z0, z1, z2, z3, z4, z5, z6, z7, z8, z9, z10, z11, z12, z13, z14, z15], qn), qv)])) := HP.out.low HX.out hc
          clear hc HP
          go_upto_region 6 with fail
          refine wp_region_quietA (wr) (by kernel_rfl) (by kernel_rfl) (Ch.refl _ _) ?_
          repeat (first
            | (go_big_quiet_want; refine quiet_rowA 33 _ rfl w.heap.size 0 rfl [.bool ps, .int .u8 y0, .int .u8 y1, .int .u8 y2, .int .u8 y3, .int .u8 y4, .int .u8 y5, .int .u8 y6, .int .u8 y7, .int .u8 y8, .int .u8 y9, .int .u8 y10, .int .u8 y11, .int .u8 y12, .int .u8 y13, .int .u8 y14, .int .u8 y15, .int .i64 pn] _ HRA.out Tryd.underlying33 rfl HI.out ?_; simp only [Act.put, List.setIfInBounds_toArray, List.set_cons_succ, List.set_cons_zero]; go_big_quiet_on)
            | (go_big_quiet_want; refine quiet_rowA 33 _ rfl b1 (off1 + k * 19) rfl [.bool qs, .int .u8 z0, .int .u8 z1, .int .u8 z2, .int .u8 z3, .int .u8 z4, .int .u8 z5, .int .u8 z6, .int .u8 z7, .int .u8 z8, .int .u8 z9, .int .u8 z10, .int .u8 z11, .int .u8 z12, .int .u8 z13, .int .u8 z14, .int .u8 z15, .int .i64 qn] _ HR1.out Tryd.underlying33 rfl HIX.out ?_; simp only [Act.put, List.setIfInBounds_toArray, List.set_cons_succ, List.set_cons_zero]; go_big_quiet_on)
            | go_big_quiet_step (first
              | (go_at_call 57; with_reducible exact after_of (HC.out _))))
          refine wpQuiet_nil ?_
          intro wq hwq
          have CC := CC.trans hwq
          have BA := BA.ch hwq (by simp)
          have own := own.ch hwq (by simp)
          have HRX : Hid (wq.rangeAt b1 (off1 + k * 19) [.bool qs, .int .u8 z0, .int .u8 z1, .int .u8 z2, .int .u8 z3, .int .u8 z4, .int .u8 z5, .int .u8 z6, .int .u8 z7, .int .u8 z8, .int .u8 z9, .int .u8 z10, .int .u8 z11, .int .u8 z12, .int .u8 z13, .int .u8 z14, .int .u8 z15, .int .i64 qn, .int .i64 qv]) := range_ch (hr1 k _ HX.out) CC (by omega) (by simp)
          go_wp2_with (first
            | go_big_skip
            | (refine wpList_load_want rfl 66 _ rfl b1 (off1 + k * 19) rfl [.bool qs, .int .u8 z0, .int .u8 z1, .int .u8 z2, .int .u8 z3, .int .u8 z4, .int .u8 z5, .int .u8 z6, .int .u8 z7, .int .u8 z8, .int .u8 z9, .int .u8 z10, .int .u8 z11, .int .u8 z12, .int .u8 z13, .int .u8 z14, .int .u8 z15, .int .i64 qn, .int .i64 qv] _ HRX.out Tryd.underlying66 rfl HIE.out ?_)
            | (refine wpList_buildRows rfl 62 66 1 _ rfl [.bool qs, .int .u8 z0, .int .u8 z1, .int .u8 z2, .int .u8 z3, .int .u8 z4, .int .u8 z5, .int .u8 z6, .int .u8 z7, .int .u8 z8, .int .u8 z9, .int .u8 z10, .int .u8 z11, .int .u8 z12, .int .u8 z13, .int .u8 z14, .int .u8 z15, .int .i64 qn, .int .i64 qv] _ 19 _ Tryd.underlying62 ent_infoZ (by decide) (by decide) (by kernel_rfl) ?_)
            | (at_builtin; (refine wpList_app _ rfl (.tmp 38) (.tmp 43) _ rfl (w.heap.size + 1) 66 _ 19 40 Tryd.underlying62 ent_infoZ rfl (by omega) _ _ _ _ rfl (own.alloc _) _ _ _ _ [.bool qs, .int .u8 z0, .int .u8 z1, .int .u8 z2, .int .u8 z3, .int .u8 z4, .int .u8 z5, .int .u8 z6, .int .u8 z7, .int .u8 z8, .int .u8 z9, .int .u8 z10, .int .u8 z11, .int .u8 z12, .int .u8 z13, .int .u8 z14, .int .u8 z15, .int .i64 qn, .int .i64 qv] rfl (Rd.new wq 19 [.bool qs, .int .u8 z0, .int .u8 z1, .int .u8 z2, .int .u8 z3, .int .u8 z4, .int .u8 z5, .int .u8 z6, .int .u8 z7, .int .u8 z8, .int .u8 z9, .int .u8 z10, .int .u8 z11, .int .u8 z12, .int .u8 z13, .int .u8 z14, .int .u8 z15, .int .i64 qn, .int .i64 qv] 1 rfl _) (ent_one ((qs, [z0, z1, z2, z3, z4, z5, z6, z7, z8, z9, z10, z11, z12, z13, z14, z15], qn), qv)) (by unfold maxLen; omega) (by omega) (by simp only [World.size_alloc]; have := BA.lt; omega) ?_; intro A5 c5 w5 own5 ch5 at5)))
          go_roundw
          case rel =>
            have CA : Ch (blkOf A2) wq w5 := ((Ch.refl (blkOf A2) wq).alloc _).trans ch5
            have hob := own.blks
            refine ⟨k + 1, A5, c5, false, acc ++ [((qs, [z0, z1, z2, z3, z4, z5, z6, z7, z8, z9, z10, z11, z12, z13, z14, z15], qn), qv)], by simp, rfl, by go_num, by omega, ?_, HN0.out, by simp; omega, BA.ch CA (fun h => by have := (hob _ h).1; omega), CC.step CA (fun i hi => .inr (by have := (hob i hi).1; omega))⟩
            rw [List.length_append]
            exact entOwn own5
          case measure => simp [intOf]; omega
        · have HC : Hid (∀ w, Calls Tryd.prog 57 #[.agg #[.bool qs, .int .u8 z0, .int .u8 z1, .int .u8 z2, .int .u8 z3, .int .u8 z4, .int .u8 z5, .int .u8 z6, .int .u8 z7, .int .u8 z8, .int .u8 z9, .int .u8 z10, .int .u8 z11, .int .u8 z12, .int .u8 z13, .int .u8 z14, .int .u8 z15, .int .i64 qn], .agg #[.bool ps, .int .u8 y0, .int .u8 y1, .int .u8 y2, .int .u8 y3, .int .u8 y4, .int .u8 y5, .int .u8 y6, .int .u8 y7, .int .u8 y8, .int .u8 y9, .int .u8 y10, .int .u8 y11, .int .u8 y12, .int .u8 y13, .int .u8 y14, .int .u8 y15, .int .i64 pn]] w fun e w' => e = .returned (.int .i64 (0)) ∧ Ch [] w w') := by
            show ∀ w, _
            rw [← hc]
            exact HCM.out
          have HN0 : Hid (PutInv X (ps, [y0, y1, y2, y3, y4, y5, y6, y7, y8, y9, y10, y11, y12, y13, y14, y15], pn) v (k + 1) true (acc ++ [((ps, [y0, y1, y2, y3, y4, y5, y6, y7, y8, y9, y10, y11, y12, y13, y14, y15], pn), v)])) := HP.out.same HX.out hc
          clear hc HP
          go_upto_region 6 with fail
          refine wp_region_quietA (wr) (by kernel_rfl) (by kernel_rfl) (Ch.refl _ _) ?_
          repeat (first
            | (go_big_quiet_want; refine quiet_rowA 33 _ rfl w.heap.size 0 rfl [.bool ps, .int .u8 y0, .int .u8 y1, .int .u8 y2, .int .u8 y3, .int .u8 y4, .int .u8 y5, .int .u8 y6, .int .u8 y7, .int .u8 y8, .int .u8 y9, .int .u8 y10, .int .u8 y11, .int .u8 y12, .int .u8 y13, .int .u8 y14, .int .u8 y15, .int .i64 pn] _ HRA.out Tryd.underlying33 rfl HI.out ?_; simp only [Act.put, List.setIfInBounds_toArray, List.set_cons_succ, List.set_cons_zero]; go_big_quiet_on)
            | (go_big_quiet_want; refine quiet_rowA 33 _ rfl b1 (off1 + k * 19) rfl [.bool qs, .int .u8 z0, .int .u8 z1, .int .u8 z2, .int .u8 z3, .int .u8 z4, .int .u8 z5, .int .u8 z6, .int .u8 z7, .int .u8 z8, .int .u8 z9, .int .u8 z10, .int .u8 z11, .int .u8 z12, .int .u8 z13, .int .u8 z14, .int .u8 z15, .int .i64 qn] _ HR1.out Tryd.underlying33 rfl HIX.out ?_; simp only [Act.put, List.setIfInBounds_toArray, List.set_cons_succ, List.set_cons_zero]; go_big_quiet_on)
            | go_big_quiet_step (first
              | (go_at_call 57; with_reducible exact after_of (HC.out _))))
          refine wpQuiet_nil ?_
          intro wq hwq
          have CC := CC.trans hwq
          have BA := BA.ch hwq (by simp)
          have own := own.ch hwq (by simp)
          go_upto_region 9 with (first
            | go_big_skip
            | (refine wpList_load_want rfl 33 _ rfl w.heap.size 0 rfl [.bool ps, .int .u8 y0, .int .u8 y1, .int .u8 y2, .int .u8 y3, .int .u8 y4, .int .u8 y5, .int .u8 y6, .int .u8 y7, .int .u8 y8, .int .u8 y9, .int .u8 y10, .int .u8 y11, .int .u8 y12, .int .u8 y13, .int .u8 y14, .int .u8 y15, .int .i64 pn] _ BA.range Tryd.underlying33 rfl HI.out ?_)
            | (refine wpList_buildRows rfl 62 66 1 _ rfl [.bool ps, .int .u8 y0, .int .u8 y1, .int .u8 y2, .int .u8 y3, .int .u8 y4, .int .u8 y5, .int .u8 y6, .int .u8 y7, .int .u8 y8, .int .u8 y9, .int .u8 y10, .int .u8 y11, .int .u8 y12, .int .u8 y13, .int .u8 y14, .int .u8 y15, .int .i64 pn, .int .i64 v] _ 19 _ Tryd.underlying62 ent_infoZ (by decide) (by decide) (by kernel_rfl) ?_)
            | (at_builtin; (refine wpList_app _ rfl (.tmp 30) (.tmp 34) _ rfl (w.heap.size + 1) 66 _ 19 40 Tryd.underlying62 ent_infoZ rfl (by omega) _ _ _ _ rfl (own.alloc _) _ _ _ _ [.bool ps, .int .u8 y0, .int .u8 y1, .int .u8 y2, .int .u8 y3, .int .u8 y4, .int .u8 y5, .int .u8 y6, .int .u8 y7, .int .u8 y8, .int .u8 y9, .int .u8 y10, .int .u8 y11, .int .u8 y12, .int .u8 y13, .int .u8 y14, .int .u8 y15, .int .i64 pn, .int .i64 v] rfl (Rd.new wq 19 [.bool ps, .int .u8 y0, .int .u8 y1, .int .u8 y2, .int .u8 y3, .int .u8 y4, .int .u8 y5, .int .u8 y6, .int .u8 y7, .int .u8 y8, .int .u8 y9, .int .u8 y10, .int .u8 y11, .int .u8 y12, .int .u8 y13, .int .u8 y14, .int .u8 y15, .int .i64 pn, .int .i64 v] 1 rfl _) (ent_one ((ps, [y0, y1, y2, y3, y4, y5, y6, y7, y8, y9, y10, y11, y12, y13, y14, y15], pn), v)) (by unfold maxLen; omega) (by omega) (by simp only [World.size_alloc]; have := BA.lt; omega) ?_; intro A4 c4 w4 own4 ch4 at4)))
          have CA : Ch (blkOf A2) wq w4 := ((Ch.refl (blkOf A2) wq).alloc _).trans ch4
          have hob := own.blks
          replace CC := CC.step CA (fun i hi => .inr (by have := (hob i hi).1; omega))
          replace BA := BA.ch CA (fun h => by have := (hob _ h).1; omega)
          have HRX : Hid (w4.rangeAt b1 (off1 + k * 19) [.bool qs, .int .u8 z0, .int .u8 z1, .int .u8 z2, .int .u8 z3, .int .u8 z4, .int .u8 z5, .int .u8 z6, .int .u8 z7, .int .u8 z8, .int .u8 z9, .int .u8 z10, .int .u8 z11, .int .u8 z12, .int .u8 z13, .int .u8 z14, .int .u8 z15, .int .i64 qn, .int .i64 qv]) := range_ch (hr1 k _ HX.out) CC (by omega) (by simp)
          clear at4 ch4 CA hob own
          have own : Own w4 (w.heap.size + 1) 66 19 A4 (acc.length + 1) c4 ((acc ++ [((ps, [y0, y1, y2, y3, y4, y5, y6, y7, y8, y9, y10, y11, y12, y13, y14, y15], pn), v)]).flatMap entC) := entOwn own4
          clear own4
          go_wp2_with fail
          go_roundw
          case rel => exact ⟨k + 1, A4, c4, true, acc ++ [((ps, [y0, y1, y2, y3, y4, y5, y6, y7, y8, y9, y10, y11, y12, y13, y14, y15], pn), v)], by simp, rfl, by go_num, by omega, by rw [List.length_append]; exact own, HN0.out, by simp; omega, BA, CC⟩
          case measure => simp [intOf]; omega
        · have HC : Hid (∀ w, Calls Tryd.prog 57 #[.agg #[.bool qs, .int .u8 z0, .int .u8 z1, .int .u8 z2, .int .u8 z3, .int .u8 z4, .int .u8 z5, .int .u8 z6, .int .u8 z7, .int .u8 z8, .int .u8 z9, .int .u8 z10, .int .u8 z11, .int .u8 z12, .int .u8 z13, .int .u8 z14, .int .u8 z15, .int .i64 qn], .agg #[.bool ps, .int .u8 y0, .int .u8 y1, .int .u8 y2, .int .u8 y3, .int .u8 y4, .int .u8 y5, .int .u8 y6, .int .u8 y7, .int .u8 y8, .int .u8 y9, .int .u8 y10, .int .u8 y11, .int .u8 y12, .int .u8 y13, .int .u8 y14, .int .u8 y15, .int .i64 pn]] w fun e w' => e = .returned (.int .i64 (1)) ∧ Ch [] w w') := by
            show ∀ w, _
            rw [← hc]
            exact HCM.out
          have HN0 : Hid (PutInv X (ps, [y0, y1, y2, y3, y4, y5, y6, y7, y8, y9, y10, y11, y12, y13, y14, y15], pn) v (k + 1) true ((acc ++ [((ps, [y0, y1, y2, y3, y4, y5, y6, y7, y8, y9, y10, y11, y12, y13, y14, y15], pn), v)]) ++ [((qs, [z0, z1, z2, z3, z4, z5, z6, z7, z8, z9, z10, z11, z12, z13, z14, z15], qn), qv)])) := HP.out.high HX.out hc
          clear hc HP
          go_upto_region 6 with fail
          refine wp_region_quietA (wr) (by kernel_rfl) (by kernel_rfl) (Ch.refl _ _) ?_
          repeat (first
            | (go_big_quiet_want; refine quiet_rowA 33 _ rfl w.heap.size 0 rfl [.bool ps, .int .u8 y0, .int .u8 y1, .int .u8 y2, .int .u8 y3, .int .u8 y4, .int .u8 y5, .int .u8 y6, .int .u8 y7, .int .u8 y8, .int .u8 y9, .int .u8 y10, .int .u8 y11, .int .u8 y12, .int .u8 y13, .int .u8 y14, .int .u8 y15, .int .i64 pn] _ HRA.out Tryd.underlying33 rfl HI.out ?_; simp only [Act.put, List.setIfInBounds_toArray, List.set_cons_succ, List.set_cons_zero]; go_big_quiet_on)
            | (go_big_quiet_want; refine quiet_rowA 33 _ rfl b1 (off1 + k * 19) rfl [.bool qs, .int .u8 z0, .int .u8 z1, .int .u8 z2, .int .u8 z3, .int .u8 z4, .int .u8 z5, .int .u8 z6, .int .u8 z7, .int .u8 z8, .int .u8 z9, .int .u8 z10, .int .u8 z11, .int .u8 z12, .int .u8 z13, .int .u8 z14, .int .u8 z15, .int .i64 qn] _ HR1.out Tryd.underlying33 rfl HIX.out ?_; simp only [Act.put, List.setIfInBounds_toArray, List.set_cons_succ, List.set_cons_zero]; go_big_quiet_on)
            | go_big_quiet_step (first
              | (go_at_call 57; with_reducible exact after_of (HC.out _))))
          refine wpQuiet_nil ?_
          intro wq hwq
          have CC := CC.trans hwq
          have BA := BA.ch hwq (by simp)
          have own := own.ch hwq (by simp)
          go_upto_region 9 with (first
            | go_big_skip
            | (refine wpList_load_want rfl 33 _ rfl w.heap.size 0 rfl [.bool ps, .int .u8 y0, .int .u8 y1, .int .u8 y2, .int .u8 y3, .int .u8 y4, .int .u8 y5, .int .u8 y6, .int .u8 y7, .int .u8 y8, .int .u8 y9, .int .u8 y10, .int .u8 y11, .int .u8 y12, .int .u8 y13, .int .u8 y14, .int .u8 y15, .int .i64 pn] _ BA.range Tryd.underlying33 rfl HI.out ?_)
            | (refine wpList_buildRows rfl 62 66 1 _ rfl [.bool ps, .int .u8 y0, .int .u8 y1, .int .u8 y2, .int .u8 y3, .int .u8 y4, .int .u8 y5, .int .u8 y6, .int .u8 y7, .int .u8 y8, .int .u8 y9, .int .u8 y10, .int .u8 y11, .int .u8 y12, .int .u8 y13, .int .u8 y14, .int .u8 y15, .int .i64 pn, .int .i64 v] _ 19 _ Tryd.underlying62 ent_infoZ (by decide) (by decide) (by kernel_rfl) ?_)
            | (at_builtin; (refine wpList_app _ rfl (.tmp 30) (.tmp 34) _ rfl (w.heap.size + 1) 66 _ 19 40 Tryd.underlying62 ent_infoZ rfl (by omega) _ _ _ _ rfl (own.alloc _) _ _ _ _ [.bool ps, .int .u8 y0, .int .u8 y1, .int .u8 y2, .int .u8 y3, .int .u8 y4, .int .u8 y5, .int .u8 y6, .int .u8 y7, .int .u8 y8, .int .u8 y9, .int .u8 y10, .int .u8 y11, .int .u8 y12, .int .u8 y13, .int .u8 y14, .int .u8 y15, .int .i64 pn, .int .i64 v] rfl (Rd.new wq 19 [.bool ps, .int .u8 y0, .int .u8 y1, .int .u8 y2, .int .u8 y3, .int .u8 y4, .int .u8 y5, .int .u8 y6, .int .u8 y7, .int .u8 y8, .int .u8 y9, .int .u8 y10, .int .u8 y11, .int .u8 y12, .int .u8 y13, .int .u8 y14, .int .u8 y15, .int .i64 pn, .int .i64 v] 1 rfl _) (ent_one ((ps, [y0, y1, y2, y3, y4, y5, y6, y7, y8, y9, y10, y11, y12, y13, y14, y15], pn), v)) (by unfold maxLen; omega) (by omega) (by simp only [World.size_alloc]; have := BA.lt; omega) ?_; intro A4 c4 w4 own4 ch4 at4)))
          have CA : Ch (blkOf A2) wq w4 := ((Ch.refl (blkOf A2) wq).alloc _).trans ch4
          have hob := own.blks
          replace CC := CC.step CA (fun i hi => .inr (by have := (hob i hi).1; omega))
          replace BA := BA.ch CA (fun h => by have := (hob _ h).1; omega)
          have HRX : Hid (w4.rangeAt b1 (off1 + k * 19) [.bool qs, .int .u8 z0, .int .u8 z1, .int .u8 z2, .int .u8 z3, .int .u8 z4, .int .u8 z5, .int .u8 z6, .int .u8 z7, .int .u8 z8, .int .u8 z9, .int .u8 z10, .int .u8 z11, .int .u8 z12, .int .u8 z13, .int .u8 z14, .int .u8 z15, .int .i64 qn, .int .i64 qv]) := range_ch (hr1 k _ HX.out) CC (by omega) (by simp)
          clear at4 ch4 CA hob own
          have own : Own w4 (w.heap.size + 1) 66 19 A4 (acc.length + 1) c4 ((acc ++ [((ps, [y0, y1, y2, y3, y4, y5, y6, y7, y8, y9, y10, y11, y12, y13, y14, y15], pn), v)]).flatMap entC) := entOwn own4
          clear own4
          go_wp2_with (first
            | go_big_skip
            | (refine wpList_load_want rfl 66 _ rfl b1 (off1 + k * 19) rfl [.bool qs, .int .u8 z0, .int .u8 z1, .int .u8 z2, .int .u8 z3, .int .u8 z4, .int .u8 z5, .int .u8 z6, .int .u8 z7, .int .u8 z8, .int .u8 z9, .int .u8 z10, .int .u8 z11, .int .u8 z12, .int .u8 z13, .int .u8 z14, .int .u8 z15, .int .i64 qn, .int .i64 qv] _ HRX.out Tryd.underlying66 rfl HIE.out ?_)
            | (refine wpList_buildRows rfl 62 66 1 _ rfl [.bool qs, .int .u8 z0, .int .u8 z1, .int .u8 z2, .int .u8 z3, .int .u8 z4, .int .u8 z5, .int .u8 z6, .int .u8 z7, .int .u8 z8, .int .u8 z9, .int .u8 z10, .int .u8 z11, .int .u8 z12, .int .u8 z13, .int .u8 z14, .int .u8 z15, .int .i64 qn, .int .i64 qv] _ 19 _ Tryd.underlying62 ent_infoZ (by decide) (by decide) (by kernel_rfl) ?_)
            | (at_builtin; (refine wpList_app _ rfl (.tmp 38) (.tmp 43) _ rfl (w.heap.size + 1) 66 _ 19 40 Tryd.underlying62 ent_infoZ rfl (by omega) _ _ _ _ rfl (own.alloc _) _ _ _ _ [.bool qs, .int .u8 z0, .int .u8 z1, .int .u8 z2, .int .u8 z3, .int .u8 z4, .int .u8 z5, .int .u8 z6, .int .u8 z7, .int .u8 z8, .int .u8 z9, .int .u8 z10, .int .u8 z11, .int .u8 z12, .int .u8 z13, .int .u8 z14, .int .u8 z15, .int .i64 qn, .int .i64 qv] rfl (Rd.new w4 19 [.bool qs, .int .u8 z0, .int .u8 z1, .int .u8 z2, .int .u8 z3, .int .u8 z4, .int .u8 z5, .int .u8 z6, .int .u8 z7, .int .u8 z8, .int .u8 z9, .int .u8 z10, .int .u8 z11, .int .u8 z12, .int .u8 z13, .int .u8 z14, .int .u8 z15, .int .i64 qn, .int .i64 qv] 1 rfl _) (ent_one ((qs, [z0, z1, z2, z3, z4, z5, z6, z7, z8, z9, z10, z11, z12, z13, z14, z15], qn), qv)) (by unfold maxLen; omega) (by omega) (by simp only [World.size_alloc]; have := BA.lt; omega) ?_; intro A5 c5 w5 own5 ch5 at5)))
          go_roundw
          case rel =>
            have CA : Ch (blkOf A4) w4 w5 := ((Ch.refl (blkOf A4) w4).alloc _).trans ch5
            have hob := own.blks
            refine ⟨k + 1, A5, c5, true, (acc ++ [((ps, [y0, y1, y2, y3, y4, y5, y6, y7, y8, y9, y10, y11, y12, y13, y14, y15], pn), v)]) ++ [((qs, [z0, z1, z2, z3, z4, z5, z6, z7, z8, z9, z10, z11, z12, z13, z14, z15], qn), qv)], by simp, rfl, by go_num, by omega, ?_, HN0.out, by simp; omega, BA.ch CA (fun h => by have := (hob _ h).1; omega), CC.step CA (fun i hi => .inr (by have := (hob i hi).1; omega))⟩
            rw [List.length_append, List.length_append]
            exact entOwn own5
          case measure => simp [intOf]; omega
      · simp only [if_true] at hal
        rcases hcr with hc | hc | hc
        · have HC : Hid (∀ w, Calls Tryd.prog 57 #[.agg #[.bool qs, .int .u8 z0, .int .u8 z1, .int .u8 z2, .int .u8 z3, .int .u8 z4, .int .u8 z5, .int .u8 z6, .int .u8 z7, .int .u8 z8, .int .u8 z9, .int .u8 z10, .int .u8 z11, .int .u8 z12, .int .u8 z13, .int .u8 z14, .int .u8 z15, .int .i64 qn], .agg #[.bool ps, .int .u8 y0, .int .u8 y1, .int .u8 y2, .int .u8 y3, .int .u8 y4, .int .u8 y5, .int .u8 y6, .int .u8 y7, .int .u8 y8, .int .u8 y9, .int .u8 y10, .int .u8 y11, .int .u8 y12, .int .u8 y13, .int .u8 y14, .int .u8 y15, .int .i64 pn]] w fun e w' => e = .returned (.int .i64 (-1)) ∧ Ch [] w w') := by
            show ∀ w, _
            rw [← hc]
            exact HCM.out
          have HN0 : Hid (PutInv X (ps, [y0, y1, y2, y3, y4, y5, y6, y7, y8, y9, y10, y11, y12, y13, y14, y15], pn) v (k + 1) true (acc ++ [((qs, [z0, z1, z2, z3, z4, z5, z6, z7, z8, z9, z10, z11, z12, z13, z14, z15], qn), qv)])) := HP.out.more HX.out
          clear hc HP
          go_upto_region 6 with fail
          refine wp_region_quietA (wr) (by kernel_rfl) (by kernel_rfl) (Ch.refl _ _) ?_
          repeat (first
            | (go_big_quiet_want; refine quiet_rowA 33 _ rfl w.heap.size 0 rfl [.bool ps, .int .u8 y0, .int .u8 y1, .int .u8 y2, .int .u8 y3, .int .u8 y4, .int .u8 y5, .int .u8 y6, .int .u8 y7, .int .u8 y8, .int .u8 y9, .int .u8 y10, .int .u8 y11, .int .u8 y12, .int .u8 y13, .int .u8 y14, .int .u8 y15, .int .i64 pn] _ HRA.out Tryd.underlying33 rfl HI.out ?_; simp only [Act.put, List.setIfInBounds_toArray, List.set_cons_succ, List.set_cons_zero]; go_big_quiet_on)
            | (go_big_quiet_want; refine quiet_rowA 33 _ rfl b1 (off1 + k * 19) rfl [.bool qs, .int .u8 z0, .int .u8 z1, .int .u8 z2, .int .u8 z3, .int .u8 z4, .int .u8 z5, .int .u8 z6, .int .u8 z7, .int .u8 z8, .int .u8 z9, .int .u8 z10, .int .u8 z11, .int .u8 z12, .int .u8 z13, .int .u8 z14, .int .u8 z15, .int .i64 qn] _ HR1.out Tryd.underlying33 rfl HIX.out ?_; simp only [Act.put, List.setIfInBounds_toArray, List.set_cons_succ, List.set_cons_zero]; go_big_quiet_on)
            | go_big_quiet_step (first
              | (go_at_call 57; with_reducible exact after_of (HC.out _))))
          refine wpQuiet_nil ?_
          intro wq hwq
          have CC := CC.trans hwq
          have BA := BA.ch hwq (by simp)
          have own := own.ch hwq (by simp)
          have HRX : Hid (wq.rangeAt b1 (off1 + k * 19) [.bool qs, .int .u8 z0, .int .u8 z1, .int .u8 z2, .int .u8 z3, .int .u8 z4, .int .u8 z5, .int .u8 z6, .int .u8 z7, .int .u8 z8, .int .u8 z9, .int .u8 z10, .int .u8 z11, .int .u8 z12, .int .u8 z13, .int .u8 z14, .int .u8 z15, .int .i64 qn, .int .i64 qv]) := range_ch (hr1 k _ HX.out) CC (by omega) (by simp)
          go_wp2_with (first
            | go_big_skip
            | (refine wpList_load_want rfl 66 _ rfl b1 (off1 + k * 19) rfl [.bool qs, .int .u8 z0, .int .u8 z1, .int .u8 z2, .int .u8 z3, .int .u8 z4, .int .u8 z5, .int .u8 z6, .int .u8 z7, .int .u8 z8, .int .u8 z9, .int .u8 z10, .int .u8 z11, .int .u8 z12, .int .u8 z13, .int .u8 z14, .int .u8 z15, .int .i64 qn, .int .i64 qv] _ HRX.out Tryd.underlying66 rfl HIE.out ?_)
            | (refine wpList_buildRows rfl 62 66 1 _ rfl [.bool qs, .int .u8 z0, .int .u8 z1, .int .u8 z2, .int .u8 z3, .int .u8 z4, .int .u8 z5, .int .u8 z6, .int .u8 z7, .int .u8 z8, .int .u8 z9, .int .u8 z10, .int .u8 z11, .int .u8 z12, .int .u8 z13, .int .u8 z14, .int .u8 z15, .int .i64 qn, .int .i64 qv] _ 19 _ Tryd.underlying62 ent_infoZ (by decide) (by decide) (by kernel_rfl) ?_)
            | (at_builtin; (refine wpList_app _ rfl (.tmp 38) (.tmp 43) _ rfl (w.heap.size + 1) 66 _ 19 40 Tryd.underlying62 ent_infoZ rfl (by omega) _ _ _ _ rfl (own.alloc _) _ _ _ _ [.bool qs, .int .u8 z0, .int .u8 z1, .int .u8 z2, .int .u8 z3, .int .u8 z4, .int .u8 z5, .int .u8 z6, .int .u8 z7, .int .u8 z8, .int .u8 z9, .int .u8 z10, .int .u8 z11, .int .u8 z12, .int .u8 z13, .int .u8 z14, .int .u8 z15, .int .i64 qn, .int .i64 qv] rfl (Rd.new wq 19 [.bool qs, .int .u8 z0, .int .u8 z1, .int .u8 z2, .int .u8 z3, .int .u8 z4, .int .u8 z5, .int .u8 z6, .int .u8 z7, .int .u8 z8, .int .u8 z9, .int .u8 z10, .int .u8 z11, .int .u8 z12, .int .u8 z13, .int .u8 z14, .int .u8 z15, .int .i64 qn, .int .i64 qv] 1 rfl _) (ent_one ((qs, [z0, z1, z2, z3, z4, z5, z6, z7, z8, z9, z10, z11, z12, z13, z14, z15], qn), qv)) (by unfold maxLen; omega) (by omega) (by simp only [World.size_alloc]; have := BA.lt; omega) ?_; intro A5 c5 w5 own5 ch5 at5)))
          go_roundw
          case rel =>
            have CA : Ch (blkOf A2) wq w5 := ((Ch.refl (blkOf A2) wq).alloc _).trans ch5
            have hob := own.blks
            refine ⟨k + 1, A5, c5, true, acc ++ [((qs, [z0, z1, z2, z3, z4, z5, z6, z7, z8, z9, z10, z11, z12, z13, z14, z15], qn), qv)], by simp, rfl, by go_num, by omega, ?_, HN0.out, by simp; omega, BA.ch CA (fun h => by have := (hob _ h).1; omega), CC.step CA (fun i hi => .inr (by have := (hob i hi).1; omega))⟩
            rw [List.length_append]
            exact entOwn own5
          case measure => simp [intOf]; omega
        · have HC : Hid (∀ w, Calls Tryd.prog 57 #[.agg #[.bool qs, .int .u8 z0, .int .u8 z1, .int .u8 z2, .int .u8 z3, .int .u8 z4, .int .u8 z5, .int .u8 z6, .int .u8 z7, .int .u8 z8, .int .u8 z9, .int .u8 z10, .int .u8 z11, .int .u8 z12, .int .u8 z13, .int .u8 z14, .int .u8 z15, .int .i64 qn], .agg #[.bool ps, .int .u8 y0, .int .u8 y1, .int .u8 y2, .int .u8 y3, .int .u8 y4, .int .u8 y5, .int .u8 y6, .int .u8 y7, .int .u8 y8, .int .u8 y9, .int .u8 y10, .int .u8 y11, .int .u8 y12, .int .u8 y13, .int .u8 y14, .int .u8 y15, .int .i64 pn]] w fun e w' => e = .returned (.int .i64 (0)) ∧ Ch [] w w') := by
            show ∀ w, _
            rw [← hc]
            exact HCM.out
          have HN0 : Hid (PutInv X (ps, [y0, y1, y2, y3, y4, y5, y6, y7, y8, y9, y10, y11, y12, y13, y14, y15], pn) v (k + 1) true (acc ++ [((qs, [z0, z1, z2, z3, z4, z5, z6, z7, z8, z9, z10, z11, z12, z13, z14, z15], qn), qv)])) := HP.out.more HX.out
          clear hc HP
          go_upto_region 6 with fail
          refine wp_region_quietA (wr) (by kernel_rfl) (by kernel_rfl) (Ch.refl _ _) ?_
          repeat (first
            | (go_big_quiet_want; refine quiet_rowA 33 _ rfl w.heap.size 0 rfl [.bool ps, .int .u8 y0, .int .u8 y1, .int .u8 y2, .int .u8 y3, .int .u8 y4, .int .u8 y5, .int .u8 y6, .int .u8 y7, .int .u8 y8, .int .u8 y9, .int .u8 y10, .int .u8 y11, .int .u8 y12, .int .u8 y13, .int .u8 y14, .int .u8 y15, .int .i64 pn] _ HRA.out Tryd.underlying33 rfl HI.out ?_; simp only [Act.put, List.setIfInBounds_toArray, List.set_cons_succ, List.set_cons_zero]; go_big_quiet_on)
            | (go_big_quiet_want; refine quiet_rowA 33 _ rfl b1 (off1 + k * 19) rfl [.bool qs, .int .u8 z0, .int .u8 z1, .int .u8 z2, .int .u8 z3, .int .u8 z4, .int .u8 z5, .int .u8 z6, .int .u8 z7, .int .u8 z8, .int .u8 z9, .int .u8 z10, .int .u8 z11, .int .u8 z12, .int .u8 z13, .int .u8 z14, .int .u8 z15, .int .i64 qn] _ HR1.out Tryd.underlying33 rfl HIX.out ?_; simp only [Act.put, List.setIfInBounds_toArray, List.set_cons_succ, List.set_cons_zero]; go_big_quiet_on)
            | go_big_quiet_step (first
              | (go_at_call 57; with_reducible exact after_of (HC.out _))))
          refine wpQuiet_nil ?_
          intro wq hwq
          have CC := CC.trans hwq
          have BA := BA.ch hwq (by simp)
          have own := own.ch hwq (by simp)
          have HRX : Hid (wq.rangeAt b1 (off1 + k * 19) [.bool qs, .int .u8 z0, .int .u8 z1, .int .u8 z2, .int .u8 z3, .int .u8 z4, .int .u8 z5, .int .u8 z6, .int .u8 z7, .int .u8 z8, .int .u8 z9, .int .u8 z10, .int .u8 z11, .int .u8 z12, .int .u8 z13, .int .u8 z14, .int .u8 z15, .int .i64 qn, .int .i64 qv]) := range_ch (hr1 k _ HX.out) CC (by omega) (by simp)
          go_wp2_with (first
            | go_big_skip
            | (refine wpList_load_want rfl 66 _ rfl b1 (off1 + k * 19) rfl [.bool qs, .int .u8 z0, .int .u8 z1, .int .u8 z2, .int .u8 z3, .int .u8 z4, .int .u8 z5, .int .u8 z6, .int .u8 z7, .int .u8 z8, .int .u8 z9, .int .u8 z10, .int .u8 z11, .int .u8 z12, .int .u8 z13, .int .u8 z14, .int .u8 z15, .int .i64 qn, .int .i64 qv] _ HRX.out Tryd.underlying66 rfl HIE.out ?_)
            | (refine wpList_buildRows rfl 62 66 1 _ rfl [.bool qs, .int .u8 z0, .int .u8 z1, .int .u8 z2, .int .u8 z3, .int .u8 z4, .int .u8 z5, .int .u8 z6, .int .u8 z7, .int .u8 z8, .int .u8 z9, .int .u8 z10, .int .u8 z11, .int .u8 z12, .int .u8 z13, .int .u8 z14, .int .u8 z15, .int .i64 qn, .int .i64 qv] _ 19 _ Tryd.underlying62 ent_infoZ (by decide) (by decide) (by kernel_rfl) ?_)
            | (at_builtin; (refine wpList_app _ rfl (.tmp 38) (.tmp 43) _ rfl (w.heap.size + 1) 66 _ 19 40 Tryd.underlying62 ent_infoZ rfl (by omega) _ _ _ _ rfl (own.alloc _) _ _ _ _ [.bool qs, .int .u8 z0, .int .u8 z1, .int .u8 z2, .int .u8 z3, .int .u8 z4, .int .u8 z5, .int .u8 z6, .int .u8 z7, .int .u8 z8, .int .u8 z9, .int .u8 z10, .int .u8 z11, .int .u8 z12, .int .u8 z13, .int .u8 z14, .int .u8 z15, .int .i64 qn, .int .i64 qv] rfl (Rd.new wq 19 [.bool qs, .int .u8 z0, .int .u8 z1, .int .u8 z2, .int .u8 z3, .int .u8 z4, .int .u8 z5, .int .u8 z6, .int .u8 z7, .int .u8 z8, .int .u8 z9, .int .u8 z10, .int .u8 z11, .int .u8 z12, .int .u8 z13, .int .u8 z14, .int .u8 z15, .int .i64 qn, .int .i64 qv] 1 rfl _) (ent_one ((qs, [z0, z1, z2, z3, z4, z5, z6, z7, z8, z9, z10, z11, z12, z13, z14, z15], qn), qv)) (by unfold maxLen; omega) (by omega) (by simp only [World.size_alloc]; have := BA.lt; omega) ?_; intro A5 c5 w5 own5 ch5 at5)))
          go_roundw
          case rel =>
            have CA : Ch (blkOf A2) wq w5 := ((Ch.refl (blkOf A2) wq).alloc _).trans ch5
            have hob := own.blks
            refine ⟨k + 1, A5, c5, true, acc ++ [((qs, [z0, z1, z2, z3, z4, z5, z6, z7, z8, z9, z10, z11, z12, z13, z14, z15], qn), qv)], by simp, rfl, by go_num, by omega, ?_, HN0.out, by simp; omega, BA.ch CA (fun h => by have := (hob _ h).1; omega), CC.step CA (fun i hi => .inr (by have := (hob i hi).1; omega))⟩
            rw [List.length_append]
            exact entOwn own5
          case measure => simp [intOf]; omega
        · have HC : Hid (∀ w, Calls Tryd.prog 57 #[.agg #[.bool qs, .int .u8 z0, .int .u8 z1, .int .u8 z2, .int .u8 z3, .int .u8 z4, .int .u8 z5, .int .u8 z6, .int .u8 z7, .int .u8 z8, .int .u8 z9, .int .u8 z10, .int .u8 z11, .int .u8 z12, .int .u8 z13, .int .u8 z14, .int .u8 z15, .int .i64 qn], .agg #[.bool ps, .int .u8 y0, .int .u8 y1, .int .u8 y2, .int .u8 y3, .int .u8 y4, .int .u8 y5, .int .u8 y6, .int .u8 y7, .int .u8 y8, .int .u8 y9, .int .u8 y10, .int .u8 y11, .int .u8 y12, .int .u8 y13, .int .u8 y14, .int .u8 y15, .int .i64 pn]] w fun e w' => e = .returned (.int .i64 (1)) ∧ Ch [] w w') := by
            show ∀ w, _
            rw [← hc]
            exact HCM.out
          have HN0 : Hid (PutInv X (ps, [y0, y1, y2, y3, y4, y5, y6, y7, y8, y9, y10, y11, y12, y13, y14, y15], pn) v (k + 1) true (acc ++ [((qs, [z0, z1, z2, z3, z4, z5, z6, z7, z8, z9, z10, z11, z12, z13, z14, z15], qn), qv)])) := HP.out.more HX.out
          clear hc HP
          go_upto_region 6 with fail
          refine wp_region_quietA (wr) (by kernel_rfl) (by kernel_rfl) (Ch.refl _ _) ?_
          repeat (first
            | (go_big_quiet_want; refine quiet_rowA 33 _ rfl w.heap.size 0 rfl [.bool ps, .int .u8 y0, .int .u8 y1, .int .u8 y2, .int .u8 y3, .int .u8 y4, .int .u8 y5, .int .u8 y6, .int .u8 y7, .int .u8 y8, .int .u8 y9, .int .u8 y10, .int .u8 y11, .int .u8 y12, .int .u8 y13, .int .u8 y14, .int .u8 y15, .int .i64 pn] _ HRA.out Tryd.underlying33 rfl HI.out ?_; simp only [Act.put, List.setIfInBounds_toArray, List.set_cons_succ, List.set_cons_zero]; go_big_quiet_on)
            | (go_big_quiet_want; refine quiet_rowA 33 _ rfl b1 (off1 + k * 19) rfl [.bool qs, .int .u8 z0, .int .u8 z1, .int .u8 z2, .int .u8 z3, .int .u8 z4, .int .u8 z5, .int .u8 z6, .int .u8 z7, .int .u8 z8, .int .u8 z9, .int .u8 z10, .int .u8 z11, .int .u8 z12, .int .u8 z13, .int .u8 z14, .int .u8 z15, .int .i64 qn] _ HR1.out Tryd.underlying33 rfl HIX.out ?_; simp only [Act.put, List.setIfInBounds_toArray, List.set_cons_succ, List.set_cons_zero]; go_big_quiet_on)
            | go_big_quiet_step (first
              | (go_at_call 57; with_reducible exact after_of (HC.out _))))
          refine wpQuiet_nil ?_
          intro wq hwq
          have CC := CC.trans hwq
          have BA := BA.ch hwq (by simp)
          have own := own.ch hwq (by simp)
          have HRX : Hid (wq.rangeAt b1 (off1 + k * 19) [.bool qs, .int .u8 z0, .int .u8 z1, .int .u8 z2, .int .u8 z3, .int .u8 z4, .int .u8 z5, .int .u8 z6, .int .u8 z7, .int .u8 z8, .int .u8 z9, .int .u8 z10, .int .u8 z11, .int .u8 z12, .int .u8 z13, .int .u8 z14, .int .u8 z15, .int .i64 qn, .int .i64 qv]) := range_ch (hr1 k _ HX.out) CC (by omega) (by simp)
          go_wp2_with (first
            | go_big_skip
            | (refine wpList_load_want rfl 66 _ rfl b1 (off1 + k * 19) rfl [.bool qs, .int .u8 z0, .int .u8 z1, .int .u8 z2, .int .u8 z3, .int .u8 z4, .int .u8 z5, .int .u8 z6, .int .u8 z7, .int .u8 z8, .int .u8 z9, .int .u8 z10, .int .u8 z11, .int .u8 z12, .int .u8 z13, .int .u8 z14, .int .u8 z15, .int .i64 qn, .int .i64 qv] _ HRX.out Tryd.underlying66 rfl HIE.out ?_)
            | (refine wpList_buildRows rfl 62 66 1 _ rfl [.bool qs, .int .u8 z0, .int .u8 z1, .int .u8 z2, .int .u8 z3, .int .u8 z4, .int .u8 z5, .int .u8 z6, .int .u8 z7, .int .u8 z8, .int .u8 z9, .int .u8 z10, .int .u8 z11, .int .u8 z12, .int .u8 z13, .int .u8 z14, .int .u8 z15, .int .i64 qn, .int .i64 qv] _ 19 _ Tryd.underlying62 ent_infoZ (by decide) (by decide) (by kernel_rfl) ?_)
            | (at_builtin; (refine wpList_app _ rfl (.tmp 38) (.tmp 43) _ rfl (w.heap.size + 1) 66 _ 19 40 Tryd.underlying62 ent_infoZ rfl (by omega) _ _ _ _ rfl (own.alloc _) _ _ _ _ [.bool qs, .int .u8 z0, .int .u8 z1, .int .u8 z2, .int .u8 z3, .int .u8 z4, .int .u8 z5, .int .u8 z6, .int .u8 z7, .int .u8 z8, .int .u8 z9, .int .u8 z10, .int .u8 z11, .int .u8 z12, .int .u8 z13, .int .u8 z14, .int .u8 z15, .int .i64 qn, .int .i64 qv] rfl (Rd.new wq 19 [.bool qs, .int .u8 z0, .int .u8 z1, .int .u8 z2, .int .u8 z3, .int .u8 z4, .int .u8 z5, .int .u8 z6, .int .u8 z7, .int .u8 z8, .int .u8 z9, .int .u8 z10, .int .u8 z11, .int .u8 z12, .int .u8 z13, .int .u8 z14, .int .u8 z15, .int .i64 qn, .int .i64 qv] 1 rfl _) (ent_one ((qs, [z0, z1, z2, z3, z4, z5, z6, z7, z8, z9, z10, z11, z12, z13, z14, z15], qn), qv)) (by unfold maxLen; omega) (by omega) (by simp only [World.size_alloc]; have := BA.lt; omega) ?_; intro A5 c5 w5 own5 ch5 at5)))
          go_roundw
          case rel =>
            have CA : Ch (blkOf A2) wq w5 := ((Ch.refl (blkOf A2) wq).alloc _).trans ch5
            have hob := own.blks
            refine ⟨k + 1, A5, c5, true, acc ++ [((qs, [z0, z1, z2, z3, z4, z5, z6, z7, z8, z9, z10, z11, z12, z13, z14, z15], qn), qv)], by simp, rfl, by go_num, by omega, ?_, HN0.out, by simp; omega, BA.ch CA (fun h => by have := (hob _ h).1; omega), CC.step CA (fun i hi => .inr (by have := (hob i hi).1; omega))⟩
            rw [List.length_append]
            exact entOwn own5
          case measure => simp [intOf]; omega
    · obtain rfl : k = n := by omega
      cases d
      · simp only [Bool.false_eq_true, if_false] at hal
        have HL : Hid (acc ++ [((ps, [y0, y1, y2, y3, y4, y5, y6, y7, y8, y9, y10, y11, y12, y13, y14, y15], pn), v)] = R) := by
          show _ = _
          rw [← HR.out]
          exact HP.out.last (by rw [HN.out]; exact Nat.le_refl _)
        go_wp2_with (first
          | go_big_skip
          | (refine wpList_load_want rfl 33 _ rfl w.heap.size 0 rfl [.bool ps, .int .u8 y0, .int .u8 y1, .int .u8 y2, .int .u8 y3, .int .u8 y4, .int .u8 y5, .int .u8 y6, .int .u8 y7, .int .u8 y8, .int .u8 y9, .int .u8 y10, .int .u8 y11, .int .u8 y12, .int .u8 y13, .int .u8 y14, .int .u8 y15, .int .i64 pn] _ BA.range Tryd.underlying33 rfl HI.out ?_)
          | (refine wpList_buildRows rfl 62 66 1 _ rfl [.bool ps, .int .u8 y0, .int .u8 y1, .int .u8 y2, .int .u8 y3, .int .u8 y4, .int .u8 y5, .int .u8 y6, .int .u8 y7, .int .u8 y8, .int .u8 y9, .int .u8 y10, .int .u8 y11, .int .u8 y12, .int .u8 y13, .int .u8 y14, .int .u8 y15, .int .i64 pn, .int .i64 v] _ 19 _ Tryd.underlying62 ent_infoZ (by decide) (by decide) (by kernel_rfl) ?_)
          | (at_builtin; (refine wpList_app _ rfl (.tmp 47) (.tmp 51) _ rfl (w.heap.size + 1) 66 _ 19 40 Tryd.underlying62 ent_infoZ rfl (by omega) _ _ _ _ rfl (own.alloc _) _ _ _ _ [.bool ps, .int .u8 y0, .int .u8 y1, .int .u8 y2, .int .u8 y3, .int .u8 y4, .int .u8 y5, .int .u8 y6, .int .u8 y7, .int .u8 y8, .int .u8 y9, .int .u8 y10, .int .u8 y11, .int .u8 y12, .int .u8 y13, .int .u8 y14, .int .u8 y15, .int .i64 pn, .int .i64 v] rfl (Rd.new wr 19 [.bool ps, .int .u8 y0, .int .u8 y1, .int .u8 y2, .int .u8 y3, .int .u8 y4, .int .u8 y5, .int .u8 y6, .int .u8 y7, .int .u8 y8, .int .u8 y9, .int .u8 y10, .int .u8 y11, .int .u8 y12, .int .u8 y13, .int .u8 y14, .int .u8 y15, .int .i64 pn, .int .i64 v] 1 rfl _) (ent_one ((ps, [y0, y1, y2, y3, y4, y5, y6, y7, y8, y9, y10, y11, y12, y13, y14, y15], pn), v)) (by unfold maxLen; omega) (by omega) (by simp only [World.size_alloc]; have := BA.lt; omega) ?_; intro A4 c4 w4 own4 ch4 at4)))
        go_ret
        have CA : Ch (blkOf A2) wr w4 := ((Ch.refl (blkOf A2) wr).alloc _).trans ch4
        have hob := own.blks
        refine ⟨A4, c4, by rw [← HL.out, List.length_append]; rfl, ?_, CC.step CA (fun i hi => .inr (by have := (hob i hi).1; omega))⟩
        rw [← HL.out, List.length_append]
        exact entOwn (own4.base (B' := w.heap.size) (by omega))
      · have HL : Hid (acc = R) := by
          show _ = _
          rw [← HR.out]
          exact HP.out.done (by rw [HN.out]; exact Nat.le_refl _)
        go_wp2_with fail
        go_ret
        exact ⟨A2, c2, by (rw [HL.out]) <;> rfl, by rw [← HL.out]; exact own.base (by omega), CC⟩
end Go.Proofs.YtjpiekljjhgmoaaDoor
