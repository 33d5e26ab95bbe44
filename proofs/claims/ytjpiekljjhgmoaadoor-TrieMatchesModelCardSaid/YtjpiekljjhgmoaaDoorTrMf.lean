/- The law's entries; find (printed by mk_trmf.py). -/
import Derived.Test.YtjpiekljjhgmoaaDoorTrG
import Derived.Test.YtjpiekljjhgmoaaDoorMD
import Derived.Test.YtjpiekljjhgmoaaDoorMC
import Derived.Test.YtjpiekljjhgmoaaDoorTrC
import Derived.Deep.DeepCutAuto
import Derived.Deep.CutRange
namespace Go.Proofs.YtjpiekljjhgmoaaDoor
open Go.RowKit

abbrev Ent := Pfx × Int
def entC (e : Ent) : List Value := pfxC e.1 ++ [.int .i64 e.2]
theorem ent_len {e : Ent} (h : e.1.2.1.length = 16) : (entC e).length = 19 := by unfold entC; rw [List.length_append, pfx_len h]; rfl
theorem ent_pfx {e : Ent} {j : Nat} {v : Value} (hj : (pfxC e.1)[j]? = some v) : (entC e)[j]? = some v := by
  unfold entC
  rw [List.getElem?_append_left (List.getElem?_eq_some_iff.1 hj).1]
  exact hj
theorem ent_val {e : Ent} (h : e.1.2.1.length = 16) : (entC e)[18]? = some (.int .i64 e.2) := by
  unfold entC
  rw [List.getElem?_append_right (by rw [pfx_len h]; omega), pfx_len h]
  rfl
def idxE (p : Pfx) : List Ent → Nat → Int
  | [], _ => -1
  | x :: l, i => if x.1 = p then (i : Int) else idxE p l (i + 1)
theorem idxE_hit {p : Pfx} {x : Ent} : ∀ (l : List Ent) (i k : Nat), (∀ (j : Nat) (y : Ent), j < k → l[j]? = some y → y.1 ≠ p) → l[k]? = some x → x.1 = p → idxE p l i = (i + k : Nat)
  | [], _, _, _, h, _ => by simp at h
  | y :: l, i, 0, _, h, hc => by
    obtain rfl : y = x := by simpa using h
    rw [idxE, if_pos hc]; rfl
  | y :: l, i, k + 1, hn, h, hc => by
    have h0 := hn 0 y (by omega) rfl
    rw [idxE, if_neg h0, idxE_hit l (i + 1) k (fun j x hj hx => hn (j + 1) x (by omega) (by simpa using hx)) (by simpa using h) hc]
    congr 1; omega
theorem idxE_miss {p : Pfx} : ∀ (l : List Ent) (i : Nat), (∀ (j : Nat) (y : Ent), l[j]? = some y → y.1 ≠ p) → idxE p l i = -1
  | [], _, _ => rfl
  | y :: l, i, hn => by
    rw [idxE, if_neg (hn 0 y rfl)]
    exact idxE_miss l (i + 1) fun j x hx => hn (j + 1) x (by simpa using hx)
/-- The index that find gives, or none. -/
theorem idxE_cases (p : Pfx) (l : List Ent) : (idxE p l 0 = -1 ∧ ∀ e ∈ l, e.1 ≠ p) ∨ ∃ (k : Nat) (e : Ent), idxE p l 0 = k ∧ l[k]? = some e ∧ e.1 = p := by
  have key : ∀ (l : List Ent) (i : Nat), (idxE p l i = -1 ∧ ∀ e ∈ l, e.1 ≠ p) ∨ ∃ (k : Nat) (e : Ent), idxE p l i = (i + k : Nat) ∧ l[k]? = some e ∧ e.1 = p := by
    intro l
    induction l with
    | nil => intro i; exact .inl ⟨rfl, by simp⟩
    | cons y l ih =>
      intro i
      by_cases h : y.1 = p
      · exact .inr ⟨0, y, by rw [idxE, if_pos h]; rfl, rfl, h⟩
      · rw [idxE, if_neg h]
        rcases ih (i + 1) with ⟨h1, h2⟩ | ⟨k, e, h1, h2, h3⟩
        · refine .inl ⟨h1, fun e he => ?_⟩
          rcases List.mem_cons.1 he with rfl | he
          · exact h
          · exact h2 e he
        · exact .inr ⟨k + 1, e, by rw [h1]; congr 1; omega, by simpa using h2, h3⟩
  rcases key l 0 with h | ⟨k, e, h1, h2, h3⟩
  · exact .inl h
  · exact .inr ⟨k, e, by rw [h1, Nat.zero_add], h2, h3⟩
set_option maxRecDepth 20000 in
set_option maxHeartbeats 4000000 in
theorem lawFind (p : Pfx) (hp : p.2.1.length = 16) (w : World) (A : Option Addr) (n cap B : Nat) (l : List Ent) (h : Rd w B 19 A n (l.flatMap entC)) (hB : B ≤ w.heap.size) (hl : n ≤ 1000000) (hG : ∀ x ∈ l, x.1.2.1.length = 16) :
    Calls Tryd.prog 30 #[.slice A n cap, .agg (pfxC p).toArray] w fun e w' => e = .returned (.int .i64 (idxE p l 0)) ∧ Ch [] w w' := by
  have hf : ∀ x ∈ l, (entC x).length = 19 := fun x hx => ent_len (hG x hx)
  obtain ⟨hn, h1⟩ := h.rangeE hf (by omega)
  have HN := hid hn
  have H1 := hid h1
  have HG := hid hG
  have HI := hid (pfx_inf (p := p) hp)
  have HA := hid hp
  have BA0 : Blk (w.alloc (.cells (pfxC p).toArray 33)) w.heap.size 33 (pfxC p) := Blk.new w _ _
  have CC0 : Ch [] w (w.alloc (.cells (pfxC p).toArray 33)) := (Ch.refl _ _).alloc _
  clear h hn h1 hf hG hp
  go_enter Tryd.func30, Tryd.ntmps30
  go_wp2_with fail
  go_loopw [5] (fun i wr => ∃ k : Nat, k ≤ n ∧ i = .int .i64 k ∧ Hid (∀ (j : Nat) (x : Ent), j < k → l[j]? = some x → x.1 ≠ p) ∧ Blk wr w.heap.size 33 (pfxC p) ∧ Ch [] w wr) (fun i _ => n - (intOf i).toNat)
  case atStart => exact ⟨0, by omega, rfl, fun j x hj => absurd hj (by omega), BA0, CC0⟩
  case round =>
    clear BA0 CC0
    obtain ⟨k, hk, rfl, HH, BA, CC⟩ := hrel
    by_cases hlt : k < n
    · obtain ⟨b1, off1, rfl, hb1, hr1⟩ := H1.out (by omega)
      obtain ⟨x, hx⟩ : ∃ x, l[k]? = some x := ⟨_, List.getElem?_eq_getElem (by rw [HN.out]; exact hlt)⟩
      have hgx := HG.out x (List.mem_of_getElem? hx)
      have HR1 : Hid (∀ w', Ch [] wr w' → w'.rangeAt b1 (off1 + k * 19) (pfxC x.1)) := fun w' c j v hj => range_ch (hr1 k x hx) (CC.trans c) (by omega) (by simp) j v (ent_pfx hj)
      have HRA : Hid (∀ w', Ch [] wr w' → w'.rangeAt w.heap.size 0 (pfxC p)) := fun w' c => (BA.ch c (by simp)).range
      have HIX := hid (pfx_inf (p := x.1) hgx)
      have hq : ∀ w, (Op.equalIn 10000 33 (.agg (pfxC x.1).toArray) (.agg (pfxC p).toArray)).run Tryd.prog w = .ok (decide (x.1 = p)) w := fun w => pfx_eqD x.1 p hgx HA.out w
      have HX := hid hx
      clear hx hgx hr1 H1 hb1
      have hi0 : (0 : Int) ≤ k := by omega
      have hi1 : (k : Int) < n := by omega
      by_cases hs : x.1 = p
      · have HV := hid (idxE_hit l 0 k HH.out HX.out hs)
        rw [decide_eq_true hs] at hq
        clear hs
        generalize pfxC p = ca at BA HI HRA hq
        generalize pfxC x.1 = cx at HR1 HIX hq
        go_wp2_with fail
        refine wp_region_quietA (wr) (by kernel_rfl) (by kernel_rfl) (Ch.refl _ _) ?_
        repeat (first
          | (go_big_quiet_want; refine quiet_rowA 33 _ rfl w.heap.size 0 rfl ca _ HRA.out Tryd.underlying33 rfl HI.out ?_; simp only [Act.put, List.setIfInBounds_toArray, List.set_cons_succ, List.set_cons_zero]; go_big_quiet_on)
          | (go_big_quiet_want; refine quiet_rowA 33 _ rfl b1 (off1 + k * 19) rfl cx _ HR1.out Tryd.underlying33 rfl HIX.out ?_; simp only [Act.put, List.setIfInBounds_toArray, List.set_cons_succ, List.set_cons_zero]; go_big_quiet_on)
          | go_big_quiet_step (fail))
        refine wpQuiet_nil ?_
        intro wq hwq
        go_wp2_with fail
        go_ret
        exact ⟨by (rw [HV.out, Nat.zero_add]) <;> rfl, CC.trans hwq⟩
      · have HH2 : Hid (∀ (j : Nat) (y : Ent), j < k + 1 → l[j]? = some y → y.1 ≠ p) := fun j y hj hy => by
          by_cases e : j = k
          · subst e
            rw [HX.out] at hy
            obtain rfl := Option.some.inj hy
            exact hs
          · exact HH.out j y (by omega) hy
        rw [decide_eq_false hs] at hq
        clear hs
        obtain ⟨ca, hca⟩ : ∃ ca, pfxC p = ca := ⟨_, rfl⟩
        have HCA := hid hca
        rw [hca] at BA HI HRA
        simp only [hca] at hq
        clear hca
        generalize pfxC x.1 = cx at HR1 HIX hq
        go_wp2_with fail
        refine wp_region_quietA (wr) (by kernel_rfl) (by kernel_rfl) (Ch.refl _ _) ?_
        repeat (first
          | (go_big_quiet_want; refine quiet_rowA 33 _ rfl w.heap.size 0 rfl ca _ HRA.out Tryd.underlying33 rfl HI.out ?_; simp only [Act.put, List.setIfInBounds_toArray, List.set_cons_succ, List.set_cons_zero]; go_big_quiet_on)
          | (go_big_quiet_want; refine quiet_rowA 33 _ rfl b1 (off1 + k * 19) rfl cx _ HR1.out Tryd.underlying33 rfl HIX.out ?_; simp only [Act.put, List.setIfInBounds_toArray, List.set_cons_succ, List.set_cons_zero]; go_big_quiet_on)
          | go_big_quiet_step (fail))
        refine wpQuiet_nil ?_
        intro wq hwq
        go_wp2_with fail
        go_roundw
        case rel => exact ⟨k + 1, by omega, by go_num, HH2, by rw [HCA.out]; exact BA.ch hwq (by simp), CC.trans hwq⟩
        case measure => simp [intOf]; omega
    · obtain rfl : k = n := by omega
      have HV := hid (idxE_miss (p := p) l 0 (fun j x hx => HH.out j x (by have := (List.getElem?_eq_some_iff.1 hx).1; rw [HN.out] at this; exact this) hx))
      go_wp2_with fail
      go_ret
      exact ⟨by (rw [HV.out]) <;> rfl, CC⟩
end Go.Proofs.YtjpiekljjhgmoaaDoor
