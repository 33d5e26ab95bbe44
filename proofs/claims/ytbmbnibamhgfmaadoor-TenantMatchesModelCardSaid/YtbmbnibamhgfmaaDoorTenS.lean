/- ginnellaw14.someTenants; the tenants that it gives are valid and their users differ. -/
import Derived.Test.YtbmbnibamhgfmaaDoorTenG
namespace Go.Proofs.YtbmbnibamhgfmaaDoor
open Go.RowKit

theorem tn_infoZ : (Tryd.prog.info? 47).map (fun i => (i.zero, i.size, i.bytes)) = some (some (.agg #[.string ⟨#[]⟩, .string ⟨#[]⟩, .slice none 0 0, .int .i64 0, .int .u64 0, .int .i64 0]), 6, 80) := by kernel_rfl
theorem colon_user (i : Int) : colon (userB i) = false := by
  obtain ⟨m0, m1⟩ := modI_rng i 8 (by omega)
  unfold userB colon
  generalize modI i 8 = k at m0 m1
  obtain rfl | rfl | rfl | rfl | rfl | rfl | rfl | rfl : k = 0 ∨ k = 1 ∨ k = 2 ∨ k = 3 ∨ k = 4 ∨ k = 5 ∨ k = 6 ∨ k = 7 := by omega
  all_goals decide +kernel
theorem OkT.good {i : Int} {t : Tn} (h : OkT i t) : GoodTn t := ⟨fun r hr => (h.L r hr).2, by have := h.n; omega⟩
theorem OkT.valid {i : Int} {t : Tn} (h : OkT i t) : validT t = true := by
  have h1 : t.L.all validR = true := List.all_eq_true.2 fun r hr => (h.L r hr).1
  have h2 : credOk t.u = true := by unfold credOk; rw [h.u, userB_size]; rfl
  have h3 : credOk t.p = true := by unfold credOk; rw [h.p, passB_size]; rfl
  have h4 : colon t.u = false := by rw [h.u]; exact colon_user i
  have := h.n; have := h.b0; have := h.b1; have := h.w0; have := h.w1; have := h.m0; have := h.m1
  unfold validT
  rw [h1, h2, h3, h4]
  simp only [Bool.not_false, Bool.and_true, Bool.true_and, Bool.and_eq_true, decide_eq_true_eq]
  omega
/-- What someTenants answers. -/
structure SomeT (w : World) (B : Nat) (A : Option Addr) (c : Nat) (T : List Tn) : Prop where
  own : Own w B 47 6 A T.length c (T.flatMap tnC)
  ok : ∀ (j : Nat) t, T[j]? = some t → OkT j t
  r : ∀ t ∈ T, Own w B 61 22 t.A t.L.length t.c (t.L.flatMap rulC) ∧ ∀ b ∈ blkOf t.A, b ∉ blkOf A
theorem SomeT.ch {w w' : World} {B : Nat} {A : Option Addr} {c : Nat} {T : List Tn} {S : List Nat} (h : SomeT w B A c T) (hc : Ch S w w') (hS : ∀ b ∈ S, w.heap.size ≤ b) : SomeT w' B A c T :=
  ⟨h.own.ch hc (fun b hb hs => by have := hS b hs; have := (h.own.blks b hb).2; omega), h.ok, fun t ht => ⟨(h.r t ht).1.ch hc (fun b hb hs => by have := hS b hs; have := ((h.r t ht).1.blks b hb).2; omega), (h.r t ht).2⟩⟩
theorem SomeT.tin {w : World} {B : Nat} {A : Option Addr} {c : Nat} {T : List Tn} (h : SomeT w B A c T) : ∀ t ∈ T, TnIn w w.heap.size t := fun t ht => by
  obtain ⟨j, hj⟩ := List.getElem?_of_mem ht
  have hk := h.ok j t hj
  exact ⟨hk.good, by rw [hk.u, userB_size]; omega, by rw [hk.p, passB_size]; omega, (h.r t ht).1.rd⟩
theorem SomeT.valid {w : World} {B : Nat} {A : Option Addr} {c : Nat} {T : List Tn} (h : SomeT w B A c T) : T.all validT = true := List.all_eq_true.2 fun t ht => by
  obtain ⟨j, hj⟩ := List.getElem?_of_mem ht
  exact (h.ok j t hj).valid
theorem SomeT.users {w : World} {B : Nat} {A : Option Addr} {c : Nat} {T : List Tn} (h : SomeT w B A c T) : T.map (·.u) = (List.range T.length).map fun j : Nat => userB j := by
  apply List.ext_getElem?
  intro j
  rcases Nat.lt_or_ge j T.length with hj | hj
  · rw [List.getElem?_map, List.getElem?_map, List.getElem?_range hj, List.getElem?_eq_getElem hj]
    exact congrArg some (h.ok j _ (List.getElem?_eq_getElem hj)).u
  · rw [List.getElem?_eq_none (by simpa using hj), List.getElem?_eq_none (by simpa using hj)]
theorem SomeT.nodup {w : World} {B : Nat} {A : Option Addr} {c : Nat} {T : List Tn} (h : SomeT w B A c T) (h5 : T.length ≤ 5) : (T.map (·.u)).Nodup := by
  rw [h.users]
  generalize T.length = n at h5
  obtain rfl | rfl | rfl | rfl | rfl | rfl : n = 0 ∨ n = 1 ∨ n = 2 ∨ n = 3 ∨ n = 4 ∨ n = 5 := by omega
  all_goals decide +kernel
theorem SomeT.chk {w : World} {B : Nat} {A : Option Addr} {c : Nat} {T : List Tn} (h : SomeT w B A c T) (h1 : 1 ≤ T.length) (h5 : T.length ≤ 5) : chkT T = 0 := by
  unfold chkT
  rw [if_neg (by omega), if_pos h.valid, if_pos (h.nodup h5)]
theorem SomeT.snoc {w w' : World} {B : Nat} {A A4 : Option Addr} {c c4 : Nat} {T : List Tn} {t : Tn} (h : SomeT w B A c T) (ht : OkT T.length t) (hr : Own w B 61 22 t.A t.L.length t.c (t.L.flatMap rulC)) (hn : ∀ b ∈ blkOf t.A, b ∉ blkOf A)
    (o4 : Own w' B 47 6 A4 (T.length + 1) c4 (T.flatMap tnC ++ tnC t)) (hc : Ch (blkOf A) w w') (h4 : ∀ g ∈ blkOf A4, g ∈ blkOf A ∨ w.heap.size ≤ g) : SomeT w' B A4 c4 (T ++ [t]) := by
  refine ⟨?_, fun j x hj => ?_, fun x hx => ?_⟩
  · rw [List.length_append, List.length_singleton, List.flatMap_append]
    simpa using o4
  · rcases Nat.lt_trichotomy j T.length with hi | hi | hi
    · rw [List.getElem?_append_left hi] at hj
      exact h.ok j x hj
    · subst hi
      rw [List.getElem?_append_right (Nat.le_refl _), Nat.sub_self] at hj
      rw [← Option.some.inj hj]
      exact ht
    · rw [List.getElem?_eq_none (by rw [List.length_append, List.length_singleton]; omega)] at hj
      cases hj
  · have key : Own w B 61 22 x.A x.L.length x.c (x.L.flatMap rulC) ∧ ∀ b ∈ blkOf x.A, b ∉ blkOf A := by
      rcases List.mem_append.1 hx with h1 | h1
      · exact h.r x h1
      · rw [List.mem_singleton] at h1
        rw [h1]
        exact ⟨hr, hn⟩
    refine ⟨key.1.ch hc key.2, fun b hb h1 => ?_⟩
    rcases h4 b h1 with h2 | h2
    · exact key.2 b hb h2
    · have := (key.1.blks b hb).2
      omega
def SomeRes (w : World) (e : Ending) (w' : World) : Prop := (∃ A c T, e = .returned (.slice A T.length c) ∧ SomeT w' w.heap.size A c T ∧ 1 ≤ T.length ∧ T.length ≤ 5) ∧ Ch [] w w'
set_option maxRecDepth 100000 in
set_option maxHeartbeats 8000000 in
theorem someTen (w : World) (A : Option Addr) (n cap B : Nat) (T0 : List Tn) (h : Rd w B 6 A n (T0.flatMap tnC)) (hB : B ≤ w.heap.size) (hl : n ≤ 140737488351232) (hT : ∀ t ∈ T0, TnIn w B t ∧ 0 ≤ t.w) :
    Calls Tryd.prog 6 #[.slice A n cap] w (SomeRes w) := by
  have hrE := h.rangeE (fun t _ => tn_len t) (by decide)
  have HRE : Hid (0 < n → ∃ b off, A = some ⟨b, off, none⟩ ∧ b < w.heap.size ∧ ∀ (k : Nat) (x : Tn), T0[k]? = some x → w.rangeAt b (off + k * 6) (tnC x)) := fun hn => by
    obtain ⟨b, off, e, hb, hr⟩ := hrE.2 hn
    exact ⟨b, off, e, by omega, hr⟩
  have HN := hid hrE.1
  have HGT : Hid (∀ t ∈ T0, ∀ (i : Int) w', Ch [] w w' → Calls Tryd.prog 30 #[.agg (tnC t).toArray, .int .i64 i] w' fun e w'' => (∃ t' : Tn, e = .returned (.agg #[.string t'.u, .string t'.p, .slice t'.A t'.L.length t'.c, .int .i64 t'.b, .int .u64 t'.w, .int .i64 t'.m]) ∧ OkT i t' ∧ Own w'' w'.heap.size 61 22 t'.A t'.L.length t'.c (t'.L.flatMap rulC) ∧ ∀ b ∈ blkOf t'.A, w'.heap.size + 2 ≤ b) ∧ Ch [] w' w'') := fun t ht i w' c => genTen w' t i B (hT t ht).1.good (hT t ht).2 ((hT t ht).1.r.ch c hB (by simp)) (Nat.le_trans hB c.size)
  have HG0 : Hid (∀ w', Calls Tryd.prog 30 #[.agg #[.string ⟨#[]⟩, .string ⟨#[]⟩, .slice none 0 0, .int .i64 0, .int .u64 0, .int .i64 0], .int .i64 0] w' fun e w'' => (∃ t' : Tn, e = .returned (.agg #[.string t'.u, .string t'.p, .slice t'.A t'.L.length t'.c, .int .i64 t'.b, .int .u64 t'.w, .int .i64 t'.m]) ∧ OkT 0 t' ∧ Own w'' w'.heap.size 61 22 t'.A t'.L.length t'.c (t'.L.flatMap rulC) ∧ ∀ b ∈ blkOf t'.A, w'.heap.size + 2 ≤ b) ∧ Ch [] w' w'') := fun w' => genTen w' tn0 0 0 ⟨by simp [tn0], by simp [tn0]⟩ (by simp [tn0]) (Rd.nil _ _ _ _) (by omega)
  have HI6 := hid tn_info
  clear h hrE hT
  go_enter Tryd.func6, Tryd.ntmps6
  go_wp2_with fail
  go_loopw [3, 4] (fun out i wr => ∃ (k : Nat) (A2 : Option Addr) (c2 : Nat) (T : List Tn), out = .slice A2 k c2 ∧ i = .int .i64 k ∧ T.length = k ∧ k ≤ n ∧ k ≤ 5 ∧ Hid (SomeT wr w.heap.size A2 c2 T) ∧ Ch [] w wr) (fun _ i _ => n - (intOf i).toNat)
  case atStart => exact ⟨0, none, 0, [], rfl, rfl, rfl, by omega, by omega, ⟨Own.nil _ _ _ _, fun j t h => by simp at h, fun t h => by cases h⟩, Ch.refl _ _⟩
  case round =>
    obtain ⟨k, A2, c2, T, rfl, rfl, hTk, hk, hk5, HS, CX⟩ := hrel
    by_cases hgo : k < n ∧ k < 5
    · obtain ⟨hlt, hl5⟩ := hgo
      obtain ⟨t, ht⟩ : ∃ t, T0[k]? = some t := ⟨_, List.getElem?_eq_getElem (by rw [HN.out]; exact hlt)⟩
      obtain ⟨b, off, rfl, hb, hrx⟩ := HRE.out (by omega)
      have HRD := hid (range_ch (hrx k t ht) CX hb (by simp))
      have HGK := hid (HGT.out t (List.mem_of_getElem? ht))
      have hki : (k : Int) < n := by omega
      have hk0 : (0 : Int) ≤ k := by omega
      have hk52 : (k : Int) < 5 := by omega
      have own := HS.out.own
      have hrk : ∀ t ∈ T, ∀ b ∈ blkOf t.A, b ∉ blkOf A2 := fun t ht => (HS.out.r t ht).2
      have HRK := hid hrk
      rw [hTk] at own
      clear ht hrx hb hrk
      go_wp2_with (first
        | go_big_skip
        | (refine wpList_load_want rfl 47 _ rfl b (off + k * 6) rfl (tnC t) _ HRD.out Tryd.underlying47 rfl HI6.out ?_)
        | (go_at_call 30; (with_reducible refine (HGK.out _ _ CX).mono ?_); rintro e w5 ⟨⟨t', rfl, hok, hOW, hfr⟩, C5⟩; have HOK := hid hok; clear hok; have szr := CX.size; have hob := own.blks; replace HS : Hid (SomeT w5 w.heap.size A2 c2 T) := HS.out.ch C5 (by simp); have HOW := hid (hOW.base (B' := w.heap.size) szr); have HFR : Hid (∀ b ∈ blkOf t'.A, b ∉ blkOf A2) := fun b hb hb2 => by { have := hfr b hb; have := (hob b hb2).2; omega }; clear hOW hfr hob; replace own := own.ch C5 (by simp); replace CX := CX.trans C5; clear C5 szr)
        | (refine wpList_buildRows rfl 22 47 1 _ rfl (tnC t') _ 6 _ Tryd.underlying22 tn_infoZ (by decide) (by decide) rfl ?_)
        | (at_builtin; (refine wpList_app _ rfl (.tmp 15) (.tmp 22) _ rfl w.heap.size 47 _ 6 80 Tryd.underlying22 tn_infoZ rfl (by omega) _ _ _ _ rfl (own.alloc _) _ _ _ _ (tnC t') rfl (Rd.new w5 6 (tnC t') 1 rfl 47) (fun u hu => List.all_eq_true.1 (tn_one _) u hu) (by unfold maxLen; omega) (by omega) (by have := CX.size; simp only [World.size_alloc]; omega) ?_; intro A4 c4 w6 own6 ch6 at6)))
      have hob := own.blks
      go_roundw
      case rel => exact ⟨k + 1, A4, c4, T ++ [t'], by simp, by go_num, by simp [hTk], by omega, by omega, by
          show SomeT _ _ _ _ _
          exact HS.out.snoc (by rw [hTk]; exact HOK.out) HOW.out HFR.out (by rw [hTk]; exact own6) (((Ch.refl _ _).alloc _).trans ch6) (fun g hg => by
            rcases at6 g hg with h | h
            · exact .inl h
            · rw [World.size_alloc] at h; exact .inr (by omega)), (CX.alloc _).step ch6 (fun i hi => .inr (hob i hi).1)⟩
      case measure => simp [intOf]; omega
    · have HEND : Hid (¬ ((k : Int) < n) ∨ (k : Int) < n ∧ ¬ ((k : Int) < 5)) := by
        by_cases h1 : k < n
        · exact .inr ⟨by omega, by omega⟩
        · exact .inl (by omega)
      clear hgo
      have own := HS.out.own
      rw [hTk] at own
      rcases HEND.out with h1 | ⟨h1, h2⟩
      · by_cases h0 : k = 0
        · subst h0
          obtain rfl := List.eq_nil_of_length_eq_zero hTk
          go_wp2_with (first
            | go_big_skip
            | (go_at_call 30; (with_reducible refine (HG0.out _).mono ?_); rintro e w5 ⟨⟨t', rfl, hok, hOW, hfr⟩, C5⟩; have HOK := hid hok; clear hok; have szr := CX.size; have hob := own.blks; replace HS : Hid (SomeT w5 w.heap.size A2 c2 []) := HS.out.ch C5 (by simp); have HOW := hid (hOW.base (B' := w.heap.size) szr); have HFR : Hid (∀ b ∈ blkOf t'.A, b ∉ blkOf A2) := fun b hb hb2 => by { have := hfr b hb; have := (hob b hb2).2; omega }; clear hOW hfr hob; replace own := own.ch C5 (by simp); replace CX := CX.trans C5; clear C5 szr)
            | (refine wpList_buildRows rfl 22 47 1 _ rfl (tnC t') _ 6 _ Tryd.underlying22 tn_infoZ (by decide) (by decide) rfl ?_)
            | (at_builtin; (refine wpList_app _ rfl (.tmp 27) (.tmp 30) _ rfl w.heap.size 47 _ 6 80 Tryd.underlying22 tn_infoZ rfl (by omega) _ _ _ _ rfl (own.alloc _) _ _ _ _ (tnC t') rfl (Rd.new w5 6 (tnC t') 1 rfl 47) (fun u hu => List.all_eq_true.1 (tn_one _) u hu) (by unfold maxLen; omega) (by omega) (by have := CX.size; simp only [World.size_alloc]; omega) ?_; intro A4 c4 w6 own6 ch6 at6)))
          have hob := own.blks
          go_ret
          exact ⟨⟨A4, c4, [] ++ [t'], rfl, HS.out.snoc HOK.out HOW.out HFR.out own6 (((Ch.refl _ _).alloc _).trans ch6) (fun g hg => by
            rcases at6 g hg with h | h
            · exact .inl h
            · rw [World.size_alloc] at h; exact .inr (by omega)), by simp, by simp⟩, (CX.alloc _).step ch6 (fun i hi => .inr (hob i hi).1)⟩
        · have h0i : ((k : Int) == 0) = false := by simp; omega
          go_wp2_with go_big_skip
          go_ret
          subst hTk
          exact ⟨⟨A2, c2, T, rfl, HS.out, by omega, by omega⟩, CX⟩
      · have h0i : ((k : Int) == 0) = false := by simp; omega
        go_wp2_with go_big_skip
        go_ret
        subst hTk
        exact ⟨⟨A2, c2, T, rfl, HS.out, by omega, by omega⟩, CX⟩
end Go.Proofs.YtbmbnibamhgfmaaDoor
