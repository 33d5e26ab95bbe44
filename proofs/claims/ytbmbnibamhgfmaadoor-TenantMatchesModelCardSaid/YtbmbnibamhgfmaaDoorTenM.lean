/- The methods of tenant.Registry, over a registry in memory. -/
import Derived.Test.YtbmbnibamhgfmaaDoorTenN
namespace Go.Proofs.YtbmbnibamhgfmaaDoor
open Go.RowKit

theorem EntM.setAct {w : World} {g : Nat} {t : Tn} {bd : Bud} {act : Int} {FF : List Nat} (h : EntM w g t bd act FF) (a : Int) : EntM (w.setCell ⟨g, 8, none⟩ (.int .i64 a)) g t bd a FF ∧ Ch [g] w (w.setCell ⟨g, 8, none⟩ (.int .i64 a)) ∧ g ∈ FF := by
  obtain ⟨ga, gb, F, h1, h2, h3, h4, h5, h6, h7, h8, h9, h10⟩ := h
  have hc : Ch [g] w (w.setCell ⟨g, 8, none⟩ (.int .i64 a)) := (Ch.refl [g] w).setCell (p := ⟨g, 8, none⟩) (.inl (by simp)) _
  exact ⟨⟨ga, gb, F, h1.set 8 (.int .i64 a), h2.ch hc (fun b hb h => by rw [List.mem_singleton] at h; subst h; exact h5 hb), h3.far (p := ⟨g, 8, none⟩) (by simpa using fun e => h4 e.symm) _, h4, h5, h6, h7, h8, h9, fun b hb => Nat.lt_of_lt_of_le (h10 b hb) hc.size⟩, hc, h7⟩
theorem EnsM.put {w w' : World} {X : List En} {G : Nat → List Nat} {S : List Nat} (h : EnsM w X G) {i : Nat} {e' : En} (hi : i < X.length) (hc : Ch S w w') (hS : ∀ b ∈ S, b ∈ G i) (he : EntM w' e'.g e'.t e'.bd e'.act (G i)) : EnsM w' (X.set i e') G := by
  have hap : ∀ j, j < X.length → j ≠ i → ∀ b ∈ G j, b ∉ S := fun j hj hn b hb hs => by
    rcases Nat.lt_or_ge j i with h1 | h1
    · exact h.apart j i h1 hi b hb (hS b hs)
    · exact h.apart i j (by omega) hj b (hS b hs) hb
  refine ⟨fun j e hj => ?_, fun j k hjk hk => h.apart j k hjk (by rwa [List.length_set] at hk)⟩
  by_cases hji : j = i
  · subst hji
    rw [List.getElem?_set_self hi] at hj
    rw [← Option.some.inj hj]; exact he
  · rw [List.getElem?_set_ne (fun x => hji x.symm)] at hj
    exact (h.get j e hj).ch hc (hap j (List.getElem?_eq_some_iff.1 hj).1 hji)
section
variable {w w' : World} {g : Nat} {X : List En} {FF S : List Nat}
theorem RegM.lt (h : RegM w g X FF) : ∀ b ∈ FF, b < w.heap.size := by
  obtain ⟨_, _, _, _, _, _, _, _, _, _, h⟩ := h
  exact h
theorem RegM.g_lt (h : RegM w g X FF) : g < w.heap.size := by
  obtain ⟨_, _, _, h1, _⟩ := h
  exact h1.lt
theorem RegM.ch (h : RegM w g X FF) (hc : Ch S w w') (hS : ∀ b ∈ FF, b ∉ S) : RegM w' g X FF := by
  obtain ⟨A, c, G, h1, h2, h3, h4, h5, h6, h7, h8⟩ := h
  exact ⟨A, c, G, h1.ch hc (hS _ h4), (h2.ch hc (Nat.le_refl _) (fun b hb => hS _ (h6 b hb))).more hc.size, h3.ch hc (fun i hi b hb => hS _ (h7 i hi b hb).1), h4, h5, h6, h7, fun b hb => Nat.lt_of_lt_of_le (h8 b hb) hc.size⟩
theorem RegM.nil (h : RegM w g X FF) (hc : Ch [] w w') : RegM w' g X FF := h.ch hc (fun _ _ => by simp)
theorem RegM.entry (h : RegM w g X FF) {i : Nat} {e : En} (hi : X[i]? = some e) : ∃ Gi : List Nat, EntM w e.g e.t e.bd e.act Gi ∧ (∀ b ∈ Gi, b ∈ FF) ∧
    (∀ w' e' S, Ch S w w' → (∀ b ∈ S, b ∈ Gi) → EntM w' e'.g e'.t e'.bd e'.act Gi → e'.g = e.g → RegM w' g (X.set i e') FF) := by
  obtain ⟨A, c, G, h1, h2, h3, h4, h5, h6, h7, h8⟩ := h
  obtain ⟨hlt, he⟩ := List.getElem?_eq_some_iff.1 hi
  refine ⟨G i, h3.get i e hi, fun b hb => (h7 i hlt b hb).1, fun w' e' S hc hS hE hg => ⟨A, c, G, ?_, ?_, h3.put hlt hc hS hE, h4, h5, h6, fun j hj => h7 j (by rwa [List.length_set] at hj), fun b hb => Nat.lt_of_lt_of_le (h8 b hb) hc.size⟩⟩
  · rw [List.length_set]
    exact h1.ch hc (fun hb => (h7 i hlt g (hS g hb)).2.1 rfl)
  · have e1 : (X.set i e').map enP = X.map enP := by
      rw [List.map_set]
      have : (X.map enP)[i]'(by simpa using hlt) = enP e' := by simp [he, enP, hg]
      rw [← this, List.set_getElem_self]
    rw [List.length_set, e1]
    exact (h2.ch hc (Nat.le_refl _) (fun b hb hs => (h7 i hlt b (hS b hs)).2.2 hb)).more hc.size
theorem RegM.slot (h : RegM w g X FF) : ∃ A c, w.cell? ⟨g, 0, none⟩ = some (.slice A X.length c) ∧ ∀ (i : Nat) (e : En), X[i]? = some e → ∃ b off, A = some ⟨b, off, none⟩ ∧ w.cell? ⟨b, off + i, none⟩ = some (enP e) := by
  obtain ⟨A, c, G, h1, h2, _⟩ := h
  refine ⟨A, c, h1.cell 0, fun i e hi => ?_⟩
  obtain ⟨b, off, v, hA, _, hv, hc⟩ := h2.at_ (k := i) (List.getElem?_eq_some_iff.1 hi).1
  rw [List.getElem?_map, hi] at hv
  exact ⟨b, off, hA, hc.trans (by rw [← Option.some.inj hv])⟩
end
section
variable {w : World} {g : Nat} {X : List En} {FF : List Nat}
theorem regLook (h : RegM w g X FF) {i : Nat} {e : En} (hi : X[i]? = some e) : Calls Tryd.prog 32 #[.pointer (some ⟨g, 0, none⟩), .int .i64 i] w fun r w' => r = .returned (enP e) ∧ w = w' := by
  obtain ⟨A, c, c0, hs⟩ := h.slot
  obtain ⟨b, off, rfl, c1⟩ := hs i e hi
  have hlt := (List.getElem?_eq_some_iff.1 hi).1
  have h0 : ¬ (i : Int) < 0 := by omega
  have h1 : ¬ (i : Int) ≥ X.length := by omega
  clear h hs hi
  go_enter Tryd.func32, Tryd.ntmps32
  go_wp2_with go_big_skip
  go_ret
  exact ⟨rfl, rfl⟩
theorem regLookNo (h : RegM w g X FF) (i : Int) (hi : i < 0 ∨ (X.length : Int) ≤ i) : Calls Tryd.prog 32 #[.pointer (some ⟨g, 0, none⟩), .int .i64 i] w fun r w' => r = .returned (.pointer none) ∧ w = w' := by
  obtain ⟨A, c, c0, hs⟩ := h.slot
  clear h hs
  by_cases h0 : i < 0
  · clear hi
    go_enter Tryd.func32, Tryd.ntmps32
    go_wp2_with go_big_skip
    go_ret
    exact ⟨rfl, rfl⟩
  · have h1 : i ≥ X.length := by omega
    clear hi
    go_enter Tryd.func32, Tryd.ntmps32
    go_wp2_with go_big_skip
    go_ret
    exact ⟨rfl, rfl⟩
theorem regACL (h : RegM w g X FF) {i : Nat} {e : En} (hi : X[i]? = some e) : Calls Tryd.prog 33 #[.pointer (some ⟨g, 0, none⟩), .int .i64 i] w fun r w' => (∃ ga F, r = .returned (.pointer (some ⟨ga, 0, none⟩)) ∧ AclM w ga e.t.L F ∧ ∀ b ∈ F, b ∈ FF) ∧ w = w' := by
  obtain ⟨Gi, hE, hG, _⟩ := h.entry hi
  obtain ⟨ga, gb, F, h1, h2, h3, h4, h5, h6, h7, h8, h9, h10⟩ := hE
  have c6 : w.cell? ⟨e.g, 6, none⟩ = some (.pointer (some ⟨ga, 0, none⟩)) := h1.cell 6
  have HL := hid (regLook h hi)
  have HR : Hid (AclM w ga e.t.L F ∧ ∀ b ∈ F, b ∈ FF) := ⟨h2, fun b hb => hG b (h9 b hb)⟩
  clear h hi hG h1 h2 h3 h4 h5 h6 h7 h8 h9 h10
  go_enter Tryd.func33, Tryd.ntmps33
  go_wp2_with (first
    | go_big_skip
    | (go_at_call 32; (with_reducible refine HL.out.mono ?_); rintro r w2 ⟨rfl, rfl⟩; simp only [enP]))
  go_ret
  exact ⟨⟨ga, F, rfl, HR.out⟩, rfl⟩
theorem regACLNo (h : RegM w g X FF) (i : Int) (hi : i < 0 ∨ (X.length : Int) ≤ i) : Calls Tryd.prog 33 #[.pointer (some ⟨g, 0, none⟩), .int .i64 i] w fun r w' => r = .returned (.pointer none) ∧ w = w' := by
  have HL := hid (regLookNo h i hi)
  clear h hi
  go_enter Tryd.func33, Tryd.ntmps33
  go_wp2_with (first
    | go_big_skip
    | (go_at_call 32; (with_reducible refine HL.out.mono ?_); rintro r w2 ⟨rfl, rfl⟩))
  go_ret
  exact ⟨rfl, rfl⟩
theorem regBud (h : RegM w g X FF) {i : Nat} {e : En} (hi : X[i]? = some e) : Calls Tryd.prog 34 #[.pointer (some ⟨g, 0, none⟩), .int .i64 i] w fun r w' => (∃ gb, r = .returned (.pointer (some ⟨gb, 0, none⟩)) ∧ Blk w gb 137 e.bd.cells ∧ gb ∈ FF ∧
    ∀ w' bd', Ch [gb] w w' → Blk w' gb 137 bd'.cells → RegM w' g (X.set i { e with bd := bd' }) FF) ∧ w = w' := by
  obtain ⟨Gi, hE, hG, hP⟩ := h.entry hi
  obtain ⟨ga, gb, F, h1, h2, h3, h4, h5, h6, h7, h8, h9, h10⟩ := hE
  have c7 : w.cell? ⟨e.g, 7, none⟩ = some (.pointer (some ⟨gb, 0, none⟩)) := h1.cell 7
  have HL := hid (regLook h hi)
  have HR : Hid (Blk w gb 137 e.bd.cells ∧ gb ∈ FF ∧ ∀ w' bd', Ch [gb] w w' → Blk w' gb 137 bd'.cells → RegM w' g (X.set i { e with bd := bd' }) FF) :=
    ⟨h3, hG _ h8, fun w' bd' hc hbl => hP w' { e with bd := bd' } [gb] hc (fun b hb => by rw [List.mem_singleton] at hb; subst hb; exact h8)
      ⟨ga, gb, F, h1.ch hc (by simpa using h4), h2.ch hc (fun b hb hs => by rw [List.mem_singleton] at hs; subst hs; exact h6 hb), hbl, h4, h5, h6, h7, h8, h9, fun b hb => Nat.lt_of_lt_of_le (h10 b hb) hc.size⟩ rfl⟩
  clear h hi hG h1 h2 h3 h4 h5 h6 h7 h8 h9 h10 hP
  go_enter Tryd.func34, Tryd.ntmps34
  go_wp2_with (first
    | go_big_skip
    | (go_at_call 32; (with_reducible refine HL.out.mono ?_); rintro r w2 ⟨rfl, rfl⟩; simp only [enP]))
  go_ret
  exact ⟨⟨gb, rfl, HR.out⟩, rfl⟩
theorem regBudNo (h : RegM w g X FF) (i : Int) (hi : i < 0 ∨ (X.length : Int) ≤ i) : Calls Tryd.prog 34 #[.pointer (some ⟨g, 0, none⟩), .int .i64 i] w fun r w' => r = .returned (.pointer none) ∧ w = w' := by
  have HL := hid (regLookNo h i hi)
  clear h hi
  go_enter Tryd.func34, Tryd.ntmps34
  go_wp2_with (first
    | go_big_skip
    | (go_at_call 32; (with_reducible refine HL.out.mono ?_); rintro r w2 ⟨rfl, rfl⟩))
  go_ret
  exact ⟨rfl, rfl⟩
theorem regLen (h : RegM w g X FF) : Calls Tryd.prog 23 #[.pointer (some ⟨g, 0, none⟩)] w fun r w' => r = .returned (.int .i64 X.length) ∧ w = w' := by
  obtain ⟨A, c, c0, _⟩ := h.slot
  clear h
  go_enter Tryd.func23, Tryd.ntmps23
  go_wp2_with go_big_skip
  go_ret
  exact ⟨rfl, rfl⟩
/-- How many sessions the tenant i has; 0 where there is none. -/
def actX (X : List En) (i : Int) : Int := if 0 ≤ i then (match X[i.toNat]? with | some e => e.act | none => 0) else 0
def acqOk (X : List En) (i : Int) : Bool := decide (0 ≤ i) && (match X[i.toNat]? with | some e => !(e.act == e.t.m) | none => false)
def relOk (X : List En) (i : Int) : Bool := decide (0 ≤ i) && (match X[i.toNat]? with | some e => !(e.act == 0) | none => false)
def setA (X : List En) (i : Int) (d : Int) : List En := match X[i.toNat]? with | some e => X.set i.toNat { e with act := e.act + d } | none => X
def acqX (X : List En) (i : Int) : List En := if acqOk X i then setA X i 1 else X
def relX (X : List En) (i : Int) : List En := if relOk X i then setA X i (-1) else X
theorem idx_cases (X : List En) (i : Int) : (∃ (k : Nat) (e : En), i = k ∧ X[k]? = some e) ∨ ((i < 0 ∨ (X.length : Int) ≤ i) ∧ ((0 ≤ i → X[i.toNat]? = none))) := by
  by_cases h : i < 0
  · exact .inr ⟨.inl h, fun h0 => by omega⟩
  · by_cases h2 : (X.length : Int) ≤ i
    · exact .inr ⟨.inr h2, fun _ => List.getElem?_eq_none (by omega)⟩
    · exact .inl ⟨i.toNat, X[i.toNat]'(by omega), by omega, List.getElem?_eq_getElem _⟩
theorem regAct (h : RegM w g X FF) (i : Int) : Calls Tryd.prog 18 #[.pointer (some ⟨g, 0, none⟩), .int .i64 i] w fun r w' => r = .returned (.int .i64 (actX X i)) ∧ w = w' := by
  rcases idx_cases X i with ⟨k, e, rfl, hk⟩ | ⟨hi, hn⟩
  · have ha : actX X k = e.act := by unfold actX; rw [if_pos (by omega), Int.toNat_natCast, hk]
    rw [ha]
    obtain ⟨Gi, ⟨ga, gb, F, h1, _⟩, _⟩ := h.entry hk
    have c8 : w.cell? ⟨e.g, 8, none⟩ = some (.int .i64 e.act) := h1.cell 8
    have HL := hid (regLook h hk)
    clear h hk h1 ha
    go_enter Tryd.func18, Tryd.ntmps18
    go_wp2_with (first
      | go_big_skip
      | (go_at_call 32; (with_reducible refine HL.out.mono ?_); rintro r w2 ⟨rfl, rfl⟩; simp only [enP]))
    go_ret
    exact ⟨rfl, rfl⟩
  · have ha : actX X i = 0 := by
      unfold actX
      by_cases h0 : 0 ≤ i
      · rw [if_pos h0, hn h0]
      · rw [if_neg h0]
    rw [ha]
    have HL := hid (regLookNo h i hi)
    clear h hi ha hn
    go_enter Tryd.func18, Tryd.ntmps18
    go_wp2_with (first
      | go_big_skip
      | (go_at_call 32; (with_reducible refine HL.out.mono ?_); rintro r w2 ⟨rfl, rfl⟩))
    go_ret
    exact ⟨rfl, rfl⟩
end
end Go.Proofs.YtbmbnibamhgfmaaDoor
