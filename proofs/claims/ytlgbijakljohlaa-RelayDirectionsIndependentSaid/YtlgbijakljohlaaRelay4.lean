/- A relay seen from one side; what the law's 'written' computes. -/
import Derived.Test.YtlgbijakljohlaaRelay2
namespace Go.Proofs.Ytlgbijakljohlaa
open Go.RowKit

/-- The relay at q: its pipe on the side 'up' lies at Bz and holds z, the other at Bu and holds u. -/
structure relayS (w : World) (q c : Nat) (Bz Bu : PB) (up : Bool) (z u : PD) : Prop where
  all : relayAt w q c (if up then Bu else Bz) (if up then Bz else Bu) (if up then u else z) (if up then z else u)

def offBlk (q : Nat) (Bz Bu : PB) (S : List Nat) : Prop := ∀ k ∈ S, k ≠ q ∧ k ≠ Bz.p ∧ k ≠ Bz.g ∧ k ≠ Bz.b ∧ k ≠ Bu.p ∧ k ≠ Bu.g ∧ k ≠ Bu.b
section
variable {w w' : World} {q c : Nat} {Bz Bu : PB} {up : Bool} {z u : PD}
theorem relayS.heap (h : relayS w q c Bz Bu up z u) (e : w'.heap = w.heap) : relayS w' q c Bz Bu up z u := ⟨h.all.heap e⟩
theorem relayS.zAt (h : relayS w q c Bz Bu up z u) : pAt w Bz c z := by
  have := h.all
  cases up
  · exact this.dn
  · exact this.up
theorem relayS.uAt (h : relayS w q c Bz Bu up z u) : pAt w Bu c u := by
  have := h.all
  cases up
  · exact this.up
  · exact this.dn
theorem relayS.q_lt (h : relayS w q c Bz Bu up z u) : q < w.heap.size ∧ q < Bz.p ∧ q < Bz.g ∧ q < Bz.b ∧ q < Bu.p ∧ q < Bu.g ∧ q < Bu.b := by
  have := h.all
  have hl := this.blk.lt
  have hs := this.sep
  unfold relSep at hs
  cases up
  · simp only [Bool.false_eq_true, if_false] at hs
    omega
  · simp only [if_true] at hs
    omega
theorem relayS.ch {S : List Nat} (h : relayS w q c Bz Bu up z u) (hc : Ch S w w') (hS : offBlk q Bz Bu S) : relayS w' q c Bz Bu up z u := by
  have hn : ∀ k, (q = k ∨ Bz.p = k ∨ Bz.g = k ∨ Bz.b = k ∨ Bu.p = k ∨ Bu.g = k ∨ Bu.b = k) → k ∉ S := by
    intro k hk hm
    have := hS k hm
    omega
  have := h.all
  refine ⟨?_⟩
  cases up
  · exact ⟨this.blk.ch hc (hn _ (by simp)), this.dn.ch hc (hn _ (by simp)) (hn _ (by simp)) (hn _ (by simp)), this.up.ch hc (hn _ (by simp)) (hn _ (by simp)) (hn _ (by simp)), this.sep⟩
  · exact ⟨this.blk.ch hc (hn _ (by simp)), this.dn.ch hc (hn _ (by simp)) (hn _ (by simp)) (hn _ (by simp)), this.up.ch hc (hn _ (by simp)) (hn _ (by simp)) (hn _ (by simp)), this.sep⟩
theorem relayS.zCh {S : List Nat} (h : relayS w q c Bz Bu up z u) (hc : Ch S w w') (hS : ∀ k ∈ S, k = Bz.p ∨ k = Bz.g ∨ k = Bz.b) {z' : PD} (hz : pAt w' Bz c z') : relayS w' q c Bz Bu up z' u := by
  have := h.all
  refine ⟨?_⟩
  cases up
  · exact this.dnCh hc hS hz
  · exact this.upCh hc hS hz
theorem relayS.uCh {S : List Nat} (h : relayS w q c Bz Bu up z u) (hc : Ch S w w') (hS : ∀ k ∈ S, k = Bu.p ∨ k = Bu.g ∨ k = Bu.b) {u' : PD} (hu : pAt w' Bu c u') : relayS w' q c Bz Bu up z u' := by
  have := h.all
  refine ⟨?_⟩
  cases up
  · exact this.upCh hc hS hu
  · exact this.dnCh hc hS hu
end

/-- What 'written' gives of a list of transfers, behind s. -/
def wrL (up : Bool) : List (Bool × ByteArray × Bool) → ByteArray → ByteArray
  | [], s => s
  | (v, d, e) :: ts, s => wrL up ts (if v = up then (if e then (s ++ d) ++ ⟨#[46]⟩ else s ++ d) else s)
theorem wrL_append (up : Bool) (ts us : List (Bool × ByteArray × Bool)) (s : ByteArray) : wrL up (ts ++ us) s = wrL up us (wrL up ts s) := by
  induction ts generalizing s with
  | nil => rfl
  | cons t ts ih => obtain ⟨v, d, e⟩ := t; exact ih _
theorem wrL_far (up v : Bool) (x : PD) (s : ByteArray) (h : v ≠ up) : wrL up (x.trs v) s = s := by
  unfold PD.trs
  split
  · rfl
  · simp [wrL, h]
theorem PD.trs_small (up : Bool) (x : PD) (h : x.xs.length ≤ 4096) : ∀ t ∈ x.trs up, t.2.1.size ≤ 4096 := by
  unfold PD.trs
  split
  · simp
  · intro t ht
    simp only [List.mem_singleton] at ht
    subst ht
    show (strOfNums _).size ≤ _
    rw [strOf_size, List.length_take]
    omega
theorem wrL_size (up : Bool) (x : PD) (h : x.xs.length ≤ 4096) : (wrL up (x.trs up) ⟨#[]⟩).size ≤ 4097 := by
  have hs := PD.trs_small up x h
  revert hs
  unfold PD.trs
  split
  · intro; simp [wrL]; decide
  · intro hs
    have : (strOfNums (x.xs.take x.n)).size ≤ 4096 := hs _ (List.mem_singleton.2 rfl)
    simp only [wrL, if_true]
    split
    · rw [ByteArray.size_append, ByteArray.size_append]
      show 0 + _ + 1 ≤ _
      omega
    · rw [ByteArray.size_append]
      show 0 + _ ≤ _
      omega

section
variable (w : World) (q c : Nat) (Bz Bu : PB) (up : Bool) (z u : PD) (h : relayS w q c Bz Bu up z u)
include h
theorem relayPipeZ : Calls Try.prog 8 #[.pointer (some ⟨q, 0, none⟩), .bool up] w fun e w' => e = .returned (.pointer (some ⟨Bz.p, 0, none⟩)) ∧ w = w' :=
  relayPipe w q c _ _ _ _ h.all up Bz.p (by cases up <;> rfl)
theorem relayPipeU (b : Bool) (hb : (!up) = b) : Calls Try.prog 8 #[.pointer (some ⟨q, 0, none⟩), .bool b] w fun e w' => e = .returned (.pointer (some ⟨Bu.p, 0, none⟩)) ∧ w = w' := by
  subst hb
  exact relayPipe w q c _ _ _ _ h.all (!up) Bu.p (by cases up <;> rfl)
theorem relayTransferS (z1 : PD) (hz : z.rd = z1) (S : ByteArray) (hS : wrL up (z.trs up) ⟨#[]⟩ = S) :
    Calls Try.prog 16 #[.pointer (some ⟨q, 0, none⟩), .bool true] w fun e w' => ∃ A k cc ts u1, e = .returned (.slice A k cc) ∧ RdT w' w'.heap.size A k ts ∧ Hid (wrL up ts ⟨#[]⟩ = S) ∧ Hid (∀ t ∈ ts, t.2.1.size ≤ 4096) ∧ k ≤ 2 ∧ relayS w' q c Bz Bu up z1 u1 ∧ Ch [Bz.p, Bz.g, Bz.b, Bu.p, Bu.g, Bu.b] w w' := by
  have hl1 := h.zAt.lt
  have hl2 := h.uAt.lt
  subst hz hS
  refine (relayTransfer w q c _ _ _ _ h.all true _ rfl _ rfl _ rfl).mono ?_
  rintro e w' ⟨A, k, cc, rfl, own, hk, R, C⟩
  refine ⟨A, k, cc, _, u.rd, rfl, own.rd, ?_, ?_, hk, ⟨?_⟩, ?_⟩
  · show _ = _
    simp only [if_true]
    rw [wrL_append]
    cases up
    · simp only [Bool.false_eq_true, if_false]
      rw [wrL_far false true u _ (by simp)]
    · simp only [if_true]
      rw [wrL_far true false u _ (by simp)]
  · show ∀ t ∈ _, _
    simp only [if_true]
    intro t ht
    rcases List.mem_append.1 ht with ht | ht
    · refine PD.trs_small _ _ ?_ t ht
      cases up
      · show z.xs.length ≤ _; omega
      · show u.xs.length ≤ _; omega
    · refine PD.trs_small _ _ ?_ t ht
      cases up
      · show u.xs.length ≤ _; omega
      · show z.xs.length ≤ _; omega
  · cases up
    · exact R
    · exact R
  · cases up
    · exact C
    · exact C.mono (by simp <;> omega)
end

set_option maxHeartbeats 1000000 in
theorem relWritten (w : World) (A : Option Addr) (k cc B : Nat) (ts : List (Bool × ByteArray × Bool)) (h : RdT w B A k ts) (up : Bool) (S : ByteArray) (hS : Hid (wrL up ts ⟨#[]⟩ = S)) (hsm : Hid (∀ t ∈ ts, t.2.1.size ≤ 4096)) (hk : k ≤ 2) :
    Calls Try.prog 23 #[.slice A k cc, .bool up] w fun e w' => e = .returned (.string S) ∧ w = w' := by
  have hlen := h.len
  go_enter Try.func23, Try.ntmps23
  go_wp2
  go_loopw [5, 6] (fun s i wr => ∃ (n : Nat) (T : ByteArray), n ≤ k ∧ i = .int .i64 n ∧ s = .string T ∧ T.size ≤ 4097 * n ∧ Hid (wrL up (ts.drop n) T = S) ∧ Hid (w = wr)) (fun _ i _ => k - (intOf i).toNat)
  case atStart => exact ⟨0, ⟨#[]⟩, Nat.zero_le _, rfl, rfl, by decide, by show _ = _; rw [List.drop_zero]; exact hS.out, rfl⟩
  case round =>
    obtain ⟨n, T, hn, rfl, rfl, hT, HT, HW⟩ := hrel
    obtain rfl := HW.out
    by_cases hlt : n < k
    · obtain ⟨b, off, v, d, e, rfl, _, hg, q0, q1, q2⟩ := h.at_ hlt
      have hd : d.size ≤ 4096 := by have := hsm.out _ (List.mem_of_getElem? hg); exact this
      have hdr : ts.drop n = (v, d, e) :: ts.drop (n + 1) := by
        have h1 : n < ts.length := by omega
        rw [List.drop_eq_getElem_cons h1]
        congr 1
        rw [List.getElem?_eq_getElem h1] at hg
        exact Option.some.inj hg
      have HT2 : Hid (wrL up (ts.drop (n + 1)) (if v = up then (if e then (T ++ d) ++ ⟨#[46]⟩ else T ++ d) else T) = S) := by show _ = _; rw [← HT.out, hdr]; rfl
      have hi : (0 : Int) ≤ n := by omega
      clear hdr hg
      by_cases hv : v = up
      · have hvb : (v == up) = true := by simp [hv]
        have HV := hid hv
        clear hv
        cases e
        · go_wp2
          go_roundw
          case rel => exact ⟨n + 1, T ++ d, by omega, by go_num, rfl, by rw [ByteArray.size_append]; omega, by have := HT2.out; rw [if_pos HV.out] at this; exact this, hid trivial⟩
          case measure => simp [intOf]; omega
        · go_wp2
          go_roundw
          case rel => exact ⟨n + 1, (T ++ d) ++ ⟨#[46]⟩, by omega, by go_num, rfl, by rw [ByteArray.size_append, ByteArray.size_append]; show _ + 1 ≤ _; omega, by have := HT2.out; rw [if_pos HV.out] at this; exact this, hid trivial⟩
          case measure => simp [intOf]; omega
      · have hvb : (v == up) = false := by simpa using hv
        have HV := hid hv
        clear hv
        go_wp2
        go_roundw
        case rel => exact ⟨n + 1, T, by omega, by go_num, rfl, by omega, by have := HT2.out; rw [if_neg HV.out] at this; exact this, hid trivial⟩
        case measure => simp [intOf]; omega
    · obtain rfl : n = k := by omega
      go_wp2
      go_ret
      exact ⟨by have := HT.out; rw [← hlen, List.drop_length] at this; exact congrArg (fun x => Ending.returned (.string x)) this, rfl⟩
end Go.Proofs.Ytlgbijakljohlaa
