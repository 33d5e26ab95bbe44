/- The walk of QuerypairFiltersAnswers (printed by mk_lawqp3.py). -/
import Derived.Test.YtjabeabbaambcaaDoorQM
import Derived.Test.YtjabeabbaambcaaDoorSpareA
import Derived.Test.YtjabeabbaambcaaDoorArgsA
import Derived.Test.YtjabeabbaambcaaDoorShellD
import Derived.Test.YtjabeabbaambcaaDoorMinMax
import Derived.Test.YtjabeabbaambcaaDoorStages3
import Derived.Test.YtjabeabbaambcaaDoorRows
import Derived.Deep.DeepCutAuto
import Derived.Deep.CutRange
namespace Go.Proofs.YtjabeabbaambcaaDoor
open Go.ChangeShapes Go.WideShapes Go.ChangeAt Go.RowKit

theorem genModAs (v n r : Int) (hr : modI v n = r) (w : World) (h0 : 0 < n) (h1 : n ≤ 9223372036854775807) :
    Calls Tryd.prog 14 #[.int .i64 v, .int .i64 n] w fun e w' => e = .returned (.int .i64 r) ∧ w = w' := by
  subst hr; exact genMod v n w h0 h1
/-- A slice of addresses, as an argument. -/
theorem Arg.addrs {H : Type} {enc : TypeId × Value → H} {W : World} {v : Value} {d : DataW H} (h : Arg enc Tryd.prog W 22 v d) :
    ∃ A len cap, ∃ l : AL, v = .slice A len cap ∧ len ≤ cap ∧ cap ≤ 8289722895955 ∧ Rd W W.heap.size 17 A len (l.flatMap adrC) ∧ l.length = len ∧ ∀ x ∈ l, GoodA x.2 := by
  obtain ⟨A, len, cap, l, h1, h2, h3, h4, h5, h6, h7⟩ := h.rows (f := adrC) (G := fun x => GoodA x.2) (size := 17) Tryd.underlying22 (by kernel_rfl) (by omega) (fun c hc => by
    obtain ⟨six, bs, rfl, hg⟩ := hc.addr
    exact ⟨(six, bs), rfl, hg⟩) (fun x hx => adr_len hx.1)
  rw [show Tryd.prog.bytesOf 29 = 17 by kernel_rfl] at h4
  exact ⟨A, len, cap, l, h1, h2, by omega, h5, h6, h7⟩
section
variable {W w w' : World} {p q : Nat} {x : QP} {F G : List Nat}
theorem PF.refCells (h : PF true w q x G) : ∃ B0 e0 B1 e1, ∀ w', Ch [] w w' → w'.cell? ⟨q, 6, none⟩ = some (.slice B0 (x.lst false).length e0) ∧ w'.cell? ⟨q, 7, none⟩ = some (.slice B1 (x.lst true).length e1) ∧ Rd w' w'.heap.size 17 B0 (x.lst false).length ((x.lst false).flatMap adrC) ∧ Rd w' w'.heap.size 17 B1 (x.lst true).length ((x.lst true).flatMap adrC) := by
  obtain ⟨B0, e0, B1, e1, hX, rfl⟩ := h
  exact ⟨B0, e0, B1, e1, fun w' c => by
    have h := hX.ch c (by simp) (by simp) (by simp)
    exact ⟨h.blk.cell 6, h.blk.cell 7, h.own0.rd, h.own1.rd⟩⟩
theorem QP.wf.len (h : x.wf) (v : Bool) : (x.lst v).length ≤ 16 ∧ ∀ a ∈ x.lst v, a.2.length = 16 := by
  cases v
  · exact ⟨h.n0, fun a ha => (h.g0 a ha).1⟩
  · exact ⟨h.n1, fun a ha => (h.g1 a ha).1⟩
end
theorem new_err (d : Int) (v : Bool) : (QP.mk d false false false 0 0 [] []).answerE v = 0 := by cases v <;> rfl
theorem new_other (d now : Int) (v : Bool) (l : AL) : ((QP.mk d false false false 0 0 [] []).answer now v l).lst (!v) = [] := by cases v <;> rfl
theorem new_num (d : Int) (v : Bool) (l : AL) : (QP.mk d false false false 0 0 [] []).answerN v l ≤ 16 := by
  have h : (keepL v [] l).length ≤ 16 := keepL_len l (by simp)
  cases v
  · show ((keepL false [] l).length : Int) ≤ 16; omega
  · show ((keepL true [] l).length : Int) ≤ 16; omega

set_option maxRecDepth 100000 in
set_option maxHeartbeats 16000000 in
theorem querypairFiltersAnswers_came {H : Type} {enc : TypeId × Value → H} (W : World) (args : Array Value) (ds : List (DataW H)) (_ : laidMetH Tryd.prog Rows.querypairFiltersAnswersRow.laid W) (h : Came enc Tryd.prog Tryd.f3 W args ds) :
    Calls Tryd.prog 3 args W fun e W' => e = .returned (.bool true) ∧ Below W.heap.size W W' := by
  obtain ⟨v0, v1, v2, d0, d1, d2, rfl, a0, a1, a2⟩ := h.args3 rfl
  obtain ⟨A, n, cap, l, rfl, hn1, hn2, hrl, hnl, hgl⟩ := a0.addrs
  obtain ⟨many, rfl, hm0, hm1⟩ := a1.i64 Tryd.underlying3
  obtain ⟨v6, rfl⟩ := a2.bool Tryd.underlying4
  clear h a0 a1 a2
  obtain ⟨r, hr⟩ : ∃ r, min n 30 = r := ⟨_, rfl⟩
  have hr30 : r ≤ 30 := by omega
  have HR : Hid (min (n : Int) 30 = (r : Int)) := by show _ = _; omega
  have hr0 : (0 : Int) ≤ r := by omega
  have hr1 : (r : Int) ≤ n := by omega
  have hr2 : (r : Int) ≤ cap := by omega
  have HRL : Hid (Rd W W.heap.size 17 A r ((l.take r).flatMap adrC)) := rd_takeA hrl (fun x hx => (hgl x hx).1) hnl (by omega)
  have hgt : ∀ x ∈ l.take r, GoodA x.2 := fun x hx => hgl x (List.mem_of_mem_take hx)
  have htl : (l.take r).length = r := by rw [List.length_take]; omega
  generalize l.take r = L at HRL hgt htl
  have HO : Hid (∀ u ∈ L.flatMap adrC, u.oneCell' = true) := flat_one L (fun x _ => adr_one x)
  obtain ⟨p0, p1⟩ := modI_rng many 40 (by omega)
  obtain ⟨c, hc⟩ := Int.eq_ofNat_of_zero_le (show 0 ≤ modI many 40 by omega)
  have HC := hid hc
  have hc40 : c < 40 := by omega
  have HGT := hid hgt
  have HTL := hid htl
  clear p0 p1 hc hrl hgl hgt hnl hr htl
  have CC := Ch.refl [] W
  go_enter Tryd.func3, Tryd.ntmps3
  go_wp2_with (first
    | (go_at_call 13; (with_reducible refine (qpNewF _ _).mono ?_); rintro e w1 ⟨rfl, P0, C1⟩; replace CC := CC.trans C1; have hp1 := (P0.lt _ (List.mem_singleton_self _)).2)
    | (refine wpList_min rfl _ _ _ rfl .i64 .i64 _ _ _ rfl rfl HR.out ?_)
    | (at_builtin; (refine wpList_app _ rfl (.tmp 20) (.tmp 25) _ rfl w1.heap.size 29 _ 17 17 Tryd.underlying22 addr_infoZ rfl (by omega) _ _ _ _ rfl (Own.new w1 w1.heap.size 29 17 [] 0 (Nat.le_refl _) (by unfold maxLen; omega) rfl) _ _ _ _ (L.flatMap adrC) rfl (HRL.out.ch (CC.alloc _) (Nat.le_refl _) (by simp)) HO.out (by unfold maxLen; omega) (by omega) (by simp) ?_; intro A2 c2 w2 own2 ch2 at2; simp only [Nat.zero_add, List.nil_append] at own2; have P2 := (P0.nil ((Ch.refl [] w1).alloc _)).ch ch2 (by simp only [blkOf, List.mem_singleton]; omega); replace CC := (CC.alloc _).step ch2 (fun g hg => .inr (by simp only [blkOf, List.mem_singleton] at hg; omega)))))
  have hpb : W.heap.size < w1.heap.size := hp1
  have hb2 : w1.heap.size ≤ w2.heap.size := (((Ch.refl (blkOf (some ⟨w1.heap.size, 0, none⟩)) w1).alloc (.cells #[] 29)).trans ch2).size
  generalize w1.heap.size = b0 at own2 hpb hb2 ⊢
  generalize hp : W.heap.size = p at P2 hpb ⊢
  have HP := hid hp
  clear hp hp1 P0 C1 ch2 at2
  go_loopw [8, 9] (fun xs i wr => ∃ (k : Nat) (A2 : Option Addr) (c2 : Nat) (acc : AL), xs = .slice A2 (r + k) c2 ∧ i = .int .i64 k ∧ k ≤ c ∧ Own wr b0 29 17 A2 (r + k) c2 (acc.flatMap adrC) ∧ Hid (∀ x ∈ acc, GoodA x.2) ∧ b0 ≤ wr.heap.size ∧ PF false wr p ⟨0, false, false, false, 0, 0, [], []⟩ [p] ∧ Ch [] W wr) (fun _ i _ => c - (intOf i).toNat)
  case atStart => exact ⟨0, A2, c2, L, rfl, rfl, by omega, own2, HGT, hb2, P2, CC⟩
  case round =>
    clear own2 P2 CC
    obtain ⟨k, A2, c2, acc, rfl, rfl, hk, own, HGA, hb0w, P, CC⟩ := hrel
    by_cases hlt : k < c
    · have hi0 : (0 : Int) ≤ k := by omega
      have hi1 : (k : Int) < c := by omega
      have HGE : Hid (GoodA [42, (k : Int) / 2, 0, 0, 0, 0, 0, 0, 0, 0, 0, 0, 0, 0, 0, 0]) := ⟨rfl, fun x hx => by simp only [List.mem_cons, List.not_mem_nil, or_false] at hx; omega⟩
      go_wp2_with (first
        | (go_at_call 14; with_reducible refine (genModAs _ _ c HC.out _ ?_ ?_).mono ?_; omega; omega; rintro e w' ⟨rfl, rfl⟩)
        | (at_builtin; (refine wpList_app _ rfl (.tmp 33) (.tmp 42) _ rfl b0 29 _ 17 17 Tryd.underlying22 addr_infoZ rfl (by omega) _ _ _ _ rfl (own.alloc _) _ _ _ _ (adrC (decide (0 < (k : Int) % 3), [42, (k : Int) / 2, 0, 0, 0, 0, 0, 0, 0, 0, 0, 0, 0, 0, 0, 0])) rfl (Rd.new wr 17 (adrC (decide (0 < (k : Int) % 3), [42, (k : Int) / 2, 0, 0, 0, 0, 0, 0, 0, 0, 0, 0, 0, 0, 0, 0])) 1 rfl 29) (List.all_eq_true.1 (adr_one _)) (by unfold maxLen; omega) (by omega) (by have := hb0w; simp only [World.size_alloc]; omega) ?_; intro A4 c4 w4 own4 ch4 at4)))
      go_roundw
      case rel =>
        have hnp : ∀ g ∈ blkOf A2, g ∉ [p] := fun g hg hp => by have := (own.blks g hg).1; simp only [List.mem_singleton] at hp; omega
        refine ⟨k + 1, A4, c4, acc ++ [(decide (0 < (k : Int) % 3), [42, (k : Int) / 2, 0, 0, 0, 0, 0, 0, 0, 0, 0, 0, 0, 0, 0, 0])], rfl, by go_num, by omega, ?_, fun x hx => ?_, (by have := ((Ch.refl (blkOf A2) wr).alloc (.cells (adrC (decide (0 < (k : Int) % 3), [42, (k : Int) / 2, 0, 0, 0, 0, 0, 0, 0, 0, 0, 0, 0, 0, 0, 0])).toArray 29)).trans ch4 |>.size; omega), (P.nil ((Ch.refl [] wr).alloc _)).ch ch4 (fun g hg hm => hnp g hm hg), (CC.alloc _).step ch4 (fun g hg => .inr (by have := (own.blks g hg).1; have := HP.out; omega))⟩
        · rw [List.flatMap_append]
          have := own4
          simpa [Nat.add_assoc] using this
        · rcases List.mem_append.1 hx with h | h
          · exact HGA.out x h
          · rw [List.mem_singleton] at h
            subst h
            exact HGE.out
      case measure => simp [intOf]; omega
    · obtain rfl : k = c := by omega
      obtain ⟨N, hN⟩ : ∃ N, r + k = N := ⟨_, rfl⟩
      rw [hN] at own ⊢
      have hN69 : N ≤ 69 := by omega
      clear hN
      obtain ⟨mm, hmm⟩ : ∃ mm, (QP.mk 0 false false false 0 0 [] []).answerN v6 acc = mm := ⟨_, rfl⟩
      have HMM := hid hmm
      have hm16 : mm ≤ 16 := hmm ▸ new_num 0 v6 acc
      have HER := hid (new_err 0 v6)
      have W0 : Hid (QP.mk 0 false false false 0 0 [] []).wf := QP.wf_new (by omega)
      have W1 := hid (W0.out.answer (now := 1) (by omega) v6 HGA.out)
      have HOT := hid (new_other 0 1 v6 acc)
      obtain ⟨x1, hx1⟩ : ∃ x1, (QP.mk 0 false false false 0 0 [] []).answer 1 v6 acc = x1 := ⟨_, rfl⟩
      rw [hx1] at W1 HOT
      have HX1 := hid hx1
      have hG16 : ∀ x ∈ acc, x.2.length = 16 := fun x hx => (HGA.out x hx).1
      have HG16 := hid hG16
      obtain ⟨l1, hl1⟩ : ∃ z, x1.lst v6 = z := ⟨_, rfl⟩
      have HL1 := hid hl1
      have HE1 : Hid (l1.length ≤ 16 ∧ ∀ a ∈ l1, a.2.length = 16) := by rw [← hl1]; exact W1.out.len v6
      have hl16 := HE1.out.1
      clear hl1
      have hbm : (mm != mm) = false := by simp
      clear hmm hx1 hG16 HRL HGT HTL HO
      have hln : acc.length = N := own.rd.count (fun x hx => adr_len (HG16.out x hx)) (by omega)
      have HLN := hid hln
      have HSP : Hid (∀ w', Ch [] wr w' → Calls Tryd.prog 15 #[.slice A2 N c2, .agg #[.bool false, .int .u8 0, .int .u8 0, .int .u8 0, .int .u8 0, .int .u8 0, .int .u8 0, .int .u8 0, .int .u8 0, .int .u8 0, .int .u8 0, .int .u8 0, .int .u8 0, .int .u8 0, .int .u8 0, .int .u8 0, .int .u8 0]] w' fun e w'' => ∃ g cc, e = .returned (.slice (some ⟨g, 0, none⟩) N (N + 3)) ∧ Own w'' w'.heap.size 29 17 (some ⟨g, 0, none⟩) (N + 3) cc ((acc ++ [fzA, fzA, fzA]).flatMap adrC) ∧ Ch [] w' w'') := fun w' c => spareA w' A2 N c2 w'.heap.size acc ((own.ch c (by simp)).rd) (Nat.le_refl _) (by omega)
      have HSM : Hid (∀ w' g B B', Rd w' B 17 (some ⟨g, 0, none⟩) (N + 3) ((acc ++ [fzA, fzA, fzA]).flatMap adrC) → Rd w' B' 17 A2 N (acc.flatMap adrC) → B ≤ w'.heap.size → B' ≤ w'.heap.size → Calls Tryd.prog 18 #[.slice (some ⟨g, 0, none⟩) N (N + 3), .slice A2 N c2, .agg #[.bool false, .int .u8 0, .int .u8 0, .int .u8 0, .int .u8 0, .int .u8 0, .int .u8 0, .int .u8 0, .int .u8 0, .int .u8 0, .int .u8 0, .int .u8 0, .int .u8 0, .int .u8 0, .int .u8 0, .int .u8 0, .int .u8 0]] w' fun e w'' => e = .returned (.bool true) ∧ Ch [] w' w'') := fun w' g B B' h h' hB hB' => sameSpareA w' (some ⟨g, 0, none⟩) A2 N c2 B B' acc h h' hB hB' (by omega) HG16.out
      have HFR : Hid (∀ w' g B, Rd w' B 17 (some ⟨g, 0, none⟩) (N + 3) ((acc ++ [fzA, fzA, fzA]).flatMap adrC) → Rd w' B 17 (some ⟨g, 0, none⟩) N (acc.flatMap adrC)) := fun w' g B h => Rd.frontS (m := 3) (ys := [fzA, fzA, fzA].flatMap adrC) (by rw [← List.flatMap_append]; exact h) (by rw [adr_flat_len HG16.out, HLN.out])
      have hpw := (P.lt p (by simp)).2
      have hap : ∀ g ∈ blkOf A2, g ≠ p ∧ g < wr.heap.size := fun g hg => by have := own.blks g hg; omega
      clear hln
      go_upto_region 17 with (first
        | (go_at_call 14; with_reducible refine (genModAs _ _ k HC.out _ ?_ ?_).mono ?_; omega; omega; rintro e w' ⟨rfl, rfl⟩)
        | (go_at_call 15; (with_reducible refine (HSP.out _ (Ch.refl [] wr)).mono ?_); rintro e w3 ⟨g, cc, rfl, own3, C3⟩; have P3 := P.nil C3; have ownx := own.ch C3 (by simp); have CC3 := CC.trans C3; have hg3 := own3.blks g (by simp [blkOf]); have sz3 := C3.size; have hgp : g ∉ [p] := fun h => by (rw [List.mem_singleton] at h; omega))
        | (go_at_call 16; (with_reducible refine (qpAnswerF P3 W0.out 1 v6 (HFR.out _ _ _ own3.rd) (Nat.le_refl _) (fun g' hg' => by (rw [List.mem_singleton.1 hg']; exact hgp)) (by omega) HGA.out HMM.out HER.out).mono ?_); rintro e w4 ⟨rfl, F1, P4, C4, hF1⟩; rw [HX1.out] at P4; have own4 := own3.ch C4 (by (intro g' hg'; rw [List.mem_singleton.1 hg']; exact hgp)); have ownx4 := ownx.ch C4 (fun g' hg' hp' => (hap g' hg').1 (List.mem_singleton.1 hp')); have CC4 := CC3.step C4 (fun i hi => .inr (by (rw [List.mem_singleton.1 hi, HP.out]; exact Nat.le_refl _))); have sz4 := C4.size; have lt4 := P4.lt; have hgF : g ∉ F1 := fun h => (hF1 g h).elim hgp (fun h => by omega); have hFW : ∀ i ∈ F1, W.heap.size ≤ i := fun i hi => (hF1 i hi).elim (fun h => by (rw [List.mem_singleton.1 h, HP.out]; exact Nat.le_refl _)) (fun h => by have := CC3.size; omega); have X4 := rpNewF 0 w4; have P5 := P4.nil ((Ch.refl [] w4).alloc (.cells #[.int .u64 0, .bool false, .bool false, .bool false, .int .u64 0, .int .u64 0, .slice none 0 0, .slice none 0 0] 39)); have own5 := own4.alloc (.cells #[.int .u64 0, .bool false, .bool false, .bool false, .int .u64 0, .int .u64 0, .slice none 0 0, .slice none 0 0] 39); have ownx5 := ownx4.alloc (.cells #[.int .u64 0, .bool false, .bool false, .bool false, .int .u64 0, .int .u64 0, .slice none 0 0, .slice none 0 0] 39); have CC5 := CC4.alloc (.cells #[.int .u64 0, .bool false, .bool false, .bool false, .int .u64 0, .int .u64 0, .slice none 0 0, .slice none 0 0] 39))
        | (go_at_call 17; (with_reducible refine (rpAnswerF X4 W0.out 1 v6 ownx5.rd (Nat.le_refl _) (fun g' hg' hq' => by (have h1 := (hap g' hg').2; rw [List.mem_singleton] at hq'; omega)) (by omega) HGA.out HMM.out HER.out).mono ?_); rintro e w6 ⟨rfl, G1, X6, C6, hG1⟩; rw [HX1.out] at X6; have own6 := own5.ch C6 (fun g' hg' hq' => by (simp only [blkOf, List.mem_singleton] at hg' hq'; omega)); have ownx6 := ownx5.ch C6 (fun g' hg' hq' => by (have h1 := (hap g' hg').2; rw [List.mem_singleton] at hq'; omega)); have P6 := P5.ch C6 (fun g' hg' hq' => by (have h1 := (lt4 g' hg').2; rw [List.mem_singleton] at hq'; omega)); have sz5 := CC4.size; have CC6 := CC5.step C6 (fun i hi => .inr (by (rw [List.mem_singleton] at hi; omega))); have hgG : g ∉ G1 := fun h => (hG1 g h).elim (fun h => by (rw [List.mem_singleton] at h; omega)) (fun h => by (simp only [World.size_alloc] at h; omega)))
        | (go_at_call 18; (with_reducible refine (HSM.out _ _ _ _ own6.rd ownx6.rd (Nat.le_refl _) (Nat.le_refl _)).mono ?_); rintro e w7 ⟨rfl, C7⟩; have P7 := P6.nil C7; have X7 := X6.nil C7; have own7 := own6.ch C7 (by simp); have CC7 := CC6.trans C7; have hg7 := own7.blks g (by simp [blkOf]))
        | (go_at_call 19; (with_reducible refine (ovrAOwn _ _ _ _ _ _ _ own9 (by omega)).mono ?_); rintro e w10 ⟨rfl, C10⟩)
        | (go_at_call 19; (with_reducible refine (ovrA _ g 0 N (N + 3) (there_sub own7.there (Nat.le_refl _) (by omega)) hg7.2 (by omega)).mono ?_); rintro e w8 ⟨rfl, C8⟩; have P8 := P7.ch C8 (fun i hi hm => by (rw [List.mem_singleton] at hm; exact hgF (hm ▸ hi))); have X8 := X7.ch C8 (fun i hi hm => by (rw [List.mem_singleton] at hm; exact hgG (hm ▸ hi))); have CC8 := CC7.step C8 (fun i hi => .inr (by (rw [List.mem_singleton] at hi; have := CC3.size; have := CC.size; omega))))
        | (go_at_call 20; (with_reducible refine (qpAddrsF P8 W1.out v6 HL1.out).mono ?_); rintro e w9 ⟨A9, c9, rfl, own9, C9⟩; have P9 := P8.nil C9; have X9 := X8.nil C9; have CC9 := CC8.trans C9))
      have lt8 := P8.lt
      have ltx8 := X8.lt
      have sz8 := CC8.size
      have P10 := P9.ch C10 (fun i hi hm => absurd (lt8 i hi).2 (Nat.not_lt.2 (own9.blks i hm).1))
      have X10 := X9.ch C10 (fun i hi hm => absurd (ltx8 i hi).2 (Nat.not_lt.2 (own9.blks i hm).1))
      have CC10 := CC9.step C10 (fun i hi => .inr (by have := (own9.blks i hi).1; omega))
      clear P P3 P4 P5 P6 P7 P8 P9 X4 X6 X7 X8 X9 CC CC3 CC4 CC5 CC6 CC7 CC8 CC9 own own3 own4 own5 own6 own7 own9 ownx ownx4 ownx5 ownx6 lt4 lt8 ltx8
      generalize w4.heap.size = q at X10 ⊢
      cases v6
      · skip
        have HL1' : Hid (x1.lst false = l1) := HL1.out
        have HOT' : Hid (x1.lst true = []) := HOT.out
        obtain ⟨B0, e0, B1, e1, hX⟩ := X10.refCells
        have hX' := hX
        rw [HL1'.out, HOT'.out] at hX
        have HXC := hid hX
        clear hX hX'
        go_upto_region 20 with fail
        try simp only [List.append]
        refine wp_region_stagesM [⟨0, 0, 37778931862957161709568⟩, ⟨1, 37778931862957161709568, 75557863725914323419136⟩, ⟨2, 75557863725914323423232, 151115727451828646838272⟩, ⟨6, 226673591177742970257408, 302231454903657293676544⟩, ⟨10, 377789318629571617095680, 604462909807314587353088⟩, ⟨18, 604462909807314587353088, 1208925819614629174706176⟩, ⟨32, 1208925819614629174708224, 2417851639229258349412352⟩, ⟨32, 1208925819614629174722560, 4835703278458516698824704⟩, ⟨224, 8462480737302404222943232, 9671406556917033397649408⟩, ⟨288, 10880332376531662572355584, 19342813113834066795298816⟩, ⟨544, 19342813113834066795298816, 38685626227668133590597632⟩, ⟨1024, 38685626227668133590599680, 77371252455336267181195264⟩, ⟨3072, 116056878683004400771792896, 154742504910672534362390528⟩, ⟨5120, 193428131138340667952988160, 309485009821345068724781056⟩, ⟨9216, 309485009821345068724781056, 618970019642690137449562112⟩, ⟨16384, 618970019642690137449562240, 1237940039285380274899124224⟩, ⟨16384, 618970019642690137449562116, 2475880078570760549798248448⟩, ⟨114688, 4332790137498830962146934784, 4951760157141521099596496896⟩, ⟨16384, 618970019642690137449570304, 9903520314283042199192993792⟩, ⟨16384, 618970019642690137449627648, 19807040628566084398385987584⟩, ⟨278528, 10522490333925732336642555904, 39614081257132168796771975168⟩, ⟨1064960, 40233051276774858934221537280, 79228162514264337593543950336⟩, ⟨2637824, 99654173162473112129379500032, 158456325028528675187087900672⟩, ⟨4210688, 159075295048171365324537462784, 316912650057057350374175801344⟩, ⟨8536064, 322483380233841561611221860352, 633825300114114700748351602688⟩, ⟨16793600, 634444270133757390885801164800, 1267650600228229401496703205376⟩, ⟨50331648, 1267650600228229401496703205376, 2535301200456458802993406410752⟩, ⟨67108864, 2535301200456458802993406410880, 5070602400912917605986812821504⟩, ⟨67108864, 2535301200456458802993406410756, 10141204801825835211973625643008⟩, ⟨335544320, 12676506002282294014967032053760, 20282409603651670423947251286016⟩, ⟨738197504, 27888313205021046832927470518272, 40564819207303340847894502572032⟩, ⟨1140850688, 43100120407759799650887908982784, 81129638414606681695789005144064⟩, ⟨2214592512, 83664939615063140498782411554816, 162259276829213363391578010288128⟩, ⟨4362076160, 164794578029669822194571416698880, 324518553658426726783156020576256⟩, ⟨17179869183, 324518553658426726783156020576256, 64⟩] [([], 0, []), ([1, 2, 3, 4, 5, 6, 7, 8, 9, 10, 11, 12, 13, 14, 15, 16, 18, 19, 20, 21, 22, 23], 17, [18, 19, 20, 21, 22, 23]), ([], 24, []), ([25, 26, 27, 28, 29], 30, [])] [31, 32, 33, 34] (by kernel_rfl) (by kernel_rfl) ?_
        refine wpStages_step ?_
        try simp only [pick, List.map_nil]
        repeat (go_big_quiet_step (fail))
        refine wpQuiet_nil ?_
        intro n0
        try simp only [pick, List.map_cons, List.map_nil, List.getD_cons_zero]
        go_wp2_with (go_at_call 21; (with_reducible refine (awake27 _).mono ?_); rintro e w11 ⟨rfl, C11⟩)
        have C11' := ((Ch.refl [] w10).drewN n0).trans C11
        have hq7 : w11.cell? ⟨q, 6, none⟩ = some (.slice B0 l1.length e0) := (HXC.out _ C11').1
        refine stagePost_mk (by simp [pick]) ?_
        refine wpStages_step ?_
        try simp only [pick, List.map_cons, List.map_nil, List.getD_cons_zero, List.getD_cons_succ]
        repeat (go_big_quiet_step (fail))
        refine wpQuiet_nil ?_
        intro n1
        try simp only [pick, List.map_cons, List.map_nil, List.getD_cons_zero, List.getD_cons_succ]
        go_wp2_with (go_at_call 20; (with_reducible refine (qpAddrsF (P10.nil (C11'.drewN n1)) W1.out false HL1'.out).mono ?_); rintro e w12 ⟨A12, c12, rfl, own12, C12⟩)
        have C12' := (C11'.drewN n1).trans C12
        clear hq7
        have hq7 : w12.cell? ⟨q, 6, none⟩ = some (.slice B0 l1.length e0) := (HXC.out _ C12').1
        refine stagePost_mk ?_ ?_
        · intro o ho
          simp only [pick, List.map_cons, List.map_nil, List.getD_cons_zero, List.getD_cons_succ, List.mem_cons, List.not_mem_nil, or_false] at ho
          rcases ho with rfl | rfl | rfl | rfl | rfl | rfl
          all_goals
            refine float_any ?_
            repeat (go_big_quiet_step (fail))
            refine wpQuiet_nil ?_
            rfl
        refine wpStages_step ?_
        try simp only [pick, List.map_nil]
        repeat (go_big_quiet_step (fail))
        refine wpQuiet_nil ?_
        intro n2
        try simp only [pick, List.map_cons, List.map_nil, List.getD_cons_zero, List.getD_cons_succ]
        go_wp2_with (go_at_call 22; (with_reducible refine (eqEqA _ _ _ _ _ _ _ _ l1 (own12.drewN n2).rd (HXC.out _ (C12'.drewN n2)).2.2.1 (Nat.le_refl _) (Nat.le_refl _) (by omega) HE1.out.2).mono ?_); rintro e w13 ⟨rfl, C13⟩)
        have C13' := (C12'.drewN n2).trans C13
        refine stagePost_mk (by simp [pick]) ?_
        refine wpStages_step ?_
        try simp only [pick, List.map_cons, List.map_nil, List.getD_cons_zero, List.getD_cons_succ]
        repeat (go_big_quiet_step (fail))
        refine wpQuiet_nil ?_
        intro n3
        try simp only [pick, List.map_cons, List.map_nil, List.getD_cons_zero, List.getD_cons_succ]
        go_wp2_with (go_at_call 20; (with_reducible refine (qpAddrsF (P10.nil (C13'.drewN n3)) W1.out true HOT'.out).mono ?_); rintro e w14 ⟨A14, c14, rfl, own14, C14⟩)
        have C14' := (C13'.drewN n3).trans C14
        refine stagePost_mk (by simp [pick]) ?_
        refine wpStages_last ?_
        try simp only [pick, List.map_cons, List.map_nil, List.getD_cons_zero, List.getD_cons_succ]
        repeat (go_big_quiet_step (fail))
        refine wpQuiet_nil ?_
        intro n4
        go_wp2_with fail
        go_ret
        exact ⟨rfl, (CC10.trans (C14'.drewN n4)).nil_below⟩

      · skip
        have HL1' : Hid (x1.lst true = l1) := HL1.out
        have HOT' : Hid (x1.lst false = []) := HOT.out
        obtain ⟨B0, e0, B1, e1, hX⟩ := X10.refCells
        have hX' := hX
        rw [HL1'.out, HOT'.out] at hX
        have HXC := hid hX
        clear hX hX'
        go_upto_region 20 with fail
        try simp only [List.append]
        refine wp_region_stagesM [⟨0, 0, 37778931862957161709568⟩, ⟨1, 37778931862957161709568, 75557863725914323419136⟩, ⟨2, 75557863725914323423232, 151115727451828646838272⟩, ⟨6, 226673591177742970257408, 302231454903657293676544⟩, ⟨10, 377789318629571617095680, 604462909807314587353088⟩, ⟨18, 604462909807314587353088, 1208925819614629174706176⟩, ⟨32, 1208925819614629174708224, 2417851639229258349412352⟩, ⟨32, 1208925819614629174722560, 4835703278458516698824704⟩, ⟨224, 8462480737302404222943232, 9671406556917033397649408⟩, ⟨288, 10880332376531662572355584, 19342813113834066795298816⟩, ⟨544, 19342813113834066795298816, 38685626227668133590597632⟩, ⟨1024, 38685626227668133590599680, 77371252455336267181195264⟩, ⟨3072, 116056878683004400771792896, 154742504910672534362390528⟩, ⟨5120, 193428131138340667952988160, 309485009821345068724781056⟩, ⟨9216, 309485009821345068724781056, 618970019642690137449562112⟩, ⟨16384, 618970019642690137449562240, 1237940039285380274899124224⟩, ⟨16384, 618970019642690137449562116, 2475880078570760549798248448⟩, ⟨114688, 4332790137498830962146934784, 4951760157141521099596496896⟩, ⟨16384, 618970019642690137449570304, 9903520314283042199192993792⟩, ⟨16384, 618970019642690137449627648, 19807040628566084398385987584⟩, ⟨278528, 10522490333925732336642555904, 39614081257132168796771975168⟩, ⟨1064960, 40233051276774858934221537280, 79228162514264337593543950336⟩, ⟨2637824, 99654173162473112129379500032, 158456325028528675187087900672⟩, ⟨4210688, 159075295048171365324537462784, 316912650057057350374175801344⟩, ⟨8536064, 322483380233841561611221860352, 633825300114114700748351602688⟩, ⟨16793600, 634444270133757390885801164800, 1267650600228229401496703205376⟩, ⟨50331648, 1267650600228229401496703205376, 2535301200456458802993406410752⟩, ⟨67108864, 2535301200456458802993406410880, 5070602400912917605986812821504⟩, ⟨67108864, 2535301200456458802993406410756, 10141204801825835211973625643008⟩, ⟨335544320, 12676506002282294014967032053760, 20282409603651670423947251286016⟩, ⟨738197504, 27888313205021046832927470518272, 40564819207303340847894502572032⟩, ⟨1140850688, 43100120407759799650887908982784, 81129638414606681695789005144064⟩, ⟨2214592512, 83664939615063140498782411554816, 162259276829213363391578010288128⟩, ⟨4362076160, 164794578029669822194571416698880, 324518553658426726783156020576256⟩, ⟨17179869183, 324518553658426726783156020576256, 64⟩] [([], 0, []), ([1, 2, 3, 4, 5, 6, 7, 8, 9, 10, 11, 12, 13, 14, 15, 16, 18, 19, 20, 21, 22, 23], 17, [18, 19, 20, 21, 22, 23]), ([], 24, []), ([25, 26, 27, 28, 29], 30, [])] [31, 32, 33, 34] (by kernel_rfl) (by kernel_rfl) ?_
        refine wpStages_step ?_
        try simp only [pick, List.map_nil]
        repeat (go_big_quiet_step (fail))
        refine wpQuiet_nil ?_
        intro n0
        try simp only [pick, List.map_cons, List.map_nil, List.getD_cons_zero]
        go_wp2_with (go_at_call 21; (with_reducible refine (awake27 _).mono ?_); rintro e w11 ⟨rfl, C11⟩)
        have C11' := ((Ch.refl [] w10).drewN n0).trans C11
        have hq7 : w11.cell? ⟨q, 7, none⟩ = some (.slice B1 l1.length e1) := (HXC.out _ C11').2.1
        refine stagePost_mk (by simp [pick]) ?_
        refine wpStages_step ?_
        try simp only [pick, List.map_cons, List.map_nil, List.getD_cons_zero, List.getD_cons_succ]
        repeat (go_big_quiet_step (fail))
        refine wpQuiet_nil ?_
        intro n1
        try simp only [pick, List.map_cons, List.map_nil, List.getD_cons_zero, List.getD_cons_succ]
        go_wp2_with (go_at_call 20; (with_reducible refine (qpAddrsF (P10.nil (C11'.drewN n1)) W1.out true HL1'.out).mono ?_); rintro e w12 ⟨A12, c12, rfl, own12, C12⟩)
        have C12' := (C11'.drewN n1).trans C12
        clear hq7
        have hq7 : w12.cell? ⟨q, 7, none⟩ = some (.slice B1 l1.length e1) := (HXC.out _ C12').2.1
        refine stagePost_mk ?_ ?_
        · intro o ho
          simp only [pick, List.map_cons, List.map_nil, List.getD_cons_zero, List.getD_cons_succ, List.mem_cons, List.not_mem_nil, or_false] at ho
          rcases ho with rfl | rfl | rfl | rfl | rfl | rfl
          all_goals
            refine float_any ?_
            repeat (go_big_quiet_step (fail))
            refine wpQuiet_nil ?_
            rfl
        refine wpStages_step ?_
        try simp only [pick, List.map_nil]
        repeat (go_big_quiet_step (fail))
        refine wpQuiet_nil ?_
        intro n2
        try simp only [pick, List.map_cons, List.map_nil, List.getD_cons_zero, List.getD_cons_succ]
        go_wp2_with (go_at_call 22; (with_reducible refine (eqEqA _ _ _ _ _ _ _ _ l1 (own12.drewN n2).rd (HXC.out _ (C12'.drewN n2)).2.2.2 (Nat.le_refl _) (Nat.le_refl _) (by omega) HE1.out.2).mono ?_); rintro e w13 ⟨rfl, C13⟩)
        have C13' := (C12'.drewN n2).trans C13
        refine stagePost_mk (by simp [pick]) ?_
        refine wpStages_step ?_
        try simp only [pick, List.map_cons, List.map_nil, List.getD_cons_zero, List.getD_cons_succ]
        repeat (go_big_quiet_step (fail))
        refine wpQuiet_nil ?_
        intro n3
        try simp only [pick, List.map_cons, List.map_nil, List.getD_cons_zero, List.getD_cons_succ]
        go_wp2_with (go_at_call 20; (with_reducible refine (qpAddrsF (P10.nil (C13'.drewN n3)) W1.out false HOT'.out).mono ?_); rintro e w14 ⟨A14, c14, rfl, own14, C14⟩)
        have C14' := (C13'.drewN n3).trans C14
        refine stagePost_mk (by simp [pick]) ?_
        refine wpStages_last ?_
        try simp only [pick, List.map_cons, List.map_nil, List.getD_cons_zero, List.getD_cons_succ]
        repeat (go_big_quiet_step (fail))
        refine wpQuiet_nil ?_
        intro n4
        go_wp2_with fail
        go_ret
        exact ⟨rfl, (CC10.trans (C14'.drewN n4)).nil_below⟩

end Go.Proofs.YtjabeabbaambcaaDoor
