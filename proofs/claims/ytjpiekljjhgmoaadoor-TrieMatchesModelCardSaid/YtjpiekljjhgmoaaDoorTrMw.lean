/- The law's walk (printed by mk_trmw.py). -/
import Derived.Test.YtjpiekljjhgmoaaDoorTrMp
import Derived.Test.YtjpiekljjhgmoaaDoorRefPfx
import Derived.Deep.DeepCutAuto
import Derived.Deep.CutRange
namespace Go.Proofs.YtjpiekljjhgmoaaDoor
open Go.RowKit

def selN (six : Bool) (bs : List Int) (n : Nat) (e : Ent) : Bool := (e.1.2.2 == (n : Int)) && contP e.1 six bs
def walkN (X : List Ent) (six : Bool) (bs : List Int) (n : Nat) : List Pfx := (X.filter (selN six bs n)).map (·.1)
def walkL (X : List Ent) (six : Bool) (bs : List Int) (N : Nat) : List Pfx := (List.range N).flatMap (walkN X six bs)
def walkI (X : List Ent) (six : Bool) (bs : List Int) (N k : Nat) : List Pfx := walkL X six bs N ++ walkN (X.take k) six bs N
theorem walkL_succ (X : List Ent) (six : Bool) (bs : List Int) (N : Nat) : walkL X six bs (N + 1) = walkL X six bs N ++ walkN X six bs N := by
  unfold walkL
  rw [List.range_succ, List.flatMap_append]
  simp
theorem walkI_zero (X : List Ent) (six : Bool) (bs : List Int) (N : Nat) : walkI X six bs N 0 = walkL X six bs N := by simp [walkI, walkN]
theorem walkI_full {X : List Ent} {six : Bool} {bs : List Int} {N k : Nat} (h : X.length ≤ k) : walkI X six bs N k = walkL X six bs (N + 1) := by
  rw [walkI, List.take_of_length_le h, walkL_succ]
theorem walkI_succ {X : List Ent} {six : Bool} {bs : List Int} {N k : Nat} {x : Ent} (h : X[k]? = some x) : walkI X six bs N (k + 1) = walkI X six bs N k ++ walkN [x] six bs N := by
  unfold walkI walkN
  rw [take_one h, List.filter_append, List.map_append, List.append_assoc]
theorem pfxOwn {w : World} {B : Nat} {t : TypeId} {A : Option Addr} {n c : Nat} {acc : List Pfx} {e : Pfx} (h : Own w B t 18 A n c (acc.flatMap pfxC ++ pfxC e)) : Own w B t 18 A n c ((acc ++ [e]).flatMap pfxC) := by
  rw [List.flatMap_append]
  simpa using h
set_option maxRecDepth 20000 in
set_option maxHeartbeats 16000000 in
theorem lawWalk (six : Bool) (bs : List Int) (hg : GoodA bs) (w : World) (A : Option Addr) (n cap B : Nat) (X : List Ent) (h : Rd w B 19 A n (X.flatMap entC)) (hB : B ≤ w.heap.size) (hl : n ≤ 1000) (hG : ∀ x ∈ X, GoodA x.1.2.1) :
    Calls Tryd.prog 60 #[.slice A n cap, .agg (addrC six bs).toArray] w fun e w' => ∃ A' c', e = .returned (.slice A' (walkL X six bs 129).length c') ∧ Own w' w.heap.size 33 18 A' (walkL X six bs 129).length c' ((walkL X six bs 129).flatMap pfxC) ∧ Ch [] w w' := by
  have hf : ∀ x ∈ X, (entC x).length = 19 := fun x hx => ent_len (hG x hx).1
  obtain ⟨hn, h1⟩ := h.rangeE hf (by omega)
  have HN := hid hn
  have H1 := hid h1
  have HG := hid hG
  have HA := hid hg
  have HIA := hid (addr_inf (six := six) hg.1)
  have HCN := hid (fun (p : Pfx) (hp : GoodA p.2.1) => refContPfx p.1 p.2.1 p.2.2 hp six bs hg)
  have BA0 : Blk (w.alloc (.cells (addrC six bs).toArray 24)) w.heap.size 24 (addrC six bs) := Blk.new w _ _
  have CC0 : Ch [] w (w.alloc (.cells (addrC six bs).toArray 24)) := (Ch.refl _ _).alloc _
  generalize addrC six bs = ac at *
  clear h hn h1 hf hG hg
  go_enter Tryd.func60, Tryd.ntmps60
  go_wp2_with fail
  go_loopw [5, 6] (fun out nn wr => ∃ (N : Nat) (A2 : Option Addr) (c2 : Nat) (acc : List Pfx), out = .slice A2 acc.length c2 ∧ nn = .int .i64 N ∧ N ≤ 129 ∧ Own wr (w.heap.size + 1) 33 18 A2 acc.length c2 (acc.flatMap pfxC) ∧ Hid (acc = walkL X six bs N) ∧ acc.length ≤ N * 1000 ∧ Blk wr w.heap.size 24 ac ∧ Ch [] w wr) (fun _ nn _ => 129 - (intOf nn).toNat)
  case atStart => exact ⟨0, none, 0, [], rfl, rfl, by omega, Own.nil _ _ _ _, rfl, by simp, BA0, CC0⟩
  case round =>
    clear BA0 CC0
    obtain ⟨N, A0, c0, acc0, rfl, rfl, hN, own0, HW, hal0, BA0, CC0⟩ := hrel
    by_cases hltN : N < 129
    · have hNi : (N : Int) ≤ 128 := by omega
      go_wp2_with fail
      go_loopw [5, 7] (fun out i wr => ∃ (k : Nat) (A2 : Option Addr) (c2 : Nat) (acc : List Pfx), out = .slice A2 acc.length c2 ∧ i = .int .i64 k ∧ k ≤ n ∧ Own wr (w.heap.size + 1) 33 18 A2 acc.length c2 (acc.flatMap pfxC) ∧ Hid (acc = walkI X six bs N k) ∧ acc.length ≤ N * 1000 + k ∧ Blk wr w.heap.size 24 ac ∧ Ch [] w wr) (fun _ i _ => n - (intOf i).toNat)
      case atStart => exact ⟨0, A0, c0, acc0, rfl, rfl, by omega, own0, by show _ = _; rw [walkI_zero]; exact HW.out, by omega, BA0, CC0⟩
      case round =>
        clear own0 BA0 CC0 HW hal0
        obtain ⟨k, A2, c2, acc, rfl, rfl, hk, own, HI, hal, BA, CC⟩ := hrel
        by_cases hlt : k < n
        · obtain ⟨b1, off1, rfl, hb1, hr1⟩ := H1.out (by omega)
          obtain ⟨x, hx⟩ : ∃ x, X[k]? = some x := ⟨_, List.getElem?_eq_getElem (by rw [HN.out]; exact hlt)⟩
          have hgx := HG.out x (List.mem_of_getElem? hx)
          have HCT := hid (HCN.out x.1 hgx)
          obtain ⟨⟨qs, qb, qn⟩, qv⟩ := x
          have hq16 : qb.length = 16 := hgx.1
          obtain ⟨z0, z1, z2, z3, z4, z5, z6, z7, z8, z9, z10, z11, z12, z13, z14, z15, rfl⟩ := len16 hq16
          have HR1 : Hid (∀ w', Ch [] wr w' → w'.rangeAt b1 (off1 + k * 19) [.bool qs, .int .u8 z0, .int .u8 z1, .int .u8 z2, .int .u8 z3, .int .u8 z4, .int .u8 z5, .int .u8 z6, .int .u8 z7, .int .u8 z8, .int .u8 z9, .int .u8 z10, .int .u8 z11, .int .u8 z12, .int .u8 z13, .int .u8 z14, .int .u8 z15, .int .i64 qn]) := fun w' c j v hj => range_ch (hr1 k _ hx) (CC.trans c) (by omega) (by simp) j v (ent_pfx (e := ((qs, [z0, z1, z2, z3, z4, z5, z6, z7, z8, z9, z10, z11, z12, z13, z14, z15], qn), qv)) hj)
          have HRA : Hid (∀ w', Ch [] wr w' → w'.rangeAt w.heap.size 0 ac) := fun w' c => (BA.ch c (by simp)).range
          have HIX : Hid ((Tryd.prog.info? 33).map (·.size) = some (List.length ([.bool qs, .int .u8 z0, .int .u8 z1, .int .u8 z2, .int .u8 z3, .int .u8 z4, .int .u8 z5, .int .u8 z6, .int .u8 z7, .int .u8 z8, .int .u8 z9, .int .u8 z10, .int .u8 z11, .int .u8 z12, .int .u8 z13, .int .u8 z14, .int .u8 z15, .int .i64 qn] : List Value))) := pfx_inf (p := (qs, [z0, z1, z2, z3, z4, z5, z6, z7, z8, z9, z10, z11, z12, z13, z14, z15], qn)) rfl
          have k17 : ∀ y : After wr, y.w.cell? ⟨b1, off1 + k * 19 + 17, none⟩ = some (.int .i64 qn) := fun y => HR1.out y.w y.ch 17 _ rfl
          have HX := hid hx
          have hi0 : (0 : Int) ≤ k := by omega
          have hi1 : (k : Int) < n := by omega
          clear hx hgx hq16 H1 HG HCN
          by_cases hb : qn = (N : Int)
          · have hbb : (qn == (N : Int)) = true := by simpa using hb
            cases hc : contP (qs, [z0, z1, z2, z3, z4, z5, z6, z7, z8, z9, z10, z11, z12, z13, z14, z15], qn) six bs with
            | true =>
              have HNO : Hid (walkN [((qs, [z0, z1, z2, z3, z4, z5, z6, z7, z8, z9, z10, z11, z12, z13, z14, z15], qn), qv)] six bs N = [(qs, [z0, z1, z2, z3, z4, z5, z6, z7, z8, z9, z10, z11, z12, z13, z14, z15], qn)]) := by
                show _ = _
                unfold walkN selN
                simp [hbb, hc]
              replace HCT : Hid (∀ w, Calls Tryd.prog 13 #[.agg #[.bool qs, .int .u8 z0, .int .u8 z1, .int .u8 z2, .int .u8 z3, .int .u8 z4, .int .u8 z5, .int .u8 z6, .int .u8 z7, .int .u8 z8, .int .u8 z9, .int .u8 z10, .int .u8 z11, .int .u8 z12, .int .u8 z13, .int .u8 z14, .int .u8 z15, .int .i64 qn], .agg ac.toArray] w fun e w' => e = .returned (.bool true) ∧ Ch [] w w') := by
                show ∀ w, _
                rw [← hc]
                exact HCT.out
              clear hc hb
              go_upto_region 8 with fail
              refine wp_region_quietA (wr) (by kernel_rfl) (by kernel_rfl) (Ch.refl _ _) ?_
              repeat (first
                | (go_big_quiet_want; refine quiet_rowA 33 _ rfl b1 (off1 + k * 19) rfl [.bool qs, .int .u8 z0, .int .u8 z1, .int .u8 z2, .int .u8 z3, .int .u8 z4, .int .u8 z5, .int .u8 z6, .int .u8 z7, .int .u8 z8, .int .u8 z9, .int .u8 z10, .int .u8 z11, .int .u8 z12, .int .u8 z13, .int .u8 z14, .int .u8 z15, .int .i64 qn] _ HR1.out Tryd.underlying33 rfl HIX.out ?_; simp only [Act.put, List.setIfInBounds_toArray, List.set_cons_succ, List.set_cons_zero]; go_big_quiet_on)
                | (go_big_quiet_want; refine quiet_rowA 24 _ rfl w.heap.size 0 rfl ac _ HRA.out Tryd.underlying24 rfl HIA.out ?_; simp only [Act.put, List.setIfInBounds_toArray, List.set_cons_succ, List.set_cons_zero]; go_big_quiet_on)
                | go_big_quiet_step (first
                  | (go_at_call 13; with_reducible exact after_of (HCT.out _))))
              refine wpQuiet_nil ?_
              intro wq hwq
              have HRX : Hid (wq.rangeAt b1 (off1 + k * 19) [.bool qs, .int .u8 z0, .int .u8 z1, .int .u8 z2, .int .u8 z3, .int .u8 z4, .int .u8 z5, .int .u8 z6, .int .u8 z7, .int .u8 z8, .int .u8 z9, .int .u8 z10, .int .u8 z11, .int .u8 z12, .int .u8 z13, .int .u8 z14, .int .u8 z15, .int .i64 qn]) := HR1.out _ hwq
              have own := own.ch hwq (by simp)
              have BA := BA.ch hwq (by simp)
              have CC := CC.trans hwq
              go_wp2_with (first
                | go_big_skip
                | (refine wpList_load_want rfl 33 _ rfl b1 (off1 + k * 19) rfl [.bool qs, .int .u8 z0, .int .u8 z1, .int .u8 z2, .int .u8 z3, .int .u8 z4, .int .u8 z5, .int .u8 z6, .int .u8 z7, .int .u8 z8, .int .u8 z9, .int .u8 z10, .int .u8 z11, .int .u8 z12, .int .u8 z13, .int .u8 z14, .int .u8 z15, .int .i64 qn] _ HRX.out Tryd.underlying33 rfl HIX.out ?_)
                | (refine wpList_buildRows rfl 41 33 1 _ rfl [.bool qs, .int .u8 z0, .int .u8 z1, .int .u8 z2, .int .u8 z3, .int .u8 z4, .int .u8 z5, .int .u8 z6, .int .u8 z7, .int .u8 z8, .int .u8 z9, .int .u8 z10, .int .u8 z11, .int .u8 z12, .int .u8 z13, .int .u8 z14, .int .u8 z15, .int .i64 qn] _ 18 _ Tryd.underlying41 pfx_infoZ (by decide) (by decide) (by kernel_rfl) ?_)
                | (at_builtin; (refine wpList_app _ rfl (.tmp 35) (.tmp 41) _ rfl (w.heap.size + 1) 33 _ 18 32 Tryd.underlying41 pfx_infoZ rfl (by omega) _ _ _ _ rfl (own.alloc _) _ _ _ _ [.bool qs, .int .u8 z0, .int .u8 z1, .int .u8 z2, .int .u8 z3, .int .u8 z4, .int .u8 z5, .int .u8 z6, .int .u8 z7, .int .u8 z8, .int .u8 z9, .int .u8 z10, .int .u8 z11, .int .u8 z12, .int .u8 z13, .int .u8 z14, .int .u8 z15, .int .i64 qn] rfl (Rd.new wq 18 [.bool qs, .int .u8 z0, .int .u8 z1, .int .u8 z2, .int .u8 z3, .int .u8 z4, .int .u8 z5, .int .u8 z6, .int .u8 z7, .int .u8 z8, .int .u8 z9, .int .u8 z10, .int .u8 z11, .int .u8 z12, .int .u8 z13, .int .u8 z14, .int .u8 z15, .int .i64 qn] 1 rfl _) (List.all_eq_true.1 (pfx_one (qs, [z0, z1, z2, z3, z4, z5, z6, z7, z8, z9, z10, z11, z12, z13, z14, z15], qn))) (by unfold maxLen; omega) (by omega) (by simp only [World.size_alloc]; have := BA.lt; omega) ?_; intro A4 c4 w4 own4 ch4 at4)))
              go_roundw
              case rel =>
                have CA : Ch (blkOf A2) wq w4 := ((Ch.refl (blkOf A2) wq).alloc _).trans ch4
                have hob := own.blks
                refine ⟨k + 1, A4, c4, acc ++ [(qs, [z0, z1, z2, z3, z4, z5, z6, z7, z8, z9, z10, z11, z12, z13, z14, z15], qn)], by simp, by go_num, by omega, ?_, by rw [walkI_succ HX.out, HNO.out]; exact congrArg (· ++ [(qs, [z0, z1, z2, z3, z4, z5, z6, z7, z8, z9, z10, z11, z12, z13, z14, z15], qn)]) HI.out, by simp; omega, BA.ch CA (fun h => by have := (hob _ h).1; omega), CC.step CA (fun i hi => .inr (by have := (hob i hi).1; omega))⟩
                rw [List.length_append]
                exact pfxOwn own4
              case measure => simp [intOf]; omega
            | false =>
              have HNO : Hid (walkN [((qs, [z0, z1, z2, z3, z4, z5, z6, z7, z8, z9, z10, z11, z12, z13, z14, z15], qn), qv)] six bs N = []) := by
                show _ = _
                unfold walkN selN
                simp [hc]
              replace HCT : Hid (∀ w, Calls Tryd.prog 13 #[.agg #[.bool qs, .int .u8 z0, .int .u8 z1, .int .u8 z2, .int .u8 z3, .int .u8 z4, .int .u8 z5, .int .u8 z6, .int .u8 z7, .int .u8 z8, .int .u8 z9, .int .u8 z10, .int .u8 z11, .int .u8 z12, .int .u8 z13, .int .u8 z14, .int .u8 z15, .int .i64 qn], .agg ac.toArray] w fun e w' => e = .returned (.bool false) ∧ Ch [] w w') := by
                show ∀ w, _
                rw [← hc]
                exact HCT.out
              clear hc hb
              go_upto_region 8 with fail
              refine wp_region_quietA (wr) (by kernel_rfl) (by kernel_rfl) (Ch.refl _ _) ?_
              repeat (first
                | (go_big_quiet_want; refine quiet_rowA 33 _ rfl b1 (off1 + k * 19) rfl [.bool qs, .int .u8 z0, .int .u8 z1, .int .u8 z2, .int .u8 z3, .int .u8 z4, .int .u8 z5, .int .u8 z6, .int .u8 z7, .int .u8 z8, .int .u8 z9, .int .u8 z10, .int .u8 z11, .int .u8 z12, .int .u8 z13, .int .u8 z14, .int .u8 z15, .int .i64 qn] _ HR1.out Tryd.underlying33 rfl HIX.out ?_; simp only [Act.put, List.setIfInBounds_toArray, List.set_cons_succ, List.set_cons_zero]; go_big_quiet_on)
                | (go_big_quiet_want; refine quiet_rowA 24 _ rfl w.heap.size 0 rfl ac _ HRA.out Tryd.underlying24 rfl HIA.out ?_; simp only [Act.put, List.setIfInBounds_toArray, List.set_cons_succ, List.set_cons_zero]; go_big_quiet_on)
                | go_big_quiet_step (first
                  | (go_at_call 13; with_reducible exact after_of (HCT.out _))))
              refine wpQuiet_nil ?_
              intro wq hwq
              go_wp2_with fail
              go_roundw
              case rel => exact ⟨k + 1, A2, c2, acc, rfl, by go_num, by omega, own.ch hwq (by simp), by rw [walkI_succ HX.out, HNO.out, List.append_nil]; exact HI.out, by omega, BA.ch hwq (by simp), CC.trans hwq⟩
              case measure => simp [intOf]; omega
          · have hbb : (qn == (N : Int)) = false := by simpa using hb
            have HNO : Hid (walkN [((qs, [z0, z1, z2, z3, z4, z5, z6, z7, z8, z9, z10, z11, z12, z13, z14, z15], qn), qv)] six bs N = []) := by
              show _ = _
              unfold walkN selN
              simp [hbb]
            clear HCT
            go_upto_region 8 with fail
            refine wp_region_quietA (wr) (by kernel_rfl) (by kernel_rfl) (Ch.refl _ _) ?_
            repeat (first
              | go_big_quiet_step (fail))
            refine wpQuiet_nil ?_
            intro wq hwq
            go_wp2_with fail
            go_roundw
            case rel => exact ⟨k + 1, A2, c2, acc, rfl, by go_num, by omega, own.ch hwq (by simp), by rw [walkI_succ HX.out, HNO.out, List.append_nil]; exact HI.out, by omega, BA.ch hwq (by simp), CC.trans hwq⟩
            case measure => simp [intOf]; omega
        · obtain rfl : k = n := by omega
          have HF : Hid (acc = walkL X six bs (N + 1)) := by
            show _ = _
            rw [HI.out, walkI_full (by rw [HN.out]; exact Nat.le_refl _)]
          go_wp2_with fail
          go_roundw
          case rel => exact ⟨N + 1, A2, c2, acc, rfl, by go_num, by omega, own, HF, by omega, BA, CC⟩
          case measure => simp [intOf]; omega
    · obtain rfl : N = 129 := by omega
      go_wp2_with fail
      go_ret
      exact ⟨A0, c0, by (rw [← HW.out]) <;> rfl, by rw [← HW.out]; exact own0.base (by omega), CC0⟩
end Go.Proofs.YtjpiekljjhgmoaaDoor
