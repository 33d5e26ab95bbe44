/- trie.Trie[string]: New, rootOf, Insert (printed by mk_trie.py). -/
import Derived.Test.YtjpiekljjhgmoaaDoorTrN
import Derived.Deep.DeepCutAuto
import Derived.Deep.CutRange
namespace Go.Proofs.YtjpiekljjhgmoaaDoor
open Go.RowKit

theorem trNewS (w : World) : Calls Tryd.prog 42 #[] w fun e w' => e = .returned (.pointer (some ⟨w.heap.size, 0, none⟩)) ∧ TrI 124 115 w' w.heap.size (fun _ => none) 0 ∧ Ch [] w w' := by
  go_enter Tryd.func42, Tryd.ntmps42
  go_wp2_with fail
  go_ret
  exact ⟨rfl, ⟨Blk.new _ _ _, fun _ _ h => (by cases h), fun _ _ _ _ h => (by cases h), fun _ _ h => (by cases h), fun _ _ _ h => absurd rfl h⟩, (Ch.refl _ _).alloc _⟩
theorem trRootS (g : Nat) (six : Bool) (bs : List Int) (ro : Nat) (hro : (if six then 1 else 0) = ro) (w : World) : Calls Tryd.prog 67 #[.pointer (some ⟨g, 0, none⟩), .agg (addrC six bs).toArray] w fun e w' => e = .returned (.pointer (some ⟨g, ro, none⟩)) ∧ Ch [] w w' := by
  subst hro
  have hB : Blk (w.alloc (.cells (addrC six bs).toArray 24)) w.heap.size 24 (addrC six bs) := Blk.new w _ _
  have c0 : (w.alloc (.cells (addrC six bs).toArray 24)).cell? ⟨w.heap.size, 0, none⟩ = some (.bool six) := hB.cell 0
  generalize (addrC six bs).toArray = cs at c0 ⊢
  clear hB
  cases six
  all_goals
    go_enter Tryd.func67, Tryd.ntmps67
    go_wp2_with fail
    go_ret
    exact ⟨rfl, (Ch.refl _ _).alloc _⟩
set_option maxRecDepth 20000 in
set_option maxHeartbeats 8000000 in
theorem trInsertS (w : World) (g : Nat) (nd : Tri) (n : Int) (F : List Nat) (hT : TrI 124 115 w g nd n) (hgF : g ∈ F) (hF : ∀ κ d, nd κ = some d → d.b ∈ F) (hFl : ∀ b ∈ F, b < w.heap.size) (hn : 0 ≤ n ∧ n ≤ 1000000) (p : Pfx) (hp : OkP p) (x : ByteArray) :
    Calls Tryd.prog 44 #[.pointer (some ⟨g, 0, none⟩), .agg (pfxC p).toArray, .string x] w fun e w' => e = .returned (.bool true) ∧ ∃ nd' n', TrI 124 115 w' g nd' n' ∧ (∀ κ, nd'.val κ = if κ = keyP p then some (.string x) else nd.val κ) ∧ (if nd.val (keyP p) = none then n + 1 else n) = n' ∧ Ch F w w' ∧ ∀ κ d, nd' κ = some d → d.b ∈ F ∨ w.heap.size ≤ d.b := by
  have hva := hp.va
  have hgd := hp.g
  have hrng := hp.rng
  have HVP := hid (validPfx p.1 p.2.1 p.2.2 hp.g)
  rw [show (p.1, p.2.1, p.2.2) = p from rfl, hp.v] at HVP
  obtain ⟨m, hm⟩ : ∃ m : Nat, p.2.2 = m := ⟨p.2.2.toNat, by have := hp.nat.1; omega⟩
  have hkey : keyP p = keyA p.1 p.2.1 m := by unfold keyP; rw [hm, Int.toNat_natCast]
  have BP0 : Blk (w.alloc (.cells (pfxC p).toArray 33)) w.heap.size 33 (pfxC p) := Blk.new w _ _
  have HIP := hid (pfx_inf (p := p) hp.g.1)
  have h17 := pfx_bits (p := p) hp.g.1
  have haddr : ∀ j v, (addrC p.1 p.2.1)[j]? = some v → (pfxC p)[0 + j]? = some v := fun j v hj => pfx_addr (p := p) hj
  have C0 : Ch F w (w.alloc (.cells (pfxC p).toArray 33)) := (Ch.refl _ _).alloc _
  rw [hkey]
  obtain ⟨nx, hnx⟩ : ∃ nx, (if nd.val (keyA p.1 p.2.1 m) = none then n + 1 else n) = nx := ⟨_, rfl⟩
  rw [hnx]
  have HNX := hid hnx
  clear hnx
  rw [hm] at hrng h17
  obtain ⟨six, bs, pn⟩ := p
  simp only at HNX hm hva hgd hrng h17 haddr hkey
  have hL := bitL_le six
  have HI := hid (addr_inf (six := six) hgd.1)
  generalize pfxC (six, bs, pn) = cs at BP0 HIP h17 haddr C0 HVP ⊢
  have HA := hid haddr
  have H17 := hid h17
  have HNF := hid hF
  have HFL := hid hFl
  clear hp hm hkey haddr h17 hF hFl
  have T0 := hT.nil ((Ch.refl [] w).alloc (.cells cs.toArray 33))
  have HVA := hid hva
  have HGD := hid hgd
  have HPO : Hid (∀ k : Nat, k ≤ m → ∃ (y0 y1 y2 y3 y4 y5 y6 y7 y8 y9 y10 y11 y12 y13 y14 y15 : Int), GoodA [y0, y1, y2, y3, y4, y5, y6, y7, y8, y9, y10, y11, y12, y13, y14, y15] ∧ OkP (six, [y0, y1, y2, y3, y4, y5, y6, y7, y8, y9, y10, y11, y12, y13, y14, y15], (k : Int)) ∧ keyP (six, [y0, y1, y2, y3, y4, y5, y6, y7, y8, y9, y10, y11, y12, y13, y14, y15], (k : Int)) = keyA six bs k ∧ ∀ w, Calls Tryd.prog 38 #[.agg (addrC six bs).toArray, .int .i64 k] w fun e w' => e = .returned (.tuple #[.agg #[.bool six, .int .u8 y0, .int .u8 y1, .int .u8 y2, .int .u8 y3, .int .u8 y4, .int .u8 y5, .int .u8 y6, .int .u8 y7, .int .u8 y8, .int .u8 y9, .int .u8 y10, .int .u8 y11, .int .u8 y12, .int .u8 y13, .int .u8 y14, .int .u8 y15, .int .i64 k], .bool true]) ∧ Ch [] w w') := fun k hk => by
    obtain ⟨y0, y1, y2, y3, y4, y5, y6, y7, y8, y9, y10, y11, y12, y13, y14, y15, hy⟩ := len16 (trunc_good hgd k).1
    have h1 := pfxOfP six bs hgd hva k (by omega)
    have h2 := okP_of hgd hva (k := k) (by omega)
    have h3 := keyP_of (six := six) hgd (k := k) (by omega)
    rw [hy] at h1 h2 h3
    exact ⟨y0, y1, y2, y3, y4, y5, y6, y7, y8, y9, y10, y11, y12, y13, y14, y15, h2.g, h2, h3, h1⟩
  have HBT : Hid (∀ k : Nat, k < m → ∀ w, Calls Tryd.prog 39 #[.agg (addrC six bs).toArray, .int .i64 k] w fun e w' => e = .returned (.int .i64 (bitA bs k)) ∧ Ch [] w w') := fun k hk w => bitP six bs hgd k (by omega) w
  clear hva hgd
  have hrt := LinkAt.root (nd := nd) (g := g) six
  obtain ⟨ro, hro⟩ : ∃ ro : Nat, (if six then 1 else 0) = ro := ⟨_, rfl⟩
  rw [hro] at hrt
  have HRT := hid (fun w => trRootS g six bs ro hro w)
  clear hro
  generalize addrC six bs = ac at HI HA HPO HBT HRT
  go_enter Tryd.func44, Tryd.ntmps44
  go_wp2_with (first
    | (refine wpList_load_want rfl 33 _ rfl w.heap.size 0 rfl cs _ BP0.range Tryd.underlying33 rfl HIP.out ?_)
    | (refine wpList_load_want rfl 24 _ rfl w.heap.size 0 rfl ac _ (BP0.rangeMid 0 _ HA.out) Tryd.underlying24 rfl HI.out ?_)
    | (go_at_call 36; (with_reducible refine (HVP.out _).mono ?_); rintro e wn ⟨rfl, Cn⟩; replace BP0 := BP0.ch Cn (by simp); replace T0 := T0.nil Cn; replace C0 := C0.step Cn (by simp); clear Cn)
    | (go_at_call 67; (with_reducible refine (HRT.out _).mono ?_); rintro e wn ⟨rfl, Cn⟩; replace BP0 := BP0.ch Cn (by simp); replace T0 := T0.nil Cn; replace C0 := C0.step Cn (by simp); clear Cn))
  go_loopw [7, 8] (fun at_ i wr => ∃ (k lb lo : Nat) (nd' : Tri), at_ = .pointer (some ⟨lb, lo, none⟩) ∧ i = .int .i64 k ∧ k ≤ m ∧ LinkAt nd' g (keyA six bs k) ⟨lb, lo, none⟩ ∧ TrI 124 115 wr g nd' n ∧ Hid (∀ κ, nd'.val κ = nd.val κ) ∧ Hid (∀ κ d, nd' κ = some d → d.b ∈ F ∨ w.heap.size < d.b) ∧ Ch F w wr ∧ Blk wr w.heap.size 33 cs) (fun _ i _ => m - (intOf i).toNat)
  case atStart => exact ⟨0, g, _, nd, rfl, rfl, by omega, hrt, T0, fun _ => rfl, fun κ d h => .inl (HNF.out κ d h), C0, BP0⟩
  case round =>
    clear T0 C0 BP0 hrt HRT
    obtain ⟨k, lb, lo, nd', rfl, rfl, hk, hl, hT', HV, HB, CC, BP⟩ := hrel
    have e_la : wr.cell? ⟨lb, lo, none⟩ = some (ptrV (nd' (keyA six bs k))) := hl.cell hT'
    have f_la : wr.frozen? ⟨lb, lo, none⟩ = false := hl.frozen hT'
    cases hnode : nd' (keyA six bs k) with
    | none =>
      rw [hnode] at e_la
      replace e_la : wr.cell? ⟨lb, lo, none⟩ = some (.pointer none) := e_la
      have HLC : Hid (∀ w', Ch [] wr w' → w'.cell? ⟨lb, lo, none⟩ = some (.pointer none) ∧ w'.frozen? ⟨lb, lo, none⟩ = false) := fun w' c => ⟨by have := hl.cell (hT'.nil c); rw [hnode] at this; exact this, hl.frozen (hT'.nil c)⟩
      obtain ⟨y0, y1, y2, y3, y4, y5, y6, y7, y8, y9, y10, y11, y12, y13, y14, y15, hgq, hokq, hkeyq, HPF⟩ := HPO.out k hk
      replace HPF := hid HPF
      have hpar : ∀ c, nd' (keyA six bs k ++ [c]) = none := fun c => by
        cases hc : nd' (keyA six bs k ++ [c]) with
        | none => rfl
        | some d => exact absurd hnode (hT'.par _ c (keyA_ne _ _ _) (by rw [hc]; simp))
      have szr := CC.size
      have HIQ : Hid ((Tryd.prog.info? 33).map (·.size) = some (List.length ([.bool six, .int .u8 y0, .int .u8 y1, .int .u8 y2, .int .u8 y3, .int .u8 y4, .int .u8 y5, .int .u8 y6, .int .u8 y7, .int .u8 y8, .int .u8 y9, .int .u8 y10, .int .u8 y11, .int .u8 y12, .int .u8 y13, .int .u8 y14, .int .u8 y15, .int .i64 k] : List Value))) := pfx_inf (p := (six, [y0, y1, y2, y3, y4, y5, y6, y7, y8, y9, y10, y11, y12, y13, y14, y15], (k : Int))) rfl
      go_upto_region 9 with (first
        | (refine wpList_load_want rfl 24 _ rfl w.heap.size 0 rfl ac _ (BP.rangeMid 0 _ HA.out) Tryd.underlying24 rfl HI.out ?_)
        | (go_at_call 38; (with_reducible refine (HPF.out _).mono ?_); rintro e w1 ⟨rfl, C1⟩; have sz1 := C1.size)
        | (refine wpList_storeB rfl 33 _ _ rfl w1.heap.size 33 (pfxC (false, zeros, 0)) [.bool six, .int .u8 y0, .int .u8 y1, .int .u8 y2, .int .u8 y3, .int .u8 y4, .int .u8 y5, .int .u8 y6, .int .u8 y7, .int .u8 y8, .int .u8 y9, .int .u8 y10, .int .u8 y11, .int .u8 y12, .int .u8 y13, .int .u8 y14, .int .u8 y15, .int .i64 k] rfl rfl (Blk.new _ _ _) HIQ.out rfl (pfx_one (six, [y0, y1, y2, y3, y4, y5, y6, y7, y8, y9, y10, y11, y12, y13, y14, y15], (k : Int))) ?_; intro w3 B3 C3 Z3; have C3' := (C1.alloc _).step C3 (fun i hi => .inr (by simp at hi; omega)); have e_la2 := (HLC.out _ (C3'.alloc (.cells #[.bool six, .int .u8 y0, .int .u8 y1, .int .u8 y2, .int .u8 y3, .int .u8 y4, .int .u8 y5, .int .u8 y6, .int .u8 y7, .int .u8 y8, .int .u8 y9, .int .u8 y10, .int .u8 y11, .int .u8 y12, .int .u8 y13, .int .u8 y14, .int .u8 y15, .int .i64 k, .bool false, .string ⟨#[]⟩, .pointer none, .pointer none] 124))).1; have f_la2 := (HLC.out _ (C3'.alloc (.cells #[.bool six, .int .u8 y0, .int .u8 y1, .int .u8 y2, .int .u8 y3, .int .u8 y4, .int .u8 y5, .int .u8 y6, .int .u8 y7, .int .u8 y8, .int .u8 y9, .int .u8 y10, .int .u8 y11, .int .u8 y12, .int .u8 y13, .int .u8 y14, .int .u8 y15, .int .i64 k, .bool false, .string ⟨#[]⟩, .pointer none, .pointer none] 124))).2)
        | (refine wpList_load_want rfl 33 _ rfl w1.heap.size 0 rfl [.bool six, .int .u8 y0, .int .u8 y1, .int .u8 y2, .int .u8 y3, .int .u8 y4, .int .u8 y5, .int .u8 y6, .int .u8 y7, .int .u8 y8, .int .u8 y9, .int .u8 y10, .int .u8 y11, .int .u8 y12, .int .u8 y13, .int .u8 y14, .int .u8 y15, .int .i64 k] _ B3.range Tryd.underlying33 rfl HIQ.out ?_))
      have hz3 : w3.heap.size = w1.heap.size + 1 := by rw [Z3]; simp
      have TG := (hT'.nil C3').grow (by decide) hl hnode (six, [y0, y1, y2, y3, y4, y5, y6, y7, y8, y9, y10, y11, y12, y13, y14, y15], (k : Int)) (.string ⟨#[]⟩) hokq hkeyq [.bool six, .int .u8 y0, .int .u8 y1, .int .u8 y2, .int .u8 y3, .int .u8 y4, .int .u8 y5, .int .u8 y6, .int .u8 y7, .int .u8 y8, .int .u8 y9, .int .u8 y10, .int .u8 y11, .int .u8 y12, .int .u8 y13, .int .u8 y14, .int .u8 y15, .int .i64 k, .bool false, .string ⟨#[]⟩, .pointer none, .pointer none] rfl (w1.heap.size + 1) hz3
      have HVG : Hid _ := val_grow HV.out hnode (w1.heap.size + 1) (six, [y0, y1, y2, y3, y4, y5, y6, y7, y8, y9, y10, y11, y12, y13, y14, y15], (k : Int)) (.string ⟨#[]⟩)
      have ltp := BP.lt
      have szw := C3'.size
      have HBG : Hid _ := blk_set (Q := fun z => z ∈ F ∨ w.heap.size < z) (κ := keyA six bs k) HB.out ⟨w1.heap.size + 1, (six, [y0, y1, y2, y3, y4, y5, y6, y7, y8, y9, y10, y11, y12, y13, y14, y15], (k : Int)), false, .string ⟨#[]⟩⟩ (.inr (by simp only; omega))
      have hlb := hl.blk hgF HB.out
      have CG : Ch F w ((w3.alloc (.cells #[.bool six, .int .u8 y0, .int .u8 y1, .int .u8 y2, .int .u8 y3, .int .u8 y4, .int .u8 y5, .int .u8 y6, .int .u8 y7, .int .u8 y8, .int .u8 y9, .int .u8 y10, .int .u8 y11, .int .u8 y12, .int .u8 y13, .int .u8 y14, .int .u8 y15, .int .i64 k, .bool false, .string ⟨#[]⟩, .pointer none, .pointer none] 124)).setCell ⟨lb, lo, none⟩ (.pointer (some ⟨w1.heap.size + 1, 0, none⟩))) := ((CC.step C3' (by simp)).alloc _).setCell (hlb.imp id (fun h => by simp only at h ⊢; omega)) _
      have BG : Blk ((w3.alloc (.cells #[.bool six, .int .u8 y0, .int .u8 y1, .int .u8 y2, .int .u8 y3, .int .u8 y4, .int .u8 y5, .int .u8 y6, .int .u8 y7, .int .u8 y8, .int .u8 y9, .int .u8 y10, .int .u8 y11, .int .u8 y12, .int .u8 y13, .int .u8 y14, .int .u8 y15, .int .i64 k, .bool false, .string ⟨#[]⟩, .pointer none, .pointer none] 124)).setCell ⟨lb, lo, none⟩ (.pointer (some ⟨w1.heap.size + 1, 0, none⟩))) w.heap.size 33 cs := ((BP.ch C3' (by simp)).alloc _).far (by
        rcases hlb with h | h
        · have := HFL.out _ h; simp only at this ⊢; omega
        · simp only at h ⊢; omega) _
      have hlG := hl.set (some ⟨w1.heap.size + 1, (six, [y0, y1, y2, y3, y4, y5, y6, y7, y8, y9, y10, y11, y12, y13, y14, y15], (k : Int)), false, .string ⟨#[]⟩⟩)
      have hdG := Tri.set_same nd' (keyA six bs k) (some ⟨w1.heap.size + 1, (six, [y0, y1, y2, y3, y4, y5, y6, y7, y8, y9, y10, y11, y12, y13, y14, y15], (k : Int)), false, .string ⟨#[]⟩⟩)
      generalize hdx : (⟨w1.heap.size + 1, (six, [y0, y1, y2, y3, y4, y5, y6, y7, y8, y9, y10, y11, y12, y13, y14, y15], (k : Int)), false, .string ⟨#[]⟩⟩ : ND) = d at TG HVG HBG hlG hdG
      generalize nd'.set (keyA six bs k) (some d) = nd2 at TG HVG HBG hlG hdG
      generalize (w3.alloc (.cells #[.bool six, .int .u8 y0, .int .u8 y1, .int .u8 y2, .int .u8 y3, .int .u8 y4, .int .u8 y5, .int .u8 y6, .int .u8 y7, .int .u8 y8, .int .u8 y9, .int .u8 y10, .int .u8 y11, .int .u8 y12, .int .u8 y13, .int .u8 y14, .int .u8 y15, .int .i64 k, .bool false, .string ⟨#[]⟩, .pointer none, .pointer none] 124)).setCell ⟨lb, lo, none⟩ (.pointer (some ⟨w1.heap.size + 1, 0, none⟩)) = wx at TG CG BG ⊢
      clear hdx hl hT' HV HB CC BP e_la f_la hnode hpar HLC
      have e_la : wx.cell? ⟨lb, lo, none⟩ = some (.pointer (some ⟨d.b, 0, none⟩)) := by have := hlG.cell TG; rw [hdG] at this; exact this
      have e17 : wx.cell? ⟨w.heap.size, 17, none⟩ = some (.int .i64 m) := (BG.cell 17).trans H17.out
      by_cases km : k = m
      · subst km
        have hBn := TG.node _ _ hdG
        have hl16 := TG.l16 hdG
        have e18 : wx.cell? ⟨d.b, 18, none⟩ = some (.bool d.pr) := (hBn.cell 18).trans (nodeC_at hl16 _ _ 0)
        have e19 : wx.cell? ⟨d.b, 19, none⟩ = some d.x := (hBn.cell 19).trans (nodeC_at hl16 _ _ 1)
        have f18 := hBn.frozen 18
        have f19 := hBn.frozen 19
        have eg2 : wx.cell? ⟨g, 2, none⟩ = some (.int .i64 n) := TG.root.cell 2
        have fg2 := TG.root.frozen 2
        have hbn : d.b ≠ g := TG.ne (by decide) hdG
        have hbF := HBG.out _ _ hdG
        have HVK := hid (HVG.out (keyA six bs k))
        obtain ⟨b, q, pr, x0⟩ := d
        simp only at e_la e18 e19 f18 f19 hbn hbF
        cases pr
        · have hvn : nd.val (keyA six bs k) = none := by rw [← HVK.out, Tri.val, hdG]
          have HVN := hid hvn
          clear hvn hBn hl16
          go_wp2_with fail
          go_ret
          refine ⟨rfl, nd2.set (keyA six bs k) (some ⟨b, q, true, .string x⟩), n + 1, (TG.count (by decide) (n + 1)).put (by decide) hdG true (.string x), val_put HVG.out b q (.string x), by rw [← HNX.out, if_pos HVN.out], ((CG.setCell (.inl hgF) _).setCell (hbF.imp id (fun h => by simp only; omega)) _).setCell (hbF.imp id (fun h => by simp only; omega)) _, fun κ d hd => (blk_set (Q := fun z => z ∈ F ∨ w.heap.size < z) HBG.out ⟨b, q, true, .string x⟩ hbF κ d hd).imp id Nat.le_of_lt⟩
        · have hvn : nd.val (keyA six bs k) = some x0 := by rw [← HVK.out, Tri.val, hdG]
          have HVN := hid hvn
          clear hvn hBn hl16
          go_wp2_with fail
          go_ret
          refine ⟨rfl, nd2.set (keyA six bs k) (some ⟨b, q, true, .string x⟩), n, TG.put (by decide) hdG true (.string x), val_put HVG.out b q (.string x), by (rw [← HNX.out, if_neg]; rw [HVN.out]; simp), (CG.setCell (hbF.imp id (fun h => by simp only; omega)) _).setCell (hbF.imp id (fun h => by simp only; omega)) _, fun κ d hd => (blk_set (Q := fun z => z ∈ F ∨ w.heap.size < z) HBG.out ⟨b, q, true, .string x⟩ hbF κ d hd).imp id Nat.le_of_lt⟩
      · have hkm : k < m := by omega
        have hkmi : ¬ (k : Int) = m := by omega
        have HBIT := hid (HBT.out k hkm)
        have HRA : Hid (∀ w', Ch [] wx w' → w'.rangeAt w.heap.size 0 ac) := fun w' c => (BG.ch c (by simp)).rangeMid 0 _ HA.out
        have k_la : ∀ y : After wx, y.w.cell? ⟨lb, lo, none⟩ = some (.pointer (some ⟨d.b, 0, none⟩)) := fun y => by have := hlG.cell (TG.nil y.ch); rw [hdG] at this; exact this
        have hnx := LinkAt.next (g := g) hdG
        rcases bit_rng bs k with h0 | h0
        · rw [h0] at HBIT hnx
          go_upto_region 10 with fail
          refine wp_region_quietA (wx) (by kernel_rfl) (by kernel_rfl) (Ch.refl _ _) ?_
          repeat (first
            | (go_big_quiet_want; refine quiet_rowA 24 _ rfl w.heap.size 0 rfl ac _ HRA.out Tryd.underlying24 rfl HI.out ?_; simp only [Act.put, List.setIfInBounds_toArray, List.set_cons_succ, List.set_cons_zero]; go_big_quiet_on)
            | go_big_quiet_step (first
              | (go_at_call 39; with_reducible exact after_of (HBIT.out _))))
          refine wpQuiet_nil ?_
          intro wq hwq
          go_wp2_with fail
          go_roundw
          case rel => exact ⟨k + 1, d.b, 20, nd2, rfl, by go_num, by omega, hnx, TG.nil hwq, HVG, HBG, CG.step hwq (by simp), BG.ch hwq (by simp)⟩
          case measure => simp [intOf]; omega
        · rw [h0] at HBIT hnx
          go_upto_region 10 with fail
          refine wp_region_quietA (wx) (by kernel_rfl) (by kernel_rfl) (Ch.refl _ _) ?_
          repeat (first
            | (go_big_quiet_want; refine quiet_rowA 24 _ rfl w.heap.size 0 rfl ac _ HRA.out Tryd.underlying24 rfl HI.out ?_; simp only [Act.put, List.setIfInBounds_toArray, List.set_cons_succ, List.set_cons_zero]; go_big_quiet_on)
            | go_big_quiet_step (first
              | (go_at_call 39; with_reducible exact after_of (HBIT.out _))))
          refine wpQuiet_nil ?_
          intro wq hwq
          go_wp2_with fail
          go_roundw
          case rel => exact ⟨k + 1, d.b, 21, nd2, rfl, by go_num, by omega, hnx, TG.nil hwq, HVG, HBG, CG.step hwq (by simp), BG.ch hwq (by simp)⟩
          case measure => simp [intOf]; omega

    | some d =>
      have hlG := hl
      have hdG := hnode
      have TG := hT'
      have HVG := HV
      have HBG := HB
      have CG := CC
      have BG := BP
      have e_q : wr.cell? ⟨lb, lo, none⟩ = some (.pointer (some ⟨d.b, 0, none⟩)) := by have := hl.cell hT'; rw [hnode] at this; exact this
      clear hl hT' HV HB CC BP e_la f_la
      go_upto_region 9 with fail
      clear e_q
      have e_la : wr.cell? ⟨lb, lo, none⟩ = some (.pointer (some ⟨d.b, 0, none⟩)) := by have := hlG.cell TG; rw [hdG] at this; exact this
      have e17 : wr.cell? ⟨w.heap.size, 17, none⟩ = some (.int .i64 m) := (BG.cell 17).trans H17.out
      by_cases km : k = m
      · subst km
        have hBn := TG.node _ _ hdG
        have hl16 := TG.l16 hdG
        have e18 : wr.cell? ⟨d.b, 18, none⟩ = some (.bool d.pr) := (hBn.cell 18).trans (nodeC_at hl16 _ _ 0)
        have e19 : wr.cell? ⟨d.b, 19, none⟩ = some d.x := (hBn.cell 19).trans (nodeC_at hl16 _ _ 1)
        have f18 := hBn.frozen 18
        have f19 := hBn.frozen 19
        have eg2 : wr.cell? ⟨g, 2, none⟩ = some (.int .i64 n) := TG.root.cell 2
        have fg2 := TG.root.frozen 2
        have hbn : d.b ≠ g := TG.ne (by decide) hdG
        have hbF := HBG.out _ _ hdG
        have HVK := hid (HVG.out (keyA six bs k))
        obtain ⟨b, q, pr, x0⟩ := d
        simp only at e_la e18 e19 f18 f19 hbn hbF
        cases pr
        · have hvn : nd.val (keyA six bs k) = none := by rw [← HVK.out, Tri.val, hdG]
          have HVN := hid hvn
          clear hvn hBn hl16
          go_wp2_with fail
          go_ret
          refine ⟨rfl, nd'.set (keyA six bs k) (some ⟨b, q, true, .string x⟩), n + 1, (TG.count (by decide) (n + 1)).put (by decide) hdG true (.string x), val_put HVG.out b q (.string x), by rw [← HNX.out, if_pos HVN.out], ((CG.setCell (.inl hgF) _).setCell (hbF.imp id (fun h => by simp only; omega)) _).setCell (hbF.imp id (fun h => by simp only; omega)) _, fun κ d hd => (blk_set (Q := fun z => z ∈ F ∨ w.heap.size < z) HBG.out ⟨b, q, true, .string x⟩ hbF κ d hd).imp id Nat.le_of_lt⟩
        · have hvn : nd.val (keyA six bs k) = some x0 := by rw [← HVK.out, Tri.val, hdG]
          have HVN := hid hvn
          clear hvn hBn hl16
          go_wp2_with fail
          go_ret
          refine ⟨rfl, nd'.set (keyA six bs k) (some ⟨b, q, true, .string x⟩), n, TG.put (by decide) hdG true (.string x), val_put HVG.out b q (.string x), by (rw [← HNX.out, if_neg]; rw [HVN.out]; simp), (CG.setCell (hbF.imp id (fun h => by simp only; omega)) _).setCell (hbF.imp id (fun h => by simp only; omega)) _, fun κ d hd => (blk_set (Q := fun z => z ∈ F ∨ w.heap.size < z) HBG.out ⟨b, q, true, .string x⟩ hbF κ d hd).imp id Nat.le_of_lt⟩
      · have hkm : k < m := by omega
        have hkmi : ¬ (k : Int) = m := by omega
        have HBIT := hid (HBT.out k hkm)
        have HRA : Hid (∀ w', Ch [] wr w' → w'.rangeAt w.heap.size 0 ac) := fun w' c => (BG.ch c (by simp)).rangeMid 0 _ HA.out
        have k_la : ∀ y : After wr, y.w.cell? ⟨lb, lo, none⟩ = some (.pointer (some ⟨d.b, 0, none⟩)) := fun y => by have := hlG.cell (TG.nil y.ch); rw [hdG] at this; exact this
        have hnx := LinkAt.next (g := g) hdG
        rcases bit_rng bs k with h0 | h0
        · rw [h0] at HBIT hnx
          go_upto_region 10 with fail
          refine wp_region_quietA (wr) (by kernel_rfl) (by kernel_rfl) (Ch.refl _ _) ?_
          repeat (first
            | (go_big_quiet_want; refine quiet_rowA 24 _ rfl w.heap.size 0 rfl ac _ HRA.out Tryd.underlying24 rfl HI.out ?_; simp only [Act.put, List.setIfInBounds_toArray, List.set_cons_succ, List.set_cons_zero]; go_big_quiet_on)
            | go_big_quiet_step (first
              | (go_at_call 39; with_reducible exact after_of (HBIT.out _))))
          refine wpQuiet_nil ?_
          intro wq hwq
          go_wp2_with fail
          go_roundw
          case rel => exact ⟨k + 1, d.b, 20, nd', rfl, by go_num, by omega, hnx, TG.nil hwq, HVG, HBG, CG.step hwq (by simp), BG.ch hwq (by simp)⟩
          case measure => simp [intOf]; omega
        · rw [h0] at HBIT hnx
          go_upto_region 10 with fail
          refine wp_region_quietA (wr) (by kernel_rfl) (by kernel_rfl) (Ch.refl _ _) ?_
          repeat (first
            | (go_big_quiet_want; refine quiet_rowA 24 _ rfl w.heap.size 0 rfl ac _ HRA.out Tryd.underlying24 rfl HI.out ?_; simp only [Act.put, List.setIfInBounds_toArray, List.set_cons_succ, List.set_cons_zero]; go_big_quiet_on)
            | go_big_quiet_step (first
              | (go_at_call 39; with_reducible exact after_of (HBIT.out _))))
          refine wpQuiet_nil ?_
          intro wq hwq
          go_wp2_with fail
          go_roundw
          case rel => exact ⟨k + 1, d.b, 21, nd', rfl, by go_num, by omega, hnx, TG.nil hwq, HVG, HBG, CG.step hwq (by simp), BG.ch hwq (by simp)⟩
          case measure => simp [intOf]; omega

end Go.Proofs.YtjpiekljjhgmoaaDoor
