/- The walk of BasicauthParsesHeader. -/
import Derived.Test.YtlgeohjcjhhmhaaDoorLawB64
import Derived.Lib.SmallJoins
namespace Go.Proofs.YtlgeohjcjhhmhaaDoor
open Go.ChangeShapes Go.WideShapes Go.ChangeAt Go.RowKit

theorem BRow.marked (w : World) (e : TypeId) (xs : List Int) {g : Nat} (hg : w.heap.size = g) (k k' : Nat) (hk : k = xs.length) (hk' : k' = k + 1) : BRow (w.alloc (.cells (xs.map (Value.int .u8)).toArray e (k, k'))) g e xs := by
  subst hg hk hk'
  refine ⟨(xs.map (Value.int .u8)).toArray, xs.length, heap_alloc_new w _, Nat.le_refl _, by simp, fun i h => ?_⟩
  simp [at_, List.getD, h]

set_option maxRecDepth 100000 in
set_option maxHeartbeats 4000000 in
theorem basicauthParsesHeader_came {H : Type} {enc' : TypeId × Value → H} (W : World) (args : Array Value) (ds : List (DataW H)) (_ : laidMetH Tryd.prog Rows.basicauthParsesHeaderUptoRow.laid W) (hk : Rows.uptoSmall H ds = true) (h : Came enc' Tryd.prog Tryd.f10 W args ds) :
    Calls Tryd.prog 10 args W fun e W' => e = .returned (.bool true) ∧ Below W.heap.size W W' := by
  obtain ⟨v0, v1, v2, v3, d0, d1, d2, d3, rfl, a0, a1, a2, a3, hb⟩ := h.bulk4 rfl hk
  obtain ⟨s, rfl, hs⟩ := a0.stringU Tryd.underlying9 (Nat.le_refl _)
  obtain ⟨A, len, cap, zs, rfl, hl, hc, hr, hz⟩ := a1.intsU Tryd.underlying34 Tryd.underlying5 u8_cells (Nat.le_refl _)
  obtain ⟨x, rfl, hxw⟩ := a2.int Tryd.underlying5
  obtain ⟨hx0, hx1⟩ := bounds_u8 hxw
  obtain ⟨n, rfl, hn, hn'⟩ := a3.i64 Tryd.underlying3
  obtain ⟨S, hS⟩ : ∃ S, strOfNums zs = S := ⟨_, rfl⟩
  have hS1 : S.size ≤ 1048576 := by rw [← hS, strOf_size, hr.1]; omega
  have hD : ∀ s : ByteArray, ∃ x y z, s.size ≤ 1500000 → (∀ w, Calls Tryd.prog 27 #[.string s] w fun e w' => e = .returned (.tuple #[.string x, .string y, .bool z]) ∧ Ch [] w w') ∧ (∀ w, Calls Tryd.prog 28 #[.string s] w fun e w' => e = .returned (.tuple #[.string x, .string y, .bool z]) ∧ Ch [] w w') :=
    fun s => ⟨_, _, _, fun h => ⟨headP s h, headR s h⟩⟩
  have e1 := b64R S (by omega)
  have e5 := enc_size S
  generalize strOfNums (enc (numsOf S)) = E at e1 e5
  obtain ⟨p1, p2, p3, hp⟩ := hD s
  have H1 := hid (hp (by omega))
  have HD := hid hD
  have HE := hid e1
  have hEs : E.size ≤ 1398200 := by omega
  obtain ⟨q, hq⟩ : ∃ q, IntKind.u64.wrap n = q := ⟨_, rfl⟩
  have q01 : 0 ≤ q ∧ q ≤ 18446744073709551615 := by rw [← hq, IntKind.wrap_u64]; omega
  obtain ⟨q0, q1⟩ := q01
  obtain ⟨m, hm⟩ : ∃ m : Nat, q % 4 = m := ⟨(q % 4).toNat, by omega⟩
  have hm4 : m < 4 := by omega
  clear hD hp e1 e5 h a0 a1 a2 a3 hk hz hxw
  obtain ⟨y0, hy0⟩ : ∃ y, bits .and .u8 x 1 = y := ⟨_, rfl⟩
  obtain ⟨y1, hy1⟩ : ∃ y, bits .and .u8 (x / 2) 1 = y := ⟨_, rfl⟩
  obtain ⟨y2, hy2⟩ : ∃ y, bits .and .u8 (x / 4) 1 = y := ⟨_, rfl⟩
  obtain ⟨y3, hy3⟩ : ∃ y, bits .and .u8 (x / 8) 1 = y := ⟨_, rfl⟩
  obtain ⟨y4, hy4⟩ : ∃ y, bits .and .u8 (x / 16) 1 = y := ⟨_, rfl⟩
  obtain ⟨g, hg⟩ : ∃ g, W.heap.size = g := ⟨_, rfl⟩
  go_enter Tryd.func10, Tryd.ntmps10
  have kc := fun (C : Array Value) (n c : Nat) => Go.Joins.run_convert_bytes_const_at (P := Tryd.prog) W 34 5 C n c g hg.symm Tryd.underlying34 Tryd.underlying5
  go_wp2_with fail
  clear kc
  go_loopw [10] (fun i wr => ∃ (k : Nat) (ws : List Int), i = .int .i64 k ∧ k ≤ 5 ∧ BRow wr g 5 ws ∧ ws.length = 5 ∧ Ch [] W wr) (fun i _ => 5 - (intOf i).toNat)
  case atStart => exact ⟨0, [98, 97, 115, 105, 99], rfl, by omega, BRow.marked W 5 [98, 97, 115, 105, 99] hg 5 6 rfl rfl, rfl, (Ch.refl _ _).alloc _⟩
  case round =>
    obtain ⟨k, ws, rfl, hk, hB, hw5, CC⟩ := hrel
    have hglt := hB.lt
    by_cases hp : k < 5
    · have hk5 : k < ws.length := by omega
      have hcell := hB.cell hk5
      have hfro := hB.frozen hk5
      generalize at_ ws k = z at hcell
      obtain rfl | rfl | rfl | rfl | rfl : k = 0 ∨ k = 1 ∨ k = 2 ∨ k = 3 ∨ k = 4 := by omega
      all_goals
        go_wp2_with fail
        all_goals go_roundw
        all_goals first
          | exact ⟨1, ws.set _ _, rfl, by omega, hB.set hk5 _, by rw [List.length_set]; exact hw5, CC.setCell (p := ⟨g, _, none⟩) (.inr (by show _ ≤ g; omega)) _⟩
          | exact ⟨1, ws, rfl, by omega, hB, hw5, CC⟩
          | exact ⟨2, ws.set _ _, rfl, by omega, hB.set hk5 _, by rw [List.length_set]; exact hw5, CC.setCell (p := ⟨g, _, none⟩) (.inr (by show _ ≤ g; omega)) _⟩
          | exact ⟨2, ws, rfl, by omega, hB, hw5, CC⟩
          | exact ⟨3, ws.set _ _, rfl, by omega, hB.set hk5 _, by rw [List.length_set]; exact hw5, CC.setCell (p := ⟨g, _, none⟩) (.inr (by show _ ≤ g; omega)) _⟩
          | exact ⟨3, ws, rfl, by omega, hB, hw5, CC⟩
          | exact ⟨4, ws.set _ _, rfl, by omega, hB.set hk5 _, by rw [List.length_set]; exact hw5, CC.setCell (p := ⟨g, _, none⟩) (.inr (by show _ ≤ g; omega)) _⟩
          | exact ⟨4, ws, rfl, by omega, hB, hw5, CC⟩
          | exact ⟨5, ws.set _ _, rfl, by omega, hB.set hk5 _, by rw [List.length_set]; exact hw5, CC.setCell (p := ⟨g, _, none⟩) (.inr (by show _ ≤ g; omega)) _⟩
          | exact ⟨5, ws, rfl, by omega, hB, hw5, CC⟩
          | (simp only [intOf]; omega)
          | (simp [intOf])
    · obtain rfl : k = 5 := by omega
      have hrd := hB.rd
      rw [hw5] at hrd
      obtain ⟨T0, hT0⟩ : ∃ T, strOfNums ws = T := ⟨_, rfl⟩
      have hT0s : T0.size = 5 := by rw [← hT0, strOf_size, hw5]
      go_wp2_with (refine wpList_strOf rfl 34 9 5 _ rfl Tryd.underlying34 Tryd.underlying5 Tryd.underlying9 _ 5 5 _ ws rfl hrd ?_; rw [hT0])
      go_loopw [11, 12] (fun t i wr2 => ∃ (j : Nat) (T : ByteArray), i = .int .i64 j ∧ t = .string T ∧ T.size = 5 + j ∧ j ≤ m ∧ wr = wr2) (fun _ i _ => 4 - (intOf i).toNat)
      case atStart => exact ⟨0, T0, rfl, rfl, hT0s, by omega, rfl⟩
      case round =>
        obtain ⟨j, T, rfl, rfl, hTs, hjm, rfl⟩ := hrel
        by_cases hp2 : j < m
        · have hj2 : (j : Int) < m := by omega
          have g1 : T.size + 1 ≤ maxLen := by unfold maxLen; omega
          have s1 : (⟨#[32]⟩ : ByteArray).size = 1 := rfl
          go_wp2_with fail
          go_roundw
          case rel => exact ⟨j + 1, _, by go_num, rfl, by rw [ByteArray.size_append, s1]; omega, by omega, by first | trivial | rfl⟩
          case measure => simp only [intOf]; omega
        · obtain rfl : j = m := by omega
          have hr2 := hr.ch CC (Nat.le_refl _) (by simp)
          have g1 : T.size + E.size ≤ maxLen := by unfold maxLen; omega
          obtain ⟨U, hU⟩ : ∃ U, T ++ E = U := ⟨_, rfl⟩
          have hUs : U.size ≤ 1500000 := by rw [← hU, ByteArray.size_append]; omega
          obtain ⟨r1, r2, r3, hrr⟩ := HD.out U
          have H2 := hid (hrr hUs)
          clear hrr
          have CT := CC
          go_wp2_with (first
            | (refine wpList_strOf rfl 34 9 5 _ rfl Tryd.underlying34 Tryd.underlying5 Tryd.underlying9 A len cap W.heap.size zs rfl hr2 ?_; rw [hS])
            | (go_at_call 23; (with_reducible refine (HE.out _).mono ?_); rintro e w1 ⟨rfl, C1⟩; replace CT := CT.trans C1)
            | (go_at_call 27; (with_reducible refine (H1.out.1 _).mono ?_); rintro e w2 ⟨rfl, C2⟩; replace CT := CT.trans C2)
            | (go_at_call 28; (with_reducible refine (H1.out.2 _).mono ?_); rintro e w3 ⟨rfl, C3⟩; replace CT := CT.trans C3)
            | (go_at_call 27; (with_reducible refine (H2.out.1 _).mono ?_); rintro e w4 ⟨rfl, C4⟩; replace CT := CT.trans C4)
            | (go_at_call 28; (with_reducible refine (H2.out.2 _).mono ?_); rintro e w5 ⟨rfl, C5⟩; replace CT := CT.trans C5)
            | (go_at_call 21; (with_reducible refine (awake15 _).mono ?_); rintro e w6 ⟨rfl, C6⟩; replace CT := CT.trans C6))
          go_ret
          exact ⟨rfl, CT.nil_below⟩
end Go.Proofs.YtlgeohjcjhhmhaaDoor
