/- The step from a walk to a row, for any law: the call returns true and turns nothing that was there; so each argument reads as it read. -/
import Derived.Test.YtjabeabbaambcaaDoorBase
import Derived.ChangeOld
import Derived.SizedLaws
import Derived.OpenShut
import Derived.ShutString
import Derived.JoinedOf
namespace Go.Proofs.YtjabeabbaambcaaDoor
open Go.ChangeShapes Go.WideShapes Go.ChangeAt Go.RowKit

section
variable {H : Type} {enc : TypeId × Value → H} {P : Program}

theorem trodAll_lt {w : World} {base : Nat} {spare : Nat → Bool} {held : Bool} : ∀ {ts : List TypeId} {vs : List Value} {ds : List (DataW H)} {ps : List MemPlace},
    DataW.TrodAll enc P w base spare held ts vs ds ps → ∀ x ∈ ps, x.block < w.heap.size
  | [], [], [], ps, h => by cases h; intro x hx; cases hx
  | t :: ts, v :: vs, d :: ds, ps, ⟨p, q, ⟨n, hn⟩, hq, e⟩ => by
    intro x hx
    rw [e, List.mem_append] at hx
    rcases hx with hx | hx
    · exact DataW.trod_lt n _ _ _ hn x hx
    · exact trodAll_lt hq x hx
  | [], _ :: _, _, _, h => h.elim
  | [], [], _ :: _, _, h => h.elim
  | _ :: _, [], _, _, h => h.elim
  | _ :: _, _ :: _, [], _, h => h.elim

theorem trodAll_len {w : World} {base : Nat} {spare : Nat → Bool} {held : Bool} : ∀ {ts : List TypeId} {vs : List Value} {ds : List (DataW H)} {ps : List MemPlace},
    DataW.TrodAll enc P w base spare held ts vs ds ps → ds.length = ts.length
  | [], [], [], _, _ => rfl
  | t :: ts, v :: vs, d :: ds, ps, ⟨p, q, _, hq, _⟩ => by simp [trodAll_len hq]
  | [], _ :: _, _, _, h => h.elim
  | [], [], _ :: _, _, h => h.elim
  | _ :: _, [], _, _, h => h.elim
  | _ :: _, _ :: _, [], _, h => h.elim

theorem trodAll_below (hl : laidOutB P = true) {W W' : World} (hb : Below W.heap.size W W') : ∀ {ts : List TypeId} {vs : List Value} {ds : List (DataW H)} {ps : List MemPlace},
    (∀ t ∈ ts, P.readableRec t = true ∧ t < P.types.size) → DataW.TrodAll enc P W 0 (fun _ => true) true ts vs ds ps → DataW.TrodAll enc P W' 0 (fun b => decide (b < W.heap.size)) true ts vs ds ps
  | [], [], [], _, _, h => h
  | t :: ts, v :: vs, d :: ds, ps, hr, ⟨p, q, ht, hq, e⟩ => by
    have hlt : ∀ x ∈ p, x.block < W.heap.size := by obtain ⟨n, hn⟩ := ht; exact DataW.trod_lt n _ _ _ hn
    exact ⟨p, q, Below.trod hl (hr t (List.mem_cons_self ..)).1 (hr t (List.mem_cons_self ..)).2 ht hb hlt, trodAll_below hl hb (fun u hu => hr u (List.mem_cons_of_mem _ hu)) hq, e⟩
  | [], _ :: _, _, _, _, h => h.elim
  | [], [], _ :: _, _, _, h => h.elim
  | _ :: _, [], _, _, _, h => h.elim
  | _ :: _, _ :: _, [], _, _, h => h.elim

/-- What a walk is told of the arguments: they have their types' shapes, they read as data, and each slice, string and map is within the form's reach. -/
def Came (enc : TypeId × Value → H) (P : Program) (fn : Func) (W : World) (args : Array Value) (ds : List (DataW H)) : Prop :=
  (∃ base, ∀ (j : Nat) t v, fn.params[j]? = some t → args[j]? = some v → Value.okWide P W .any base t v) ∧
  (∃ ps, DataW.TrodAll enc P W 0 (fun _ => true) true fn.params.toList args.toList ds ps) ∧
  (DataW.weightsEach P fn.params.toList ds).all (· ≤ reachBytes) = true

theorem law_shell {C : Checked} {os : Os} (f : FuncId) (fn : Func) (s : ChangeSpec) (tb : TypeId) (own : ownKnob C.prog.godebug = none) (started : os.Started) (noInit : C.prog.inits.idxOf? f = none)
    (hfn : C.prog.funcs[f]? = some fn) (hl : laidOutB C.prog = true) (hp : fn.params.toList.all (fun t => C.prog.readableRec t && decide (t < C.prog.types.size)) = true)
    (hres : fn.resultTypes = #[tb]) (hbool : C.prog.underlying tb = some .bool) (hvars : s.vars = [])
    (hs : ∀ ds : List (DataW H), ds.length = fn.params.size → s.fn H ds = { results := [.lit (.bool true)], args := ds })
    (witness : ∃ (w : World) (tape : Tape) (i : Input), w.os = os ∧ (w.forCall tape i).Shaped C.prog ∧ i.vars = [] ∧ Input.okWide C.prog (w.forCall tape i) .any w.heap.size f i ∧
      s.pre6 enc C.prog fn [] false (w.forCall tape i).memory i.args ∧ ({} : Assume).holds C.prog (lone (Frame.enter C.prog f i.args .normal) [] (w.forCall tape i)))
    (walk : ∀ (W : World) (args : Array Value) (ds : List (DataW H)), Came enc C.prog fn W args ds → Calls C.prog f args W fun e W' => e = .returned (.bool true) ∧ Below W.heap.size W W') :
    ReturnsInHanded {} C os f .any (s.pre6 enc C.prog fn [] false) (s.post enc C.prog fn false true false false) := by
  refine returnsInHanded_of_change_sized own started noInit hfn witness ?_
  intro W base args ds gs before hval hW _ hsz _
  have hW' := hW
  obtain ⟨p, q, hA, hV, rfl, _, _⟩ := hW
  rw [hvars] at hV
  have hgs : gs = [] ∧ q = [] := by
    cases gs with
    | nil => exact ⟨rfl, hV⟩
    | cons g gs => exact hV.elim
  obtain ⟨rfl, rfl⟩ := hgs
  have hpl : ∀ t ∈ fn.params.toList, C.prog.readableRec t = true ∧ t < C.prog.types.size := by
    intro t ht
    have := List.all_eq_true.1 hp t ht
    simpa using this
  have hlen : ds.length = fn.params.size := by simpa using trodAll_len hA
  have hz : (DataW.weightsEach C.prog fn.params.toList ds).all (· ≤ reachBytes) = true := by
    have e : s.plain.varTypes C.prog = [] := by
      simp [DataSpec.varTypes, ChangeSpec.plain, hvars]
    rw [e, List.append_nil, List.append_nil] at hsz
    exact hsz
  refine (walk W args ds ⟨⟨base, hval⟩, ⟨p, hA⟩, hz⟩).mono fun e W' ⟨he, bel⟩ => ?_
  subst he
  have hfn' : s.fn H (ds ++ []) = { results := [.lit (.bool true)], args := ds } := by rw [List.append_nil]; exact hs ds hlen
  refine ⟨_, rfl, ds, [], p ++ [], [], p, [], hW', ?_, ?_, ?_, bel.frame _, fun h => by cases h⟩
  · rw [hfn', hres]; exact trodAll_mk1 (shut_bool hbool _)
  · rw [hfn']; exact trodAll_below hl bel hpl hA
  · rw [hfn', hvars]; rfl
/-- One argument: it has its type's shape and reads as the datum d. -/
def Arg (enc : TypeId × Value → H) (P : Program) (W : World) (t : TypeId) (v : Value) (d : DataW H) : Prop :=
  (∃ base, Value.okWide P W .any base t v) ∧ (∃ p, DataW.Trod enc P W 0 (fun _ => true) true t v d p) ∧ ∀ n ∈ d.weights P t, n ≤ reachBytes

theorem Came.args {fn : Func} {W : World} {args : Array Value} {ds : List (DataW H)} (h : Came enc P fn W args ds) :
    args.size = fn.params.size ∧ ds.length = fn.params.size ∧ ∀ (j : Nat) t, fn.params[j]? = some t → ∃ v d, args[j]? = some v ∧ ds[j]? = some d ∧ Arg enc P W t v d := by
  obtain ⟨⟨base, hval⟩, ⟨ps, hA⟩, hwt⟩ := h
  have key : ∀ (ts : List TypeId) (vs : List Value) (ds : List (DataW H)) (ps : List MemPlace), DataW.TrodAll enc P W 0 (fun _ => true) true ts vs ds ps →
      vs.length = ts.length ∧ ds.length = ts.length ∧ ∀ (j : Nat) t, ts[j]? = some t → ∃ v d p, vs[j]? = some v ∧ ds[j]? = some d ∧ DataW.Trod enc P W 0 (fun _ => true) true t v d p := by
    intro ts
    induction ts with
    | nil =>
      intro vs ds ps h
      obtain ⟨rfl, rfl, rfl⟩ := trodAll_nil h
      exact ⟨rfl, rfl, fun j t h => by simp at h⟩
    | cons t ts ih =>
      intro vs ds ps h
      obtain ⟨v, vs', d, ds', p, q, rfl, rfl, rfl, h1, h2⟩ := trodAll_cons h
      obtain ⟨l1, l2, l3⟩ := ih _ _ _ h2
      refine ⟨by simp [l1], by simp [l2], fun j u hu => ?_⟩
      cases j with
      | zero => simp at hu; subst hu; exact ⟨v, d, p, rfl, rfl, h1⟩
      | succ j => exact l3 j u (by simpa using hu)
  obtain ⟨l1, l2, l3⟩ := key _ _ _ _ hA
  refine ⟨by simpa using l1, by simpa using l2, fun j t hj => ?_⟩
  obtain ⟨v, d, p, h1, h2, h3⟩ := l3 j t (by simpa using hj)
  have h1' : args[j]? = some v := by simpa using h1
  exact ⟨v, d, h1', h2, ⟨base, hval j t v hj h1'⟩, ⟨p, h3⟩, fun n hn => by
    have := List.all_eq_true.1 hwt n (DataW.weights_mem_each (by simpa using hj) h2 n hn)
    simpa using this⟩

theorem arr1 {a : Array Value} {v0 : Value} (h : a.size = 1) (h0 : a[0]? = some v0) : a = #[v0] := by
  apply Array.ext'; rcases a with ⟨_ | ⟨x, _ | ⟨y, l⟩⟩⟩ <;> simp_all
theorem arr2 {a : Array Value} {v0 v1 : Value} (h : a.size = 2) (h0 : a[0]? = some v0) (h1 : a[1]? = some v1) : a = #[v0, v1] := by
  apply Array.ext'; rcases a with ⟨_ | ⟨x, _ | ⟨y, _ | ⟨z, l⟩⟩⟩⟩ <;> simp_all
theorem arr3 {a : Array Value} {v0 v1 v2 : Value} (h : a.size = 3) (h0 : a[0]? = some v0) (h1 : a[1]? = some v1) (h2 : a[2]? = some v2) : a = #[v0, v1, v2] := by
  apply Array.ext'; rcases a with ⟨_ | ⟨x, _ | ⟨y, _ | ⟨z, _ | ⟨u, l⟩⟩⟩⟩⟩ <;> simp_all
theorem arr4 {a : Array Value} {v0 v1 v2 v3 : Value} (h : a.size = 4) (h0 : a[0]? = some v0) (h1 : a[1]? = some v1) (h2 : a[2]? = some v2) (h3 : a[3]? = some v3) : a = #[v0, v1, v2, v3] := by
  apply Array.ext'; rcases a with ⟨_ | ⟨x, _ | ⟨y, _ | ⟨z, _ | ⟨u, _ | ⟨q, l⟩⟩⟩⟩⟩⟩ <;> simp_all
theorem arr5 {a : Array Value} {v0 v1 v2 v3 v4 : Value} (h : a.size = 5) (h0 : a[0]? = some v0) (h1 : a[1]? = some v1) (h2 : a[2]? = some v2) (h3 : a[3]? = some v3) (h4 : a[4]? = some v4) : a = #[v0, v1, v2, v3, v4] := by
  apply Array.ext'; rcases a with ⟨_ | ⟨x, _ | ⟨y, _ | ⟨z, _ | ⟨u, _ | ⟨q, _ | ⟨r, l⟩⟩⟩⟩⟩⟩⟩ <;> simp_all

theorem Came.args1 {fn : Func} {W : World} {args : Array Value} {ds : List (DataW H)} {t0 : TypeId} (hp : fn.params = #[t0]) (h : Came enc P fn W args ds) :
    ∃ v0 d0, args = #[v0] ∧ Arg enc P W t0 v0 d0 := by
  obtain ⟨l1, l2, l3⟩ := h.args
  rw [hp] at l1 l3
  obtain ⟨v0, d0, h0, _, a0⟩ := l3 0 t0 rfl
  exact ⟨v0, d0, arr1 l1 h0, a0⟩
theorem Came.args2 {fn : Func} {W : World} {args : Array Value} {ds : List (DataW H)} {t0 t1 : TypeId} (hp : fn.params = #[t0, t1]) (h : Came enc P fn W args ds) :
    ∃ v0 v1 d0 d1, args = #[v0, v1] ∧ Arg enc P W t0 v0 d0 ∧ Arg enc P W t1 v1 d1 := by
  obtain ⟨l1, l2, l3⟩ := h.args
  rw [hp] at l1 l3
  obtain ⟨v0, d0, h0, _, a0⟩ := l3 0 t0 rfl
  obtain ⟨v1, d1, h1, _, a1⟩ := l3 1 t1 rfl
  exact ⟨v0, v1, d0, d1, arr2 l1 h0 h1, a0, a1⟩
theorem Came.args3 {fn : Func} {W : World} {args : Array Value} {ds : List (DataW H)} {t0 t1 t2 : TypeId} (hp : fn.params = #[t0, t1, t2]) (h : Came enc P fn W args ds) :
    ∃ v0 v1 v2 d0 d1 d2, args = #[v0, v1, v2] ∧ Arg enc P W t0 v0 d0 ∧ Arg enc P W t1 v1 d1 ∧ Arg enc P W t2 v2 d2 := by
  obtain ⟨l1, l2, l3⟩ := h.args
  rw [hp] at l1 l3
  obtain ⟨v0, d0, h0, _, a0⟩ := l3 0 t0 rfl
  obtain ⟨v1, d1, h1, _, a1⟩ := l3 1 t1 rfl
  obtain ⟨v2, d2, h2, _, a2⟩ := l3 2 t2 rfl
  exact ⟨v0, v1, v2, d0, d1, d2, arr3 l1 h0 h1 h2, a0, a1, a2⟩
theorem Came.args4 {fn : Func} {W : World} {args : Array Value} {ds : List (DataW H)} {t0 t1 t2 t3 : TypeId} (hp : fn.params = #[t0, t1, t2, t3]) (h : Came enc P fn W args ds) :
    ∃ v0 v1 v2 v3 d0 d1 d2 d3, args = #[v0, v1, v2, v3] ∧ Arg enc P W t0 v0 d0 ∧ Arg enc P W t1 v1 d1 ∧ Arg enc P W t2 v2 d2 ∧ Arg enc P W t3 v3 d3 := by
  obtain ⟨l1, l2, l3⟩ := h.args
  rw [hp] at l1 l3
  obtain ⟨v0, d0, h0, _, a0⟩ := l3 0 t0 rfl
  obtain ⟨v1, d1, h1, _, a1⟩ := l3 1 t1 rfl
  obtain ⟨v2, d2, h2, _, a2⟩ := l3 2 t2 rfl
  obtain ⟨v3, d3, h3, _, a3⟩ := l3 3 t3 rfl
  exact ⟨v0, v1, v2, v3, d0, d1, d2, d3, arr4 l1 h0 h1 h2 h3, a0, a1, a2, a3⟩
theorem Came.args5 {fn : Func} {W : World} {args : Array Value} {ds : List (DataW H)} {t0 t1 t2 t3 t4 : TypeId} (hp : fn.params = #[t0, t1, t2, t3, t4]) (h : Came enc P fn W args ds) :
    ∃ v0 v1 v2 v3 v4 d0 d1 d2 d3 d4, args = #[v0, v1, v2, v3, v4] ∧ Arg enc P W t0 v0 d0 ∧ Arg enc P W t1 v1 d1 ∧ Arg enc P W t2 v2 d2 ∧ Arg enc P W t3 v3 d3 ∧ Arg enc P W t4 v4 d4 := by
  obtain ⟨l1, l2, l3⟩ := h.args
  rw [hp] at l1 l3
  obtain ⟨v0, d0, h0, _, a0⟩ := l3 0 t0 rfl
  obtain ⟨v1, d1, h1, _, a1⟩ := l3 1 t1 rfl
  obtain ⟨v2, d2, h2, _, a2⟩ := l3 2 t2 rfl
  obtain ⟨v3, d3, h3, _, a3⟩ := l3 3 t3 rfl
  obtain ⟨v4, d4, h4, _, a4⟩ := l3 4 t4 rfl
  exact ⟨v0, v1, v2, v3, v4, d0, d1, d2, d3, d4, arr5 l1 h0 h1 h2 h3 h4, a0, a1, a2, a3, a4⟩

theorem Arg.int {W : World} {t : TypeId} {k : IntKind} {v : Value} {d : DataW H} (hu : P.underlying t = some (.int k)) (h : Arg enc P W t v d) : ∃ n, v = .int k n ∧ (Lit.int k n).wf = true := by
  obtain ⟨⟨base, hv⟩, ⟨p, ht⟩, _⟩ := h
  obtain ⟨n, e, _, _, hw⟩ := open_int hu hv ht
  exact ⟨n, e, hw⟩
theorem Arg.i64 {W : World} {t : TypeId} {v : Value} {d : DataW H} (hu : P.underlying t = some (.int .i64)) (h : Arg enc P W t v d) : ∃ n, v = .int .i64 n ∧ -9223372036854775808 ≤ n ∧ n ≤ 9223372036854775807 := by
  obtain ⟨n, e, hw⟩ := h.int hu; exact ⟨n, e, bounds_i64 hw⟩
theorem Arg.u64 {W : World} {t : TypeId} {v : Value} {d : DataW H} (hu : P.underlying t = some (.int .u64)) (h : Arg enc P W t v d) : ∃ n, v = .int .u64 n ∧ 0 ≤ n ∧ n ≤ 18446744073709551615 := by
  obtain ⟨n, e, hw⟩ := h.int hu; exact ⟨n, e, bounds_u64 hw⟩
theorem Arg.bool {W : World} {t : TypeId} {v : Value} {d : DataW H} (hu : P.underlying t = some .bool) (h : Arg enc P W t v d) : ∃ b, v = .bool b := by
  obtain ⟨⟨base, hv⟩, ⟨p, ht⟩, _⟩ := h
  obtain ⟨b, e, _⟩ := open_bool hu hv ht
  exact ⟨b, e⟩
theorem Arg.string {W : World} {t : TypeId} {v : Value} {d : DataW H} (hu : P.underlying t = some .string) (h : Arg enc P W t v d) : ∃ s : ByteArray, v = .string s ∧ s.size ≤ 140737488351232 := by
  obtain ⟨⟨base, hv⟩, ⟨p, ht⟩, hw⟩ := h
  obtain ⟨s, e, rfl, _, hs⟩ := Go.ChangeMaps.open_string hu hv ht
  exact ⟨s, e, by have := hw s.data.toList.length (by simp [DataW.weights]); simpa [reachBytes] using this⟩

theorem lits_length (k : IntKind) (l : List Int) : (lits (H := H) k l).length = l.length := by simp [lits]

theorem Arg.ints {W : World} {t e : TypeId} {k : IntKind} {v : Value} {d : DataW H} (hu : P.underlying t = some (.slice e)) (he : P.underlying e = some (.int k)) (hc : P.cellsOf e = 1) (h : Arg enc P W t v d) :
    ∃ A len cap zs, v = .slice A len cap ∧ len ≤ cap ∧ cap ≤ maxLen ∧ cap * P.bytesOf e ≤ 140737488351232 ∧ RdI k W W.heap.size A len zs ∧ ∀ z ∈ zs, (Lit.int k z).wf = true := by
  obtain ⟨⟨base, hv⟩, ⟨p, fuel, ht⟩, hw⟩ := h
  obtain ⟨A, len, cap, rfl⟩ := okWide_slice hu hv
  rcases open_ints hu he hc ht with ⟨hcs, _⟩ | ⟨x, l, c, zs, hcs, _, hl, hm, hz, hx, hcell, hwz⟩
  · simp [Value.cells] at hcs
    obtain ⟨rfl, rfl, rfl⟩ := hcs
    exact ⟨none, 0, 0, [], rfl, Nat.le_refl _, by unfold maxLen; omega, by omega, RdI.nil _ _ _ _, by simp⟩
  · simp [Value.cells] at hcs
    obtain ⟨rfl, rfl, rfl⟩ := hcs
    simp only [if_true] at hz
    simp only [Prod.mk.injEq] at hx
    obtain ⟨rfl, _⟩ := hx
    have hb : cap * P.bytesOf e ≤ 140737488351232 := by
      have := hw (((lits (H := H) k (zs.take len)).length + (lits (H := H) k (zs.drop len)).length) * P.bytesOf e) (by simp [DataW.weights, hu])
      have e1 : (lits (H := H) k (zs.take len)).length + (lits (H := H) k (zs.drop len)).length = cap := by
        rw [lits_length, lits_length, List.length_take, List.length_drop, hz]; omega
      rw [e1] at this
      simpa [reachBytes] using this
    refine ⟨some x, len, cap, zs.take len, rfl, hl, hm, hb, ⟨by simp [hz]; omega, fun hp => ?_⟩, fun z hz' => hwz z (List.mem_of_mem_take hz')⟩
    have h0 := hcell 0 (by omega)
    obtain ⟨b, off, spot⟩ := x
    have hspot : spot = none := by simpa [Addr.add] using World.cell?_spot h0
    subst hspot
    refine ⟨b, off, rfl, by simpa [Addr.add] using World.block_lt_of_cell? W _ h0, fun i hi => ?_⟩
    have hci := hcell i (by omega)
    have e1 : (Addr.add ⟨b, off, none⟩ i) = ⟨b, off + i, none⟩ := by unfold Addr.add; split <;> simp_all
    rw [e1] at hci
    rw [hci]
    simp [at_, List.getD, hi]
end
end Go.Proofs.YtjabeabbaambcaaDoor
