/- The step from a walk to an 'upto' row that lists package-level variables: as law_shell_door; the walk is told the bound on the arguments' bulk. -/
import Derived.Test.YtiffpjlmgeklkaaDoorShellD
import Derived.Test.YtiffpjlmgeklkaaDoorRows
import Derived.Deep.DeepHandedRow
namespace Go.Proofs.YtiffpjlmgeklkaaDoor
open Go.ChangeShapes Go.WideShapes Go.ChangeAt Go.RowKit

theorem law_shell_upto {H : Type} {enc : TypeId × Value → H} {C : Checked} {os : Os} (laid : List (String × DataW Unit)) (f : FuncId) (fn : Func) (s : ChangeSpec) (F : Stop.Interp) (tb : TypeId) (own : ownKnob C.prog.godebug = none) (started : os.Started) (noInit : C.prog.inits.idxOf? f = none)
    (hfn : C.prog.funcs[f]? = some fn) (hl : laidOutB C.prog = true) (hp : fn.params.toList.all (fun t => C.prog.readableRec t && decide (t < C.prog.types.size)) = true)
    (hres : fn.resultTypes = #[tb]) (hbool : C.prog.underlying tb = some .bool) (hvars : s.vars = [])
    (hs : ∀ ds : List (DataW H), ds.length = fn.params.size → s.fn H ds = { results := [.lit (.bool true)], args := ds })
    (witness : ∃ (w : World) (tape : Tape) (i : Input), w.os = os ∧ (w.forCall tape i).Shaped C.prog ∧ i.vars = [] ∧ Input.okWide C.prog (w.forCall tape i) .any w.heap.size f i ∧
      (Rows.OpenSpec.upto s).preRow enc C.prog fn [] false laid (w.forCall tape i).memory i.args ∧ ({} : Assume).holds C.prog (lone (Frame.enter C.prog f i.args .normal) [] (w.forCall tape i)))
    (walk : ∀ (W : World) (args : Array Value) (ds : List (DataW H)), laidMetH C.prog laid W → Rows.uptoSmall H ds = true → Came enc C.prog fn W args ds → Calls C.prog f args W fun e W' => e = .returned (.bool true) ∧ Below W.heap.size W W') :
    ReturnsInHanded {} C os f .any ((Rows.OpenSpec.upto s).preRow enc C.prog fn [] false laid) (((Rows.OpenSpec.upto s).at F).post enc C.prog fn false true false false) := by
  refine returnsInHanded_of_row (s := Rows.OpenSpec.upto s) own started noInit hfn witness ?_
  intro W base args ds gs before hval hW _ hk hsz hL _ _
  have hW' := hW
  obtain ⟨p, q, hA, hV, rfl, _, _⟩ := hW
  have hv2 : (Rows.OpenSpec.upto s).vars = [] := hvars
  rw [hv2] at hV
  have hgs : gs = [] ∧ q = [] := by
    cases gs with
    | nil => exact ⟨rfl, hV⟩
    | cons g gs => exact hV.elim
  obtain ⟨rfl, rfl⟩ := hgs
  have hpl : ∀ t ∈ fn.params.toList, C.prog.readableRec t = true ∧ t < C.prog.types.size := by
    intro t ht
    have := List.all_eq_true.1 hp t ht
    simpa using this
  have hlen : ds.length = fn.params.size := by simpa using trodAll_len hA
  have hz : (DataW.weightsEach C.prog fn.params.toList ds).all (· ≤ reachBytes) = true := by
    have e : (Rows.OpenSpec.upto s).bare.plain.varTypes C.prog = [] := by
      have h0 : (Rows.OpenSpec.upto s).bare.vars = [] := hvars
      simp [DataSpec.varTypes, ChangeSpec.plain, h0]
    rw [e, List.append_nil, List.append_nil] at hsz
    exact hsz
  have hkk := hk _ rfl
  rw [List.append_nil] at hkk
  refine (walk W args ds hL hkk ⟨⟨base, hval⟩, ⟨p, hA⟩, hz⟩).mono fun e W' ⟨he, bel⟩ => ?_
  subst he
  have hfn' : s.fn H (ds ++ []) = { results := [.lit (.bool true)], args := ds } := by rw [List.append_nil]; exact hs ds hlen
  refine ⟨_, rfl, ds, [], p ++ [], [], p, [], hW', ?_, ?_, ?_, bel.frame _, fun h => by cases h⟩
  · have e3 : (((Rows.OpenSpec.upto s).at F).fn H (ds ++ [])) = { results := [.lit (.bool true)], args := ds } := hfn'
    rw [e3, hres]; exact trodAll_mk1 (shut_bool hbool _)
  · have e3 : (((Rows.OpenSpec.upto s).at F).fn H (ds ++ [])) = { results := [.lit (.bool true)], args := ds } := hfn'
    rw [e3]; exact trodAll_below hl bel hpl hA
  · have e2 : ((Rows.OpenSpec.upto s).at F).vars = [] := hvars
    have e3 : (((Rows.OpenSpec.upto s).at F).fn H (ds ++ [])) = { results := [.lit (.bool true)], args := ds } := hfn'
    rw [e3, e2]; rfl

theorem upto_witness {H : Type} {enc : TypeId × Value → H} {C : Checked} {os : Os} {laid : List (String × DataW Unit)} {f : FuncId} {fn : Func} {s : ChangeSpec} (args : Array Value) (fuel : Nat)
    (hv : ((World.laidAll C.prog os laid).forCall (fun _ _ => 0) ⟨#[], args, []⟩).variablesB C.prog = true)
    (hr : (((World.laidAll C.prog os laid).forCall (fun _ _ => 0) ⟨#[], args, []⟩).heap.toList.drop C.prog.globals.size).take ((begin C.prog (fun _ _ => 0) default).world.heap.size - C.prog.globals.size) =
      (begin C.prog (fun _ _ => 0) default).world.heap.toList.drop C.prog.globals.size)
    (hok : Input.okWideB C.prog ((World.laidAll C.prog os laid).forCall (fun _ _ => 0) ⟨#[], args, []⟩) f ⟨#[], args, []⟩ = true)
    {x : List (DataW H) × List (DataW H) × List MemPlace} (hx : DataW.whole enc C.prog ((World.laidAll C.prog os laid).forCall (fun _ _ => 0) ⟨#[], args, []⟩).memory fn.params.toList s.vars false args.toList fuel = some x)
    (hk : Rows.uptoSmall H (x.1 ++ x.2.1) = true)
    (hsz : (Rows.OpenSpec.upto s).bare.sizedB enc C.prog fn false ((World.laidAll C.prog os laid).forCall (fun _ _ => 0) ⟨#[], args, []⟩).memory args fuel = true)
    (hl : laidMetH C.prog laid ((World.laidAll C.prog os laid).forCall (fun _ _ => 0) ⟨#[], args, []⟩).memory) :
    ∃ (w : World) (tape : Tape) (i : Input), w.os = os ∧ (w.forCall tape i).Shaped C.prog ∧ i.vars = [] ∧ Input.okWide C.prog (w.forCall tape i) .any w.heap.size f i ∧
      (Rows.OpenSpec.upto s).preRow enc C.prog fn [] false laid (w.forCall tape i).memory i.args ∧ ({} : Assume).holds C.prog (lone (Frame.enter C.prog f i.args .normal) [] (w.forCall tape i)) :=
  witness_row_at false (World.laidAll C.prog os laid) args (World.laidAll_os _ _ _) hv hr hok (OpenSpec.preRow_of_cond fuel hx rfl (fun k hk' => by cases hk'; exact hk) hsz hl)

section
variable {H : Type} {enc : TypeId × Value → H} {P : Program}
theorem bulk_one (d : DataW H) : 1 ≤ Rows.uptoBulk d := by
  cases d with
  | lit l => cases l <;> simp [Rows.uptoBulk]
  | nil => simp [Rows.uptoBulk]
  | ptr d => simp [Rows.uptoBulk]
  | slice elems spare => simp [Rows.uptoBulk]
  | agg parts => simp [Rows.uptoBulk]
  | iface t d => simp [Rows.uptoBulk]
  | map entries => simp [Rows.uptoBulk]
  | held h => simp [Rows.uptoBulk]
theorem bulk_length (l : List (DataW H)) : l.length ≤ Rows.uptoBulkAll l := by
  induction l with
  | nil => simp [Rows.uptoBulkAll]
  | cons x r ih => have := bulk_one x; simp only [Rows.uptoBulkAll, List.length_cons]; omega
theorem bulk_part {d : DataW H} {l : List (DataW H)} (h : d ∈ l) : Rows.uptoBulk d ≤ Rows.uptoBulkAll l := by
  induction l with
  | nil => cases h
  | cons x r ih =>
    simp only [Rows.uptoBulkAll]
    rcases List.mem_cons.1 h with e | e
    · subst e; omega
    · have := ih e; omega
/-- Each argument with its own bulk. -/
theorem Came.bulk {fn : Func} {W : World} {args : Array Value} {ds : List (DataW H)} {B : Nat} (hb : Rows.uptoBulkAll ds ≤ B) (h : Came enc P fn W args ds) :
    args.size = fn.params.size ∧ ∀ (j : Nat) t, fn.params[j]? = some t → ∃ v d, args[j]? = some v ∧ Arg enc P W t v d ∧ Rows.uptoBulk d ≤ B := by
  obtain ⟨l1, _, l3⟩ := h.args
  refine ⟨l1, fun j t hj => ?_⟩
  obtain ⟨v, d, h1, h2, h3⟩ := l3 j t hj
  exact ⟨v, d, h1, h3, Nat.le_trans (bulk_part (List.mem_of_getElem? h2)) hb⟩
theorem Arg.stringU {W : World} {t : TypeId} {v : Value} {d : DataW H} {B : Nat} (hu : P.underlying t = some .string) (h : Arg enc P W t v d) (hb : Rows.uptoBulk d ≤ B) : ∃ s : ByteArray, v = .string s ∧ s.size ≤ B := by
  obtain ⟨⟨base, hv⟩, ⟨p, ht⟩, hw⟩ := h
  obtain ⟨s, e, rfl, _, hs⟩ := Go.ChangeMaps.open_string hu hv ht
  refine ⟨s, e, ?_⟩
  rw [show Rows.uptoBulk (DataW.lit (H := H) (.string s.data.toList)) = s.data.toList.length + 1 by simp [Rows.uptoBulk], Array.length_toList] at hb
  have : s.data.size = s.size := rfl
  omega
theorem Arg.intsU {W : World} {t e : TypeId} {k : IntKind} {v : Value} {d : DataW H} {B : Nat} (hu : P.underlying t = some (.slice e)) (he : P.underlying e = some (.int k)) (hc : P.cellsOf e = 1) (h : Arg enc P W t v d) (hB : Rows.uptoBulk d ≤ B) :
    ∃ A len cap zs, v = .slice A len cap ∧ len ≤ cap ∧ cap ≤ B ∧ RdI k W W.heap.size A len zs ∧ ∀ z ∈ zs, (Lit.int k z).wf = true := by
  obtain ⟨⟨base, hv⟩, ⟨p, fuel, ht⟩, hw⟩ := h
  obtain ⟨A, len, cap, rfl⟩ := okWide_slice hu hv
  have hh : Arg enc P W t (.slice A len cap) d := ⟨⟨base, hv⟩, ⟨p, fuel, ht⟩, hw⟩
  obtain ⟨A', len', cap', zs, e1, h1, h2, h3, h4, h5⟩ := hh.ints hu he hc
  cases e1
  refine ⟨A, len, cap, zs, rfl, h1, ?_, h4, h5⟩
  rcases open_ints hu he hc ht with ⟨hcs, _⟩ | ⟨x, l, c, ys, hcs, _, hl, hm, hz, hx, hcell, hwz⟩
  · simp [Value.cells] at hcs
    omega
  · simp [Value.cells] at hcs
    obtain ⟨rfl, rfl, rfl⟩ := hcs
    simp only [if_true] at hz
    simp only [Prod.mk.injEq] at hx
    obtain ⟨rfl, _⟩ := hx
    have e2 : Rows.uptoBulk (DataW.slice (lits (H := H) k (ys.take len)) (lits k (ys.drop len))) = Rows.uptoBulkAll (lits (H := H) k (ys.take len)) + Rows.uptoBulkAll (lits (H := H) k (ys.drop len)) + 1 := by simp [Rows.uptoBulk]
    have g1 := bulk_length (lits (H := H) k (ys.take len))
    have g2 := bulk_length (lits (H := H) k (ys.drop len))
    rw [lits_length, List.length_take] at g1
    rw [lits_length, List.length_drop] at g2
    rw [e2] at hB
    omega
end
end Go.Proofs.YtiffpjlmgeklkaaDoor
