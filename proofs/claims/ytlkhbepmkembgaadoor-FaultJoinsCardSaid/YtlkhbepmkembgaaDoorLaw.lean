/- A law's row out of its walk, where the row lists package-level variables. -/
import Derived.Test.YtlkhbepmkembgaaDoorBase
import Derived.LaidMore
import Derived.LaidOnce
import Derived.Lay
import Derived.Stop.Joined
import Derived.Lib.LaidTab
import Derived.LaidHandle
namespace Go.Proofs.YtlkhbepmkembgaaDoor
open Go.RowKit Go.ChangeShapes Go.WideShapes
theorem lawLiftL {C : Checked} {os : Os} {f : FuncId} {fn : Func} {s : ChangeSpec} {H : Type} {enc : TypeId × Value → H} {bt : TypeId} {laid : List (String × DataW Unit)} (own : ownKnob C.prog.godebug = none) (started : os.Started)
    (noInit : C.prog.inits.idxOf? f = none) (hfn : C.prog.funcs[f]? = some fn) (hlaid : laidOutB C.prog = true) (hread : ∀ t ∈ fn.params.toList, C.prog.readableRec t = true ∧ t < C.prog.types.size)
    (hvars : s.vars = []) (hres : fn.resultTypes = #[bt]) (hbool : C.prog.underlying bt = some .bool)
    (hspec : ∀ ds : List (DataW H), ds.length = fn.params.toList.length → s.fn H ds = { results := [.lit (.bool true)], args := ds })
    (witness : ∃ (w : World) (tape : Tape) (i : Input), w.os = os ∧ (w.forCall tape i).Shaped C.prog ∧ i.vars = [] ∧ Input.okWide C.prog (w.forCall tape i) .any w.heap.size f i ∧
      ((s.pre enc C.prog fn [] false (w.forCall tape i).memory i.args ∧ laidMetH C.prog laid (w.forCall tape i).memory) ∧ sizedMet enc C.prog fn (OpenSpec.ofChange s) false (w.forCall tape i).memory i.args) ∧ ({} : Assume).holds C.prog (lone (Frame.enter C.prog f i.args .normal) [] (w.forCall tape i)))
    (walk : ∀ (W : World) (args : Array Value), laidMetH C.prog laid W → RdAll C.prog W fn.params.toList args.toList → Calls C.prog f args W fun e W' => e = .returned (.bool true) ∧ Below W.heap.size W W') :
    ReturnsInHanded {} C os f .any (fun w args => (s.pre enc C.prog fn [] false w args ∧ laidMetH C.prog laid w) ∧ sizedMet enc C.prog fn (OpenSpec.ofChange s) false w args) (s.post enc C.prog fn false true false false) := by
  refine returnsInHanded_of_change_and (X := fun w _ => laidMetH C.prog laid w) (fun _ _ _ hh h => h.of_heap hh) own started noInit hfn witness ?_
  intro W base args ds gs before hval hW _ hsz hL _
  have hW' := hW
  obtain ⟨p, q, hA, hV, rfl, hfz, hnd⟩ := hW
  rw [hvars] at hV
  obtain ⟨rfl, rfl⟩ : gs = [] ∧ q = [] := by
    cases gs with
    | nil => exact ⟨rfl, hV⟩
    | cons _ _ => exact hV.elim
  obtain ⟨_, hdl⟩ := trodAll_len hA
  have hw : ∀ n ∈ DataW.weightsEach C.prog fn.params.toList ds, n ≤ reachBytes := by
    intro n hn
    have h1 : fn.params.toList ++ s.plain.varTypes C.prog = fn.params.toList := by
      have : s.plain.varTypes C.prog = [] := by simp [DataSpec.varTypes, ChangeSpec.plain, hvars]
      rw [this, List.append_nil]
    rw [h1, List.append_nil] at hsz
    have := List.all_eq_true.1 hsz n hn
    simpa using this
  refine (walk W args hL (rdAll_of hA (fun j t v ht hv => hval j t v (by simpa using ht) (by simpa using hv)) hw)).mono fun e W' ⟨he, hb⟩ => ?_
  subst he
  obtain ⟨pa, hA'⟩ := trodAll_kept hlaid hb hread hA
  have hs := hspec ds hdl
  refine ⟨_, rfl, ds, [], _, [], pa, [], hW', ?_, ?_, ?_, hb.frame _, fun h => by cases h⟩
  · rw [List.append_nil, hs, hres]
    exact trodAll_mk1 (shut_bool hbool _)
  · rw [List.append_nil, hs]
    exact hA'
  · rw [hvars, List.append_nil, hs]
    rfl
/-! the witness: the variable errors.errorType laid by hand, the tables by the kit's function -/
noncomputable def w0H (os : Os) : World :=
  let w0 := World.holding Tryd.prog os ⟨#[], #[], []⟩
  { w0 with heap := w0.heap.modify 0 fun
      | .cells _ t frozen => .cells #[.iface 87 (.agg #[.pointer (some ⟨4, 27, none⟩)])] t frozen
      | o => o }
noncomputable def laidH (os : Os) (laid : List (String × DataW Unit)) : World := (w0H os).layVars Tryd.prog (laid.filter fun x => x.2.handleName?.isNone)
theorem laidH_os (os : Os) (laid : List (String × DataW Unit)) : (laidH os laid).os = os := World.layVars_os _ _ _
theorem laidH_met {os : Os} {laid : List (String × DataW Unit)} (args : Array Value)
    (hf : (w0H os).layFits Tryd.prog (laid.filter fun x => x.2.handleName?.isNone) [] = true)
    (hi : (w0H os).layIfaces Tryd.prog (laid.filter fun x => x.2.handleName?.isNone) (laidH os laid) = true)
    (hh : (laid.filter fun x => x.2.handleName?.isSome).all (handleAtB Tryd.prog ((laidH os laid).forCall (fun _ _ => 0) ⟨#[], args, []⟩).memory) = true) :
    laidMetH Tryd.prog laid ((laidH os laid).forCall (fun _ _ => 0) ⟨#[], args, []⟩).memory := by
  refine laidMetH_of_parts ?_ hh
  obtain ⟨l, hl⟩ : ∃ l, (laid.filter fun x => x.2.handleName?.isNone) = l := ⟨_, rfl⟩
  have el : laidH os laid = (w0H os).layVars Tryd.prog l := by unfold laidH; rw [hl]
  rw [hl] at hf hi ⊢
  rw [el] at hi ⊢
  have e1 : (l.filter fun x => (l.map (·.1)).contains x.1) = l := List.filter_eq_self.2 fun x hx => List.contains_iff_mem.2 (List.mem_map.2 ⟨x, hx, rfl⟩)
  have e2 : (l.filter fun x => !(l.map (·.1)).contains x.1) = [] := List.filter_eq_nil_iff.2 fun x hx => by rw [List.contains_iff_mem.2 (List.mem_map.2 ⟨x, hx, rfl⟩)]; simp
  have h : laidMet Tryd.prog l ((w0H os).layVars Tryd.prog l) := laidMet_layVars (w0 := w0H os) (l.map (·.1)) [] (by rw [e1]) (by rw [e1]; exact hf) (by rw [e1]; exact hi) (by rw [e2]; exact LaidIn.none)
  exact h.of_heap (by simp [World.memory, World.forCall, Input.heap])
end Go.Proofs.YtlkhbepmkembgaaDoor
