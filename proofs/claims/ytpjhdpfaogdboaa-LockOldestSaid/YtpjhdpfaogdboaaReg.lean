/- A region that draws its order, walked by hand: the condition may be changed on the way. -/
import Derived.Test.YtpjhdpfaogdboaaOwn
import Derived.Deep.RegionHeld3
namespace Go.Proofs.Ytpjhdpfaogdboaa
set_option linter.unusedSimpArgs false
set_option linter.unusedVariables false
open Go.RowKit

theorem wpAnyH_mono {P : Program} {md : Region.Mode} {ops : Array Oper} {Q : Exit → Act → World → Prop} {S S1 : World → Prop} (h : ∀ w, S1 w → S w) :
    ∀ (fuel : Nat) (listed : Array Bool) (a : Act) (w : World), wpAnyH P md ops Q S1 fuel listed a w → wpAnyH P md ops Q S fuel listed a w
  | 0, _, _, _, h0 => h0
  | fuel + 1, _, _, _, h0 => ⟨h0.1, fun i hi => wpOp_mono (fun a' w' h' => ⟨h w' h'.1, wpAnyH_mono h fuel _ a' w' h'.2⟩) (h0.2 i hi)⟩
/-- take number i first; its slot is written out -/
theorem wpAnyH_at {P : Program} {md : Region.Mode} {ops : Array Oper} {Q : Exit → Act → World → Prop} {S : World → Prop} {fuel : Nat} {listed : Array Bool} {a : Act} {w : World} (i : Nat) (d : Option Tmp) {v : Value} (hi : i < ops.size) (hd : ops[i].dst = d)
    (hs : Region.noSelect ops = true) (hf : Region.free md ops listed i = true) (hr : (Region.ready md ops listed).contains i = true)
    (hQ : ∀ c a w, Q (.panic c) (a.put d v) w → Q (.panic c) a w) (hy : YieldsIf P ops S ops[i] v a) (hS : S w)
    (h : wpAnyH P md ops Q S fuel (listed.setIfInBounds i true) (a.put d v) w) : wpAnyH P md ops Q S (fuel + 1) listed a w := by
  subst hd
  exact wpAnyH_take (by rw [Array.getElem?_eq_getElem hi]) hs hf hr hQ hy hS h
/-- in a region of reads: an operation whose guard says no -/
theorem still_no {P : Program} {ops : Array Oper} {w : World} {Q : Act → Prop} {a : Act} {o : Oper} {rest : List Oper} (hw : Region.wanted o (yielded ops a.tmps) = false) (h : wpStill P ops w Q rest (a.put o.dst undef)) : wpStill P ops w Q (o :: rest) a :=
  wpStill_step (fun K hK => by rw [if_neg (by rw [hw]; decide)]; exact hK _ h)
end Go.Proofs.Ytpjhdpfaogdboaa
