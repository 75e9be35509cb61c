/- Faults: FaultJoins: what lies still; the loop over the chains. -/
import Derived.Test.YtlkhbepmkembgaaDoorJn
import Derived.Test.YtlkhbepmkembgaaDoorBd
namespace Go.Proofs.YtlkhbepmkembgaaDoor
open Go.RowKit
def Bad (B : Nat) (w : World) (g : Nat) : Prop := ¬ (g < B ∨ ∃ cs, w.heap[g]? = some (.cells cs 42 (0, 0)))
/-- a list of links that lies in an argument or in a row of links -/
def LT (B : Nat) (w : World) (u : Value) (L : List FL) : Prop := Lies (Bad B w) w 2 u L.length (lcells L)
theorem LT.ll {B : Nat} {w : World} {u : Value} {L : List FL} (h : LT B w u L) : LL w u L := Lies.mono h (fun _ _ h => h.elim)
/-- blocks that are written: none older than B, rows of errors or of chains -/
def Fok (F : Nat → Prop) (B : Nat) (w : World) : Prop := ∀ g, F g → B ≤ g ∧ ∃ cs t, w.heap[g]? = some (.cells cs t (0, 0)) ∧ (t = 24 ∨ t = 27)
theorem Fok.none (B : Nat) (w : World) : Fok (fun _ => False) B w := fun _ h => h.elim
theorem LT.kept {F : Nat → Prop} {B : Nat} {w w' : World} {u : Value} {L : List FL} (h : LT B w u L) (k : Kept F w w') (hF : Fok F B w) : LT B w' u L := by
  have hb : ∀ g, F g → Bad B w g := fun g hg hgood => by
    obtain ⟨h1, cs, t, h2, h3⟩ := hF g hg
    rcases hgood with h | ⟨cs', h4⟩
    · omega
    · rw [h2] at h4
      simp only [Option.some.injEq, Obj.cells.injEq] at h4
      obtain ⟨_, h5, _⟩ := h4
      rcases h3 with rfl | rfl <;> exact absurd h5 (by decide)
  refine Lies.mono (Lies.kept h k (fun g _ hg => hb g hg)) (fun g _ hbad hgood => hbad ?_)
  rcases hgood with h1 | ⟨cs, h1⟩
  · exact .inl h1
  · exact .inr ⟨cs, (k.block g (row_lt h1) (fun hg => hb g hg (.inr ⟨cs, h1⟩))).trans h1⟩
theorem lt_arg {w : World} {v : Value} {L : List FL} (h : LL w v L) : LT w.heap.size w v L :=
  Lies.mono h.fresh (fun g _ hb => Nat.le_of_not_lt (fun h => hb (.inl h)))
theorem lt_from {B : Nat} {w w' : World} {v u : Value} {A : List FL} (h : LT B w v A) (k : Kept (fun _ => False) w w') (hf : From w' v u A) : LT B w' u (cut A) := by
  have h1 := h.kept k (Fok.none _ _)
  rcases hf with ⟨ao, c, rfl, rfl, e, hle⟩ | ⟨g, rfl, e, hr⟩
  · unfold LT at h1 ⊢
    have h2 := ll_pre h1 rfl hle
    rw [← e] at h2
    exact h2
  · unfold LT
    rw [e]
    exact ll_one ((0, 0) : FL) (fun hb => hb (.inr ⟨_, hr⟩)) hr
theorem PAt.ok {F : Nat → Prop} {B : Nat} {w w' : World} {P : EL} (h : PAt w P) (k : Kept F w w') (hF : Fok F B w) : PAt w' P := fun p hp => ⟨(h p hp).1.blocks (fun bk cs hb => (k.block bk (row_lt hb) (fun hg => by
    obtain ⟨_, cs', t, h2, h3⟩ := hF bk hg
    rw [hb] at h2
    simp only [Option.some.injEq, Obj.cells.injEq] at h2
    obtain ⟨_, h5, _⟩ := h2
    rcases h3 with rfl | rfl <;> exact absurd h5 (by decide))).trans hb), (h p hp).2⟩
def FirstIs (B : Nat) (w : World) (fv : Value) (fr : Int) (js : JL) : Prop := (js = [] ∧ fr = 0) ∨ ∃ l0, js[0]? = some (l0, fr) ∧ fr ≠ 0 ∧ LT B w fv l0 ∧ (∀ l ∈ l0, Wl l) ∧ l0.length ≤ 30 ∧ -9223372036854775808 ≤ fr ∧ fr ≤ 9223372036854775807
theorem FirstIs.ok {F : Nat → Prop} {B : Nat} {w w' : World} {fv : Value} {fr : Int} {js : JL} (h : FirstIs B w fv fr js) (k : Kept F w w') (hF : Fok F B w) : FirstIs B w' fv fr js := by
  rcases h with h | ⟨l0, h1, h2, h3, h4⟩
  · exact .inl h
  · exact .inr ⟨l0, h1, h2, h3.kept k hF, h4⟩
theorem FirstIs.app {B : Nat} {w : World} {fv : Value} {fr : Int} {js : JL} (h : FirstIs B w fv fr js) (hf : fr ≠ 0) (x : List FL × Int) : FirstIs B w fv fr (js ++ [x]) := by
  rcases h with h | ⟨l0, h1, h2⟩
  · exact absurd h.2 hf
  · exact .inr ⟨l0, by rw [List.getElem?_append_left (List.getElem?_eq_some_iff.1 h1).1]; exact h1, h2⟩
theorem any_yes {js : JL} {code : Int} {l : List FL} {r : Int} {b : Bool} (h : b = js.any (fun m => m.2 == code)) : (b || (r == code)) = (js ++ [(l, r)]).any (fun m => m.2 == code) := by
  rw [List.any_append, ← h]; simp
theorem jsOf_no {P : EL} {e : Value} {l : List FL} {r : Int} (h : r = 0) : jsOf (P ++ [(e, (l, r))]) = jsOf P := by simp [jsOf, live, List.filter_append, h]
theorem jsOf_yes {P : EL} {e : Value} {l : List FL} {r : Int} (h : r ≠ 0) : jsOf (P ++ [(e, (l, r))]) = jsOf P ++ [(l, r)] := by simp [jsOf, live, List.filter_append, h]
/-! ### the argument: chains -/
abbrev CA := (Option Addr × Nat × Nat) × Int
def slV (x : CA) : Value := .slice x.1.1 x.1.2.1 x.1.2.2
def ccell (x : CA) : List Value := [slV x, .int .i64 x.2]
def ChQ (w : World) (x : CA) (A : List FL) : Prop := LL w (slV x) A ∧ (∀ l ∈ A, Wl l) ∧ -9223372036854775808 ≤ x.2 ∧ x.2 ≤ 9223372036854775807
theorem chs_read {w : World} {es : List Value} (hl : es.length = 2) (h : Rd Tryd.prog w 24 es) : ∃ x : CA, es = ccell x ∧ ∃ A, ChQ w x A := by
  obtain ⟨v, r, L, rfl, hL, hw, hr⟩ := chain_read hl h
  obtain ⟨a, c, rfl⟩ := hL.isSlice
  exact ⟨((a, L.length, c), r), rfl, L, hL, hw, hr⟩
theorem ccells_at : ∀ (Cs : List CA) (k : Nat) (x : CA), Cs[k]? = some x → (Cs.flatMap ccell)[k * 2]? = some (slV x) ∧ (Cs.flatMap ccell)[k * 2 + 1]? = some (.int .i64 x.2)
  | [], k, l, h => by simp at h
  | x :: L, 0, l, h => by simp at h; subst h; exact ⟨rfl, rfl⟩
  | x :: L, k + 1, l, h => by
    have := ccells_at L k l (by simpa using h)
    have e : (x :: L).flatMap ccell = ccell x ++ L.flatMap ccell := rfl
    have e2 : (ccell x).length = 2 := rfl
    rw [e, List.getElem?_append_right (by rw [e2]; omega), List.getElem?_append_right (by rw [e2]; omega), e2, show (k + 1) * 2 - 2 = k * 2 by omega, show (k + 1) * 2 + 1 - 2 = k * 2 + 1 by omega]
    exact this
theorem chs_arg {w : World} {v : Value} (h : RdV Tryd.prog w 47 v) : ∃ (a : Option Addr) (c : Nat) (Cs : List CA) (AA : CA → List FL), v = .slice a Cs.length c ∧ Lies (fun _ => False) w 2 (.slice a Cs.length c) Cs.length (Cs.flatMap ccell) ∧ ∀ x ∈ Cs, ChQ w x (AA x) := by
  classical
  obtain ⟨a, len, cap, rfl, hrd⟩ := h.slice Tryd.underlying47
  obtain ⟨Cs, e, hv, _, hq⟩ := lies_of ccell 2 (fun _ => rfl) (by decide) (fun x u hu => by simp [ccell, slV] at hu; rcases hu with rfl | rfl <;> rfl) ((none, 0, 0), 0) Tryd.underlying47 cellsC (fun x => ∃ A, ChQ w x A) (fun es => chs_read) hrd
  subst e
  refine ⟨a, cap, Cs, fun x => if h : ∃ A, ChQ w x A then h.choose else [], rfl, hv.mono (fun _ _ h => h.elim), fun x hx => ?_⟩
  have h := hq x hx
  simp only [h, dif_pos]
  exact h.choose_spec
end Go.Proofs.YtlkhbepmkembgaaDoor
