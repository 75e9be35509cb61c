/- Texts of this claim, merged: Hold. -/
import Derived.StillTail
import Derived.Test.YtpjhdpfaogdboaaPm1
import Derived.Test.YtpjhdpfaogdboaaPm3
import Derived.Test.YtpjhdpfaogdboaaPm5
/- A region that draws its order, walked by hand: a condition S holds till operation X comes up (a writer); loads that X waits for are taken first; what is left in one order alone is a list. -/
namespace Go.Proofs.Ytpjhdpfaogdboaa
set_option linter.unusedSimpArgs false
set_option linter.unusedVariables false
open Go.RowKit

section
variable {P : Program} {ops : Array Oper} {Q : Exit → Act → World → Prop} {md : Region.Mode} {S T : World → Prop} {X : Nat}

/-- while X has not come up S holds -/
def Till (S : World → Prop) (X : Nat) (listed : Array Bool) (w : World) : Prop := listed.getD X true = false → S w
def wpAnyT (P : Program) (md : Region.Mode) (ops : Array Oper) (Q : Exit → Act → World → Prop) (S : World → Prop) (X : Nat) : Nat → Array Bool → Act → World → Prop
  | 0, listed, a, w => Region.ready md ops listed = [] ∧ Q .normal a w
  | fuel + 1, listed, a, w =>
    (Region.ready md ops listed = [] → Q .normal a w) ∧
    ∀ i ∈ Region.ready md ops listed, wpOp P ops Q i (fun a' w' => Till S X (listed.setIfInBounds i true) w' ∧ wpAnyT P md ops Q S X fuel (listed.setIfInBounds i true) a' w') a w
theorem wpAny_of_till : ∀ (fuel : Nat) (listed : Array Bool) (a : Act) (w : World), wpAnyT P md ops Q S X fuel listed a w → wpAny P md ops Q fuel listed a w
  | 0, _, _, _, h => h
  | fuel + 1, _, _, _, h => ⟨h.1, fun i hi => wpOp_mono (fun a' w' h' => wpAny_of_till fuel _ a' w' h'.2) (h.2 i hi)⟩
theorem till_of_any : ∀ (fuel : Nat) (listed : Array Bool) (a : Act) (w : World), listed.getD X true = true → wpAny P md ops Q fuel listed a w → wpAnyT P md ops Q S X fuel listed a w
  | 0, _, _, _, _, h => h
  | fuel + 1, listed, _, _, hX, h => ⟨h.1, fun i hi => by
    have hX' : (listed.setIfInBounds i true).getD X true = true := by
      by_cases e : i = X
      · subst e
        rcases Nat.lt_or_ge i listed.size with h' | h'
        · simp [h']
        · simp [Array.getElem?_eq_none h', Array.setIfInBounds_eq_of_size_le h']
      · rw [getD_set_ne true e]; exact hX
    exact wpOp_mono (fun a' w' h' => ⟨fun h0 => (by rw [hX'] at h0; cases h0), till_of_any fuel _ a' w' hX' h'⟩) (h.2 i hi)⟩
theorem wpAnyT_mono {S1 : World → Prop} (h : ∀ w, S1 w → S w) : ∀ (fuel : Nat) (listed : Array Bool) (a : Act) (w : World), wpAnyT P md ops Q S1 X fuel listed a w → wpAnyT P md ops Q S X fuel listed a w
  | 0, _, _, _, h0 => h0
  | fuel + 1, _, _, _, h0 => ⟨h0.1, fun i hi => wpOp_mono (fun a' w' h' => ⟨fun hx => h _ (h'.1 hx), wpAnyT_mono h fuel _ a' w' h'.2⟩) (h0.2 i hi)⟩

/-- what has come up is closed: what it waited for has come up -/
def Region.closedB (md : Region.Mode) (ops : Array Oper) (listed : Array Bool) : Bool :=
  decide (listed.size = ops.size) && (List.range ops.size).all fun j => !listed.getD j false || ((ops[j]?).map fun o => o.after.all fun e => !Region.binds md e || listed.getD e.on false).getD true
structure Closed (md : Region.Mode) (ops : Array Oper) (listed : Array Bool) : Prop where
  size : listed.size = ops.size
  closed : ∀ j oj, ops[j]? = some oj → listed.getD j false = true → ∀ e ∈ oj.after, Region.binds md e = true → listed.getD e.on false = true
theorem Region.closed_spec {listed : Array Bool} (h : Region.closedB md ops listed = true) : Closed md ops listed := by
  simp only [Region.closedB, Bool.and_eq_true, decide_eq_true_eq, List.all_eq_true, List.mem_range] at h
  refine ⟨h.1, fun j oj hj hl e he hb => ?_⟩
  have := h.2 j (Array.getElem?_eq_some_iff.1 hj).1
  simp only [hl, hj, Option.map_some, Option.getD_some, Bool.not_true, Bool.false_or, Array.all_eq_true_iff_forall_mem] at this
  have := this e he
  simpa [hb] using this
theorem Closed.set {listed : Array Bool} (c : Closed md ops listed) {i : Nat} (hi : i ∈ Region.ready md ops listed) : Closed md ops (listed.setIfInBounds i true) := by
  obtain ⟨hun, oi, hoi, hall⟩ := mem_ready.1 hi
  have mono : ∀ k, listed.getD k false = true → (listed.setIfInBounds i true).getD k false = true := fun k hk => by
    by_cases e : i = k
    · subst e
      rcases Nat.lt_or_ge i listed.size with h' | h'
      · simp [h']
      · simp [Array.getElem?_eq_none h'] at hk
    · rw [getD_set_ne false e]; exact hk
  refine ⟨by simp [c.size], fun j oj hj hl e he hb => ?_⟩
  by_cases hij : i = j
  · subst hij
    have : oj = oi := Option.some.inj (hj.symm.trans hoi)
    subst this
    exact mono _ (hall e he hb)
  · rw [getD_set_ne false hij] at hl
    exact mono _ (c.closed j oj hj hl e he hb)
/-- X waits for i, step by step -/
def Region.pathB (md : Region.Mode) (ops : Array Oper) : Nat → List Nat → Nat → Bool
  | x, [], i => Region.waitsFor md ops x i
  | x, y :: r, i => Region.waitsFor md ops x y && Region.pathB md ops y r i
theorem Closed.path {listed : Array Bool} (c : Closed md ops listed) : ∀ (r : List Nat) (x i : Nat), Region.pathB md ops x r i = true → listed.getD x false = true → listed.getD i false = true
  | [], x, i, h, hx => by
    obtain ⟨oj, hj, e, he, hb, rfl⟩ := Region.waitsFor_spec h
    exact c.closed x oj hj hx e he hb
  | y :: r, x, i, h, hx => by
    simp only [Region.pathB, Bool.and_eq_true] at h
    obtain ⟨oj, hj, e, he, hb, rfl⟩ := Region.waitsFor_spec h.1
    exact c.path r _ i h.2 (c.closed x oj hj hx e he hb)

theorem wpAnyT_first {i : Nat} {oi : Oper} {v : Value} (hi : ops[i]? = some oi) (hsel : ∀ (j : Nat) (o : Oper) cs b, ops[j]? = some o → o.op ≠ .select cs b)
    (hQ : ∀ c a w, Q (.panic c) (a.put oi.dst v) w → Q (.panic c) a w) (hX : i ≠ X) (hT : ∀ l w, Closed md ops l → l.getD i true = false → Till S X l w → T w) :
    ∀ (fuel : Nat) (listed : Array Bool) (a : Act) (w : World),
      (∀ j oj, ops[j]? = some oj → j ≠ i → listed.getD j true = false → (∀ e ∈ oj.after, Region.binds md e = true → e.on ≠ i) → oi.apart ops oj = true) →
      Closed md ops listed → i ∈ Region.ready md ops listed → YieldsIf P ops T oi v a → Till S X listed w →
      wpAnyT P md ops Q S X fuel (listed.setIfInBounds i true) (a.put oi.dst v) w → wpAnyT P md ops Q S X (fuel + 1) listed a w := by
  intro fuel
  induction fuel with
  | zero =>
    intro listed a w _ hcl hr hy hS H
    refine ⟨fun h => (by rw [h] at hr; cases hr), fun j hj => ?_⟩
    by_cases hji : j = i
    · subst hji
      exact hy.wpOp hi (hT _ _ hcl (mem_ready.1 hr).1 hS) ⟨fun h => hS (by rw [getD_set_ne true hX] at h; exact h), H⟩
    · have := ready_mono hj hji
      rw [H.1] at this
      cases this
  | succ fuel ih =>
    intro listed a w hfree hcl hr hy hS H
    refine ⟨fun h => (by rw [h] at hr; cases hr), fun j hj => ?_⟩
    by_cases hji : j = i
    · subst hji
      exact hy.wpOp hi (hT _ _ hcl (mem_ready.1 hr).1 hS) ⟨fun h => hS (by rw [getD_set_ne true hX] at h; exact h), H⟩
    · have h1 := H.2 j (ready_mono hj hji)
      obtain ⟨hjun, oj, hoj, hall⟩ := mem_ready.1 hj
      have hnot : ∀ e ∈ oj.after, Region.binds md e = true → e.on ≠ i := fun e he hb heq => by
        have h1 := hall e he hb
        have h0 := (mem_ready.1 hr).1
        rw [heq] at h1
        rcases Nat.lt_or_ge i listed.size with h' | h'
        · simp [h'] at h0 h1; rw [h0] at h1; cases h1
        · simp [Array.getElem?_eq_none h'] at h1
      have h2 := wpOp_putIf hoj (hfree j oj hoj hji hjun hnot) (fun cs b => hsel i oi cs b hi) (fun cs b => hsel j oj cs b hoj) hQ hy h1
      have hfree' : ∀ k ok, ops[k]? = some ok → k ≠ i → (listed.setIfInBounds j true).getD k true = false →
          (∀ e ∈ ok.after, Region.binds md e = true → e.on ≠ i) → oi.apart ops ok = true := fun k ok hk hki hun hno => by
        refine hfree k ok hk hki ?_ hno
        by_cases hjk : j = k
        · subst hjk; exact hjun
        · rw [getD_set_ne true hjk] at hun; exact hun
      refine wpOp_mono (fun a' w' h3 => ?_) h2
      have hT' : Till S X (listed.setIfInBounds j true) w' := fun h => h3.2.1 (by rw [Array.setIfInBounds_comm _ _ (Ne.symm hji), getD_set_ne true hX]; exact h)
      refine ⟨hT', ih (listed.setIfInBounds j true) a' w' hfree' (hcl.set hj) (ready_mono hr (Ne.symm hji)) h3.1 hT' ?_⟩
      rw [Array.setIfInBounds_comm _ _ hji]
      exact h3.2.2

/-- a load that X waits for (by way of r) is taken first -/
theorem till_load (i : Nat) (d : Option Tmp) (r : List Nat) {v : Value} {fuel : Nat} {listed : Array Bool} {a : Act} {w : World} (hi : i < ops.size) (hd : ops[i].dst = d)
    (hs : Region.noSelect ops = true) (hf : Region.free md ops listed i = true) (hr : (Region.ready md ops listed).contains i = true) (hc : Region.closedB md ops listed = true) (hp : Region.pathB md ops X r i = true) (hX : i ≠ X) (hXs : X < ops.size)
    (hQ : ∀ c a w, Q (.panic c) (a.put d v) w → Q (.panic c) a w) (hy : YieldsIf P ops S ops[i] v a) (hS : S w)
    (h : wpAnyT P md ops Q S X fuel (listed.setIfInBounds i true) (a.put d v) w) : wpAnyT P md ops Q S X (fuel + 1) listed a w := by
  subst hd
  have hi' : ops[i]? = some ops[i] := by rw [Array.getElem?_eq_getElem hi]
  refine wpAnyT_first (T := S) hi' (Region.noSelect_spec hs) hQ hX (fun l w' c hl ht => ht ?_) fuel listed a w (Region.free_spec hi' hf) (Region.closed_spec hc) (by simpa using hr) hy (fun _ => hS) h
  cases hx : l.getD X true with
  | false => rfl
  | true =>
    have hx' : l.getD X false = true := by
      have : X < l.size := by rw [c.size]; exact hXs
      simp [this] at hx ⊢; exact hx
    have := c.path r X i hp hx'
    have h0 : i < l.size := by rw [c.size]; exact hi
    simp [h0] at hl this
    rw [hl] at this; cases this
/-- what needs no world is taken first -/
theorem till_pure (i : Nat) (d : Option Tmp) {v : Value} {fuel : Nat} {listed : Array Bool} {a : Act} {w : World} (hi : i < ops.size) (hd : ops[i].dst = d)
    (hs : Region.noSelect ops = true) (hf : Region.free md ops listed i = true) (hr : (Region.ready md ops listed).contains i = true) (hc : Region.closedB md ops listed = true) (hX : i ≠ X)
    (hQ : ∀ c a w, Q (.panic c) (a.put d v) w → Q (.panic c) a w) (hy : YieldsIf P ops (fun _ => True) ops[i] v a) (hS : S w)
    (h : wpAnyT P md ops Q S X fuel (listed.setIfInBounds i true) (a.put d v) w) : wpAnyT P md ops Q S X (fuel + 1) listed a w := by
  subst hd
  have hi' : ops[i]? = some ops[i] := by rw [Array.getElem?_eq_getElem hi]
  exact wpAnyT_first (T := fun _ => True) hi' (Region.noSelect_spec hs) hQ hX (fun _ _ _ _ _ => trivial) fuel listed a w (Region.free_spec hi' hf) (Region.closed_spec hc) (by simpa using hr) hy (fun _ => hS) h
/-- one that comes up alone, ahead of X: S is to be shown anew -/
theorem till_call (i : Nat) {o : Oper} {fuel : Nat} {listed : Array Bool} {a : Act} {w : World} (hr : Region.ready md ops listed = [i]) (ho : ops[i]? = some o)
    (h : ∀ K' : Act → World → Prop, Shut (∀ a w, S w → (S w → wpAnyT P md ops Q S X fuel (listed.setIfInBounds i true) a w) → K' a w) → if Region.wanted o (yielded ops a.tmps) = true then Oper.wp P o a w K' Q else K' (a.put o.dst undef) w) :
    wpAnyT P md ops Q S X (fuel + 1) listed a w := by
  refine ⟨fun h0 => (by rw [hr] at h0; cases h0), fun j hj => ?_⟩
  rw [hr] at hj
  have : j = i := by simpa using hj
  subst this
  exact wpOp_step ho (fun K' hK => h K' (fun a w hS hW => hK a w ⟨fun _ => hS, hW hS⟩))
/-- what is left comes up in one order alone -/
def Region.seqL (md : Region.Mode) (ops : Array Oper) : List Nat → Array Bool → Bool
  | [], listed => (Region.ready md ops listed).isEmpty
  | i :: r, listed => decide (Region.ready md ops listed = [i]) && Region.seqL md ops r (listed.setIfInBounds i true)
theorem wpAny_seqL : ∀ (rs : List Nat) (l : List Oper) (fuel : Nat) (listed : Array Bool) (a : Act) (w : World), rs.map (fun i => ops[i]?) = l.map some → Region.seqL md ops rs listed = true → rs.length ≤ fuel → wpList P ops Q l a w → wpAny P md ops Q fuel listed a w
  | [], [], fuel, listed, a, w, _, hB, _, h => wpAny_done (by simpa [Region.seqL] using hB) h fuel
  | i :: rs, o :: l, fuel + 1, listed, a, w, hl, hB, hf, h => by
    simp only [List.map_cons, List.cons.injEq] at hl
    simp only [Region.seqL, Bool.and_eq_true, decide_eq_true_eq] at hB
    refine ⟨fun h1 => (by rw [hB.1] at h1; cases h1), fun j hj => ?_⟩
    rw [hB.1] at hj
    have : j = i := by simpa using hj
    subst this
    have hw : wpOp P ops Q j (wpList P ops Q l) a w := by unfold wpOp; simp only [hl.1]; exact h
    exact wpOp_mono (fun a' w' h' => wpAny_seqL rs l fuel _ a' w' hl.2 hB.2 (by simpa using hf) h') hw
  | [], _ :: _, _, _, _, _, hl, _, _, _ => by simp at hl
  | _ :: _, [], _, _, _, _, hl, _, _, _ => by simp at hl
  | _ :: _, _ :: _, 0, _, _, _, _, _, hf, _ => by simp at hf
/-- X and what follows it, in one order alone: a list -/
theorem till_seq (rs : List Nat) (l : List Oper) {fuel : Nat} {listed : Array Bool} {a : Act} {w : World} (hl : (X :: rs).map (fun i => ops[i]?) = l.map some) (hB : Region.seqL md ops (X :: rs) listed = true) (hf : rs.length ≤ fuel) (hXs : X < listed.size)
    (h : wpList P ops Q l a w) : wpAnyT P md ops Q S X (fuel + 1) listed a w := by
  have H : wpAny P md ops Q (fuel + 1) listed a w := wpAny_seqL (X :: rs) l (fuel + 1) listed a w hl hB (by simpa using hf) h
  refine ⟨H.1, fun i hi => ?_⟩
  simp only [Region.seqL, Bool.and_eq_true, decide_eq_true_eq] at hB
  rw [hB.1] at hi
  have : i = X := by simpa using hi
  subst this
  have hX' : (listed.setIfInBounds i true).getD i true = true := by simp [hXs]
  exact wpOp_mono (fun a' w' h' => ⟨fun h0 => (by rw [hX'] at h0; cases h0), till_of_any fuel _ a' w' hX' h'⟩) (H.2 i (by rw [hB.1]; simp))
/-- all came up ahead of X's turn (X is no operation of the region) -/
theorem till_done {listed : Array Bool} {a : Act} {w : World} (hr : Region.ready md ops listed = []) (h : Q .normal a w) : ∀ fuel, wpAnyT P md ops Q S X fuel listed a w
  | 0 => ⟨hr, h⟩
  | _ + 1 => ⟨fun _ => h, by rw [hr]; simp⟩
theorem wp_region_till (S : World → Prop) (X : Nat) {id : Nat} {a : Act} {w : World} (hm : P.follows .mixedOrders = true) (hS : S w.drew)
    (h : S w.drew → wpAnyT P .any ops Q S X ops.size (Array.replicate ops.size false) a w.drew) : (Code.region id ops true).wp P Q a w :=
  wp_region_any hm (wpAny_of_till _ _ _ _ (h hS))
end
def pickOps (ops : Array Oper) : List Nat → List Oper
  | [] => []
  | i :: r => match ops[i]? with
    | some o => o :: pickOps ops r
    | none => pickOps ops r
theorem pickOps_map {ops : Array Oper} : ∀ rs : List Nat, rs.all (fun i => decide (i < ops.size)) = true → rs.map (fun i => ops[i]?) = (pickOps ops rs).map some
  | [], _ => rfl
  | i :: r, h => by
    simp only [List.all_cons, Bool.and_eq_true, decide_eq_true_eq] at h
    have e : ops[i]? = some ops[i] := by rw [Array.getElem?_eq_getElem h.1]
    simp only [pickOps, List.map_cons, e]
    rw [pickOps_map r h.2]
theorem till_list {P : Program} {ops : Array Oper} {Q : Exit → Act → World → Prop} {md : Region.Mode} {S : World → Prop} {X : Nat} (rs : List Nat) {fuel : Nat} {listed : Array Bool} {a : Act} {w : World} (hsz : (X :: rs).all (fun i => decide (i < ops.size)) = true) (hB : Region.seqL md ops (X :: rs) listed = true) (hf : rs.length ≤ fuel) (hXs : X < listed.size)
    (h : wpList P ops Q (pickOps ops (X :: rs)) a w) : wpAnyT P md ops Q S X (fuel + 1) listed a w := till_seq rs _ (pickOps_map _ hsz) hB hf hXs h

end Go.Proofs.Ytpjhdpfaogdboaa
