/- Plain: ask, hold, release; what holds at every moment. -/
import Derived.Test.YtpjhdpfaogdboaaI
import Derived.Test.YtpjhdpfaogdboaaKp
namespace Go.Proofs.Ytpjhdpfaogdboaa
set_option linter.unusedSimpArgs false
set_option linter.unusedVariables false
open Go.RowKit
def emptyO (t : Tx) (age : Int) : Ow := ⟨t, age, [], [], false⟩
def hurt (o : Ow) (ws : List Wt) (x : Ow) : Bool := decide (x.tx ≠ o.tx) && (!x.fast && (decide (ltO o.key x.key) && clash x.lk ws))
def insO (o : Ow) : List Ow → List Ow
  | [] => [o]
  | x :: l => if ltO o.key x.key then o :: x :: l else x :: insO o l
def dropO (L : List Ow) (t : Tx) : List Ow := L.filter fun x => decide (x.tx ≠ t)
def layO (L : List Ow) (o : Ow) : List Ow := insO o (dropO L o.tx)

def askL (L : List Ow) (o : Ow) (ws : List Wt) : List Ow := layO (L.filter fun x => !hurt o ws x) { o with ws := ws }
def whoO (L : List Ow) (t : Tx) (age : Int) : Ow := (findO L t).getD (emptyO t age)
/-- may it ask? -/
def stO (L : List Ow) (t : Tx) (age : Int) (ws : List Wt) : Int :=
  if chkW ws ≠ 0 then chkW ws else if 0 < (whoO L t age).ws.length ∨ (whoO L t age).fast = true ∨ (whoO L t age).age ≠ age then 9 else if 256 < cnt L + ws.length then 10 else 0
def askP (L : List Ow) (t : Tx) (age : Int) (ws : List Wt) : List Ow := if stO L t age ws = 0 then (settled (askL L (whoO L t age) ws)).1 else L
def askG (L : List Ow) (t : Tx) (age : Int) (ws : List Wt) : List Tx := if stO L t age ws = 0 then (settled (askL L (whoO L t age) ws)).2 else []
def askD (L : List Ow) (t : Tx) (age : Int) (ws : List Wt) : List Tx := if stO L t age ws = 0 then (L.filter (hurt (whoO L t age) ws)).map (·.tx) else []
def fastO (t : Tx) (o : Ow) : Ow := if o.tx = t then { o with fast := true } else o
def holdE (L : List Ow) (t : Tx) : Int := match findO L t with
  | none => 6
  | some o => if 0 < o.ws.length then 9 else 0
def holdP (L : List Ow) (t : Tx) : List Ow := if holdE L t = 0 then L.map (fastO t) else L
def relP (L : List Ow) (t : Tx) : List Ow := if (findO L t).isSome then (settled (dropO L t)).1 else L
def relG (L : List Ow) (t : Tx) : List Tx := if (findO L t).isSome then (settled (dropO L t)).2 else []
def locksP (L : List Ow) (t : Tx) : List Wt := ((findO L t).map (·.lk)).getD []
def waitP (L : List Ow) : List Tx := (L.filter fun o => decide (0 < o.ws.length)).map (·.tx)
/-! ### clash -/
theorem clash_iff {a b : List Wt} : clash a b = true ↔ ∃ x ∈ a, ∃ y ∈ b, x.1 = y.1 ∧ (x.2 = 2 ∨ y.2 = 2) := by
  unfold clash
  simp only [List.any_eq_true, Bool.and_eq_true, Bool.or_eq_true, decide_eq_true_eq]
theorem clash_comm (a b : List Wt) : clash a b = clash b a := by
  rw [Bool.eq_iff_iff, clash_iff, clash_iff]
  constructor
  · rintro ⟨x, hx, y, hy, e, h⟩; exact ⟨y, hy, x, hx, e.symm, h.symm⟩
  · rintro ⟨x, hx, y, hy, e, h⟩; exact ⟨y, hy, x, hx, e.symm, h.symm⟩
theorem clash_nil (a : List Wt) : clash a [] = false := by
  rw [← Bool.not_eq_true, clash_iff]
  rintro ⟨x, _, y, hy, _⟩
  cases hy
theorem clash_nil' (a : List Wt) : clash [] a = false := by rw [clash_comm, clash_nil]
/-- what a grant adds -/
theorem fold_mem (ws : List Wt) : ∀ (l : List Wt) (x : Wt), x ∈ ws.foldl addW l → (∃ y, (y ∈ l ∨ y ∈ ws) ∧ y.1 = x.1 ∧ y.2 = x.2) := by
  induction ws with
  | nil => exact fun l x h => ⟨x, .inl h, rfl, rfl⟩
  | cons w ws ih =>
    intro l x h
    obtain ⟨y, hy, e1, e2⟩ := ih (addW l w) x h
    rcases hy with hy | hy
    · rcases addW_mem w l y hy with h1 | h1 | ⟨z, hz, e, h1⟩
      · exact ⟨y, .inl h1, e1, e2⟩
      · exact ⟨y, .inr (by rw [h1]; exact List.mem_cons_self), e1, e2⟩
      · have hm : max z.2 w.2 = z.2 ∨ max z.2 w.2 = w.2 := by omega
        rw [h1] at e1 e2
        simp only at e1 e2
        rcases hm with hm | hm
        · exact ⟨z, .inl hz, by omega, by omega⟩
        · exact ⟨w, .inr List.mem_cons_self, by omega, by omega⟩
    · exact ⟨y, .inr (List.mem_cons_of_mem _ hy), e1, e2⟩
theorem add_keep (w : Wt) : ∀ (l : List Wt) (x : Wt), x ∈ l → ∃ y ∈ addW l w, y.1 = x.1 ∧ (y.2 = x.2 ∨ y.2 = max x.2 w.2)
  | [], _, h => by cases h
  | a :: l, x, h => by
    unfold addW
    by_cases e : a.1 = w.1
    · rw [if_pos e]
      rcases List.mem_cons.1 h with rfl | h
      · exact ⟨_, List.mem_cons_self, rfl, .inr rfl⟩
      · exact ⟨x, List.mem_cons_of_mem _ h, rfl, .inl rfl⟩
    · rw [if_neg e]
      by_cases e2 : w.1 < a.1
      · rw [if_pos e2]
        exact ⟨x, List.mem_cons_of_mem _ h, rfl, .inl rfl⟩
      · rw [if_neg e2]
        rcases List.mem_cons.1 h with rfl | h
        · exact ⟨x, List.mem_cons_self, rfl, .inl rfl⟩
        · obtain ⟨y, hy, e1⟩ := add_keep w l x h
          exact ⟨y, List.mem_cons_of_mem _ hy, e1⟩
theorem add_self (w : Wt) : ∀ (l : List Wt), ∃ y ∈ addW l w, y.1 = w.1 ∧ w.2 ≤ y.2
  | [] => ⟨w, by simp [addW], rfl, Int.le_refl _⟩
  | a :: l => by
    unfold addW
    by_cases e : a.1 = w.1
    · rw [if_pos e]
      exact ⟨_, List.mem_cons_self, e, by simp only; omega⟩
    · rw [if_neg e]
      by_cases e2 : w.1 < a.1
      · rw [if_pos e2]
        exact ⟨w, List.mem_cons_self, rfl, Int.le_refl _⟩
      · rw [if_neg e2]
        obtain ⟨y, hy, h⟩ := add_self w l
        exact ⟨y, List.mem_cons_of_mem _ hy, h⟩
theorem fold_keep (ws : List Wt) : ∀ (l : List Wt), Fm ws → ∀ x ∈ l, x.2 ≤ 2 → ∃ y ∈ ws.foldl addW l, y.1 = x.1 ∧ x.2 ≤ y.2 ∧ y.2 ≤ 2 := by
  induction ws with
  | nil => exact fun l _ x h hx => ⟨x, h, rfl, Int.le_refl _, hx⟩
  | cons w ws ih =>
    intro l hw x h hx
    obtain ⟨y, hy, e1, e2⟩ := add_keep w l x h
    have h2 := (hw w List.mem_cons_self).2.2
    obtain ⟨z, hz, e3, e4, e5⟩ := ih (addW l w) (fun a ha => hw a (List.mem_cons_of_mem _ ha)) y hy (by omega)
    exact ⟨z, hz, by omega, by omega, e5⟩
theorem clash_grant {o : Ow} {b : List Wt} (h : clash (grant o).lk b = true) : clash o.lk b = true ∨ clash o.ws b = true := by
  obtain ⟨x, hx, y, hy, e, hm⟩ := clash_iff.1 h
  obtain ⟨z, hz, e1, e2⟩ := fold_mem o.ws o.lk x hx
  rcases hz with hz | hz
  · exact .inl (clash_iff.2 ⟨z, hz, y, hy, e1.trans e, by omega⟩)
  · exact .inr (clash_iff.2 ⟨z, hz, y, hy, e1.trans e, by omega⟩)
theorem clash_keep {o : Ow} {b : List Wt} (hf : Fm o.lk) (hg : Fm o.ws) (h : clash o.lk b = true) : clash (grant o).lk b = true := by
  obtain ⟨x, hx, y, hy, e, hm⟩ := clash_iff.1 h
  have h2 := (hf x hx).2.2
  obtain ⟨z, hz, e1, e2, e3⟩ := fold_keep o.ws o.lk hg x hx (by omega)
  exact clash_iff.2 ⟨z, hz, y, hy, e1.trans e, by omega⟩
theorem grant_has {o : Ow} (h : 0 < o.ws.length) : 0 < (grant o).lk.length := by
  obtain ⟨tx, age, lk, ws, fast⟩ := o
  show 0 < (ws.foldl addW lk).length
  simp only at h
  have h1 : ∀ (ws : List Wt) (l : List Wt), 0 < l.length → 0 < (ws.foldl addW l).length := by
    intro ws
    induction ws with
    | nil => exact fun l h => h
    | cons w ws ih =>
      intro l _
      refine ih _ ?_
      obtain ⟨y, hy, _⟩ := add_self w l
      exact List.length_pos_of_mem hy
  cases ws with
  | nil => simp at h
  | cons w ws =>
    refine h1 ws _ ?_
    obtain ⟨y, hy, _⟩ := add_self w lk
    exact List.length_pos_of_mem hy
/-! ### what holds at every moment -/
structure Inv0 (L : List Ow) : Prop where
  srt : L.Pairwise fun x y => ltO x.key y.key
  nod : (L.map (·.tx)).Nodup
  ok : ∀ o ∈ L, OkO o
  apart : ∀ x ∈ L, ∀ y ∈ L, x.tx ≠ y.tx → clash x.lk y.lk = false
  fst : ∀ o ∈ L, o.fast = true → o.ws = []
  wait : ∀ a ∈ L, ∀ y ∈ L, ltO a.key y.key → y.fast = false → clash y.lk a.ws = false
def Done (L : List Ow) (k : Nat) : Prop := ∀ i o, i < k → L[i]? = some o → goS L i o = false
structure Inv (L : List Ow) : Prop extends Inv0 L where
  done : Done L L.length
theorem goS_iff {L : List Ow} {i : Nat} {o : Ow} : goS L i o = true ↔ 0 < o.ws.length ∧ (∀ x ∈ L, x.tx ≠ o.tx → clash x.lk o.ws = false) ∧ ∀ x ∈ L.take i, clash x.ws o.ws = false := by
  unfold goS
  simp only [Bool.and_eq_true, decide_eq_true_eq, Bool.not_eq_true', List.any_eq_false, Bool.and_eq_true, decide_eq_true_eq, not_and, Bool.not_eq_true]
theorem nodup_at {L : List Ow} (hn : (L.map (·.tx)).Nodup) {i j : Nat} {x y : Ow} (hi : L[i]? = some x) (hj : L[j]? = some y) (e : x.tx = y.tx) : i = j := by
  have h1 : (L.map (·.tx))[i]? = some x.tx := by rw [List.getElem?_map, hi]; rfl
  have h2 : (L.map (·.tx))[j]? = some x.tx := by rw [List.getElem?_map, hj, e]; rfl
  have hp := List.pairwise_iff_getElem.1 hn
  obtain ⟨l1, e1⟩ := List.getElem?_eq_some_iff.1 h1
  obtain ⟨l2, e2⟩ := List.getElem?_eq_some_iff.1 h2
  rcases Nat.lt_trichotomy i j with h3 | h3 | h3
  · exact absurd (e1.trans e2.symm) (hp i j l1 l2 h3)
  · exact h3
  · exact absurd (e2.trans e1.symm) (hp j i l2 l1 h3)
theorem mem_set {L : List Ow} {k : Nat} {o o' x : Ow} (hk : L[k]? = some o) (hn : (L.map (·.tx)).Nodup) (ht : o'.tx = o.tx) (h : x ∈ L.set k o') : (x = o' ∨ (x ∈ L ∧ x.tx ≠ o.tx)) := by
  obtain ⟨j, hj⟩ := List.getElem?_of_mem h
  rw [List.getElem?_set] at hj
  split at hj
  · rename_i e
    split at hj
    · exact .inl (Option.some.inj hj).symm
    · cases hj
  · rename_i e
    refine .inr ⟨List.mem_of_getElem? hj, fun he => e ?_⟩
    exact nodup_at hn hk hj he.symm
theorem keys_set {L : List Ow} {k : Nat} {o o' : Ow} (hk : L[k]? = some o) (h : o'.key = o.key) : (L.set k o').map (·.key) = L.map (·.key) := by
  rw [List.map_set]
  apply List.ext_getElem?
  intro j
  rw [List.getElem?_set]
  split
  · rename_i e; subst e
    have hl := (List.getElem?_eq_some_iff.1 hk).1
    rw [List.length_map, if_pos hl, List.getElem?_map, hk, h]
    rfl
  · rfl
theorem txs_key (L : List Ow) : L.map (·.tx) = (L.map (·.key)).map (·.2) := by rw [List.map_map]; rfl
theorem srt_key {L : List Ow} : (L.Pairwise fun x y => ltO x.key y.key) ↔ (L.map (·.key)).Pairwise ltO := by rw [List.pairwise_map]
theorem Inv0.step {L : List Ow} (h : Inv0 L) {k : Nat} {o : Ow} (hk : L[k]? = some o) (hg : goS L k o = true) : Inv0 (L.set k (grant o)) := by
  obtain ⟨g1, g2, g3⟩ := goS_iff.1 hg
  have hks := keys_set (o' := grant o) hk rfl
  have hom := List.mem_of_getElem? hk
  have hnf : o.fast = false := by
    cases hf : o.fast with
    | false => rfl
    | true => have := h.fst o hom hf; rw [this] at g1; simp at g1
  refine ⟨?_, ?_, ?_, ?_, ?_, ?_⟩
  · rw [srt_key, hks, ← srt_key]; exact h.srt
  · rw [txs_key, hks, ← txs_key]; exact h.nod
  · intro x hx
    rcases mem_set (o' := grant o) hk h.nod rfl hx with rfl | ⟨hx, _⟩
    · exact grant_ok (h.ok o hom)
    · exact h.ok x hx
  · have hA : ∀ x ∈ L, x.tx ≠ o.tx → clash (grant o).lk x.lk = false := fun x hx hne => by
      rw [← Bool.not_eq_true]
      intro hc
      rcases clash_grant hc with hc | hc
      · rw [h.apart o hom x hx (Ne.symm hne)] at hc; cases hc
      · rw [clash_comm, g2 x hx hne] at hc; cases hc
    intro x hx y hy hne
    rcases mem_set (o' := grant o) hk h.nod rfl hx with rfl | ⟨hx, hx2⟩
    · rcases mem_set (o' := grant o) hk h.nod rfl hy with rfl | ⟨hy, hy2⟩
      · exact absurd rfl hne
      · exact hA y hy hy2
    · rcases mem_set (o' := grant o) hk h.nod rfl hy with rfl | ⟨hy, hy2⟩
      · rw [clash_comm]; exact hA x hx hx2
      · exact h.apart x hx y hy hne
  · intro x hx hf
    rcases mem_set (o' := grant o) hk h.nod rfl hx with rfl | ⟨hx, hx2⟩
    · rfl
    · exact h.fst x hx hf
  · intro a ha y hy hlt hf
    rcases mem_set (o' := grant o) hk h.nod rfl ha with rfl | ⟨ha, ha2⟩
    · exact clash_nil _
    · rcases mem_set (o' := grant o) hk h.nod rfl hy with rfl | ⟨hy, hy2⟩
      · rw [← Bool.not_eq_true]
        intro hc
        have hlt' : ltO a.key o.key := hlt
        rcases clash_grant hc with hc | hc
        · rw [h.wait a ha o hom hlt' hnf] at hc; cases hc
        · obtain ⟨j, hj⟩ := List.getElem?_of_mem ha
          have hjk : j < k := by
            rcases Nat.lt_trichotomy j k with h1 | h1 | h1
            · exact h1
            · rw [h1, hk] at hj
              exact absurd (congrArg Ow.tx (Option.some.inj hj).symm) ha2
            · obtain ⟨l1, e1⟩ := List.getElem?_eq_some_iff.1 hj
              obtain ⟨l2, e2⟩ := List.getElem?_eq_some_iff.1 hk
              have := List.pairwise_iff_getElem.1 h.srt k j l2 l1 h1
              rw [e1, e2] at this
              exact absurd (ltO_trans this hlt') (ltO_irrefl _)
          have hat : a ∈ L.take k := by
            refine List.mem_of_getElem? (i := j) ?_
            rw [List.getElem?_take, if_pos hjk, hj]
          rw [clash_comm, g3 a hat] at hc
          cases hc
      · exact h.wait a ha y hy hlt hf
theorem Done.step {L : List Ow} (h0 : Inv0 L) {k : Nat} (h : Done L k) {o : Ow} (hk : L[k]? = some o) (hg : goS L k o = true) : Done (L.set k (grant o)) (k + 1) := by
  intro i x hi hx
  have hl := (List.getElem?_eq_some_iff.1 hk).1
  have hom := List.mem_of_getElem? hk
  rcases Nat.lt_succ_iff_lt_or_eq.1 hi with hi | rfl
  · rw [List.getElem?_set, if_neg (by omega)] at hx
    have h1 := h i x hi hx
    rw [← Bool.not_eq_true]
    intro h2
    obtain ⟨a1, a2, a3⟩ := goS_iff.1 h2
    have hxm := List.mem_of_getElem? hx
    have hne : x.tx ≠ o.tx := fun e => by have := nodup_at h0.nod hx hk e; omega
    have h3 : goS L i x = true := goS_iff.2 ⟨a1, fun y hy hyn => by
      by_cases he : y.tx = o.tx
      · obtain ⟨j, hj⟩ := List.getElem?_of_mem hy
        have hjk := nodup_at h0.nod hj hk he
        rw [hjk, hk] at hj
        obtain rfl := Option.some.inj hj
        have hm : grant o ∈ L.set k (grant o) := List.mem_of_getElem? (i := k) (by rw [List.getElem?_set, if_pos rfl, if_pos hl])
        have h4 := a2 _ hm (show o.tx ≠ x.tx from Ne.symm hne)
        rw [← Bool.not_eq_true]
        intro hc
        rw [clash_keep (h0.ok o hom).f (h0.ok o hom).g hc] at h4
        cases h4
      · obtain ⟨j, hj⟩ := List.getElem?_of_mem hy
        have hjk : k ≠ j := fun e => by rw [← e, hk] at hj; exact he (congrArg Ow.tx (Option.some.inj hj).symm)
        exact a2 y (List.mem_of_getElem? (i := j) (by rw [List.getElem?_set, if_neg hjk]; exact hj)) hyn, fun y hy => a3 y (by
          rw [List.take_set_of_le (by omega)]; exact hy)⟩
    rw [h3] at h1
    cases h1
  · rw [List.getElem?_set, if_pos rfl, if_pos hl] at hx
    obtain rfl := Option.some.inj hx
    rw [← Bool.not_eq_true]
    intro h2
    have := (goS_iff.1 h2).1
    exact absurd this (Nat.lt_irrefl _)
theorem setK_inv {L : List Ow} (h : Inv0 L) : ∀ k, k ≤ L.length → Inv0 (setK L k).1 ∧ Done (setK L k).1 k
  | 0, _ => ⟨h, fun i o hi => absurd hi (Nat.not_lt_zero _)⟩
  | k + 1, hk => by
    obtain ⟨h1, h2⟩ := setK_inv h k (by omega)
    show Inv0 (stepS (setK L k) k).1 ∧ Done (stepS (setK L k) k).1 (k + 1)
    have hlen := setK_len L k
    obtain ⟨o, ho⟩ : ∃ o, (setK L k).1[k]? = some o := ⟨_, List.getElem?_eq_getElem (by omega)⟩
    unfold stepS
    rw [ho]
    by_cases hg : goS (setK L k).1 k o = true
    · simp only [hg, if_true]
      exact ⟨h1.step ho hg, h2.step h1 ho hg⟩
    · simp only [hg, if_false, Bool.false_eq_true]
      refine ⟨h1, fun i x hi hx => ?_⟩
      rcases Nat.lt_succ_iff_lt_or_eq.1 hi with hi | rfl
      · exact h2 i x hi hx
      · rw [ho] at hx
        obtain rfl := Option.some.inj hx
        simpa using hg
theorem settled_inv {L : List Ow} (h : Inv0 L) : Inv (settled L).1 := by
  obtain ⟨h1, h2⟩ := setK_inv h L.length (Nat.le_refl _)
  exact ⟨h1, by rw [show (settled L).1.length = L.length from setK_len L _]; exact h2⟩
end Go.Proofs.Ytpjhdpfaogdboaa
