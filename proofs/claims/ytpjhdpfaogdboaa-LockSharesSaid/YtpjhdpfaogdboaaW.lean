/- Plain law of LockShares. -/
import Derived.Test.YtpjhdpfaogdboaaNq
namespace Go.Proofs.Ytpjhdpfaogdboaa
open Go.RowKit
/-- one alone waits -/
theorem settle_one {M : List Ow} {i : Nat} {o : Ow} (hi : M[i]? = some o) (hr : ∀ j x, j ≠ i → M[j]? = some x → x.ws = []) (b : Bool) (hg : goS M i o = b) : settled M = if b = true then (M.set i (grant o), [o.tx]) else (M, []) := by
  have hil := (List.getElem?_eq_some_iff.1 hi).1
  have h0 : ∀ k, k ≤ i → setK M k = (M, []) := by
    intro k
    induction k with
    | zero => exact fun _ => rfl
    | succ k ih =>
      intro hk
      have e := ih (by omega)
      show stepS (setK M k) k = _
      rw [e]
      obtain ⟨x, hx⟩ : ∃ x, M[k]? = some x := ⟨_, List.getElem?_eq_getElem (by omega)⟩
      have hw := hr k x (by omega) hx
      unfold stepS
      simp only [hx]
      have : goS M k x = false := by unfold goS; simp [hw]
      simp [this]
  have h1 : setK M (i + 1) = if b = true then (M.set i (grant o), [o.tx]) else (M, []) := by
    show stepS (setK M i) i = _
    rw [h0 i (Nat.le_refl _)]
    unfold stepS
    simp only [hi, hg, List.nil_append]
  have h2 : ∀ k, i + 1 ≤ k → k ≤ M.length → setK M k = if b = true then (M.set i (grant o), [o.tx]) else (M, []) := by
    intro k
    induction k with
    | zero => exact fun hk => absurd hk (Nat.not_succ_le_zero _)
    | succ k ih =>
      intro hk hl
      rcases Nat.eq_or_lt_of_le hk with e0 | hk
      · rw [← e0]; exact h1
      have e := ih (by omega) (by omega)
      show stepS (setK M k) k = _
      rw [e]
      obtain ⟨x, hx⟩ : ∃ x, M[k]? = some x := ⟨_, List.getElem?_eq_getElem (by omega)⟩
      have hw := hr k x (by omega) hx
      have hx2 : (if b = true then (M.set i (grant o), [o.tx]) else (M, [])).1[k]? = some x := by
        cases b
        · exact hx
        · simp only [if_true]
          rw [List.getElem?_set_ne (by omega)]
          exact hx
      unfold stepS
      rw [hx2]
      have : goS (if b = true then (M.set i (grant o), [o.tx]) else (M, [])).1 k x = false := by unfold goS; simp [hw]
      simp [this]
  exact h2 M.length (by omega) (Nat.le_refl _)
def shO (id : Int) (p : Int × Tx) : Ow := ⟨p.2, p.1, [(id, 1)], [], false⟩
def tx0 (n : Nat) : Tx := (0, 0, (n : Int))
def shK (ages : List Int) : List (Int × Tx) := ages.zipIdx.map fun p => (p.1, tx0 (p.2 + 1))
theorem shK_snoc (l : List Int) (a : Int) : shK (l ++ [a]) = shK l ++ [(a, tx0 (l.length + 1))] := by
  unfold shK
  rw [List.zipIdx_append, List.map_append]
  simp
theorem shK_len (l : List Int) : (shK l).length = l.length := by simp [shK]
theorem shK_tx {l : List Int} {p : Int × Tx} (h : p ∈ shK l) : p.1 ∈ l ∧ ∃ j, j < l.length ∧ p.2 = tx0 (j + 1) := by
  unfold shK at h
  obtain ⟨⟨a, j⟩, hq, rfl⟩ := List.mem_map.1 h
  have := List.mem_zipIdx_iff_getElem?.1 hq
  exact ⟨List.mem_of_getElem? this, j, (List.getElem?_eq_some_iff.1 this).1, rfl⟩
structure Shs (id : Int) (ages : List Int) (L : List Ow) : Prop where
  p : L.Perm ((shK ages).map (shO id))
theorem Shs.mem {id : Int} {ages : List Int} {L : List Ow} (h : Shs id ages L) {x : Ow} (hx : x ∈ L) : ∃ a j, a ∈ ages ∧ j < ages.length ∧ x = ⟨tx0 (j + 1), a, [(id, 1)], [], false⟩ := by
  obtain ⟨p, hp, rfl⟩ := List.mem_map.1 (h.p.mem_iff.1 hx)
  obtain ⟨h1, j, hj, h2⟩ := shK_tx hp
  exact ⟨p.1, j, h1, hj, by unfold shO; rw [h2]⟩
theorem Shs.len {id : Int} {ages : List Int} {L : List Ow} (h : Shs id ages L) : L.length = ages.length := by rw [h.p.length_eq, List.length_map, shK_len]
theorem cnt_shs {id : Int} : ∀ l : List (Int × Tx), cnt (l.map (shO id)) = l.length
  | [] => rfl
  | p :: l => by rw [List.map_cons, cnt_cons, cnt_shs l, List.length_cons]; show 1 + l.length = _; omega
theorem Shs.cnt {id : Int} {ages : List Int} {L : List Ow} (h : Shs id ages L) : Go.Proofs.Ytpjhdpfaogdboaa.cnt L = ages.length := by rw [cnt_perm h.p, cnt_shs, shK_len]
theorem findO_no {L : List Ow} {t : Tx} (h : ∀ x ∈ L, x.tx ≠ t) : findO L t = none := by
  unfold findO
  rw [List.find?_eq_none]
  intro x hx
  simpa using h x hx
theorem insO_ix (o : Ow) : ∀ L : List Ow, ∃ i : Nat, (insO o L)[i]? = some o ∧ ∀ (j : Nat) (x : Ow), j ≠ i → (insO o L)[j]? = some x → x ∈ L
  | [] => ⟨0, rfl, fun j x hj hx => by
    cases j with
    | zero => exact absurd rfl hj
    | succ j => simp [insO] at hx⟩
  | y :: l => by
    unfold insO
    split
    · refine ⟨0, rfl, fun j x hj hx => ?_⟩
      cases j with
      | zero => exact absurd rfl hj
      | succ j => exact List.mem_of_getElem? (by simpa using hx)
    · obtain ⟨i, h1, h2⟩ := insO_ix o l
      refine ⟨i + 1, by simpa using h1, fun j x hj hx => ?_⟩
      cases j with
      | zero => simp at hx; subst hx; exact List.mem_cons_self
      | succ j => exact List.mem_cons_of_mem _ (h2 j x (by omega) (by simpa using hx))
theorem set_perm {M : List Ow} {i : Nat} {o o' : Ow} {L : List Ow} (hi : M[i]? = some o) (hp : M.Perm (o :: L)) : (M.set i o').Perm (o' :: L) := by
  have h1 := perm_erase0 M i o hi
  have hl := (List.getElem?_eq_some_iff.1 hi).1
  have h2 : (o' :: (M.set i o').eraseIdx i).Perm (M.set i o') := perm_erase0 _ i o' (by simp [hl])
  rw [List.eraseIdx_set_eq] at h2
  exact h2.symm.trans (((List.perm_cons o).1 (h1.trans hp)).cons o')
theorem dropO_no {L : List Ow} {t : Tx} (h : ∀ x ∈ L, x.tx ≠ t) : dropO L t = L := by
  unfold dropO
  rw [List.filter_eq_self]
  intro x hx
  simpa using h x hx
theorem chk1 {id m : Int} (h1 : 1 ≤ id) (h2 : id ≤ 40) (hm : m = 1 ∨ m = 2) : chkW [(id, m)] = 0 := by
  have : badW (id, m) = false := by
    unfold badW
    simp only [Bool.or_eq_false_iff, Bool.and_eq_false_iff, decide_eq_false_iff_not]
    omega
  unfold chkW
  simp [this]
theorem sh_new {id : Int} {ages : List Int} {L : List Ow} (h : Shs id ages L) {n : Nat} (hn : ages.length < n) : ∀ x ∈ L, x.tx ≠ tx0 n := fun x hx e => by
  obtain ⟨a, j, _, hj, rfl⟩ := h.mem hx
  have : ((j + 1 : Nat) : Int) = (n : Int) := congrArg (fun t : Tx => t.2.2) e
  omega
theorem sh_st {id : Int} {ages : List Int} {L : List Ow} (h : Shs id ages L) (hl : ages.length ≤ 30) (h1 : 1 ≤ id) (h2 : id ≤ 40) {m : Int} (hm : m = 1 ∨ m = 2) {n : Nat} (hn : ages.length < n) (a : Int) :
    whoO L (tx0 n) a = emptyO (tx0 n) a ∧ stO L (tx0 n) a [(id, m)] = 0 := by
  have hw : whoO L (tx0 n) a = emptyO (tx0 n) a := by unfold whoO; rw [findO_no (sh_new h hn)]; rfl
  refine ⟨hw, ?_⟩
  unfold stO
  rw [if_neg (by rw [chk1 h1 h2 hm]; decide), hw, if_neg (by simp [emptyO]), if_neg (by rw [h.cnt]; simp; omega)]
/-- one more shares -/
theorem sh_step {id : Int} {ages : List Int} {L : List Ow} (h : Shs id ages L) (hl : ages.length < 30) (h1 : 1 ≤ id) (h2 : id ≤ 40) (a : Int) :
    stO L (tx0 (ages.length + 1)) a [(id, 1)] = 0 ∧ (askG L (tx0 (ages.length + 1)) a [(id, 1)]).length = 1 ∧ (askD L (tx0 (ages.length + 1)) a [(id, 1)]).length = 0 ∧ Shs id (ages ++ [a]) (askP L (tx0 (ages.length + 1)) a [(id, 1)]) := by
  obtain ⟨hw, hs⟩ := sh_st h (by omega) h1 h2 (.inl rfl) (Nat.lt_succ_self _) a
  have hne := sh_new h (Nat.lt_succ_self _)
  have hnh : ∀ x ∈ L, hurt (emptyO (tx0 (ages.length + 1)) a) [(id, 1)] x = false := fun x hx => by
    obtain ⟨b, j, _, hj, rfl⟩ := h.mem hx
    simp [hurt, clash]
  have hD : L.filter (hurt (emptyO (tx0 (ages.length + 1)) a) [(id, 1)]) = [] := by
    rw [List.filter_eq_nil_iff]
    intro x hx
    rw [hnh x hx]; decide
  have hK : (L.filter fun x => !hurt (emptyO (tx0 (ages.length + 1)) a) [(id, 1)] x) = L := by
    rw [List.filter_eq_self]
    intro x hx
    rw [hnh x hx]; rfl
  have hA : askL L (emptyO (tx0 (ages.length + 1)) a) [(id, 1)] = insO ⟨tx0 (ages.length + 1), a, [], [(id, 1)], false⟩ L := by
    unfold askL layO
    rw [hK]
    show insO _ (dropO L (tx0 (ages.length + 1))) = _
    rw [dropO_no hne]
    rfl
  obtain ⟨i, hi, hr⟩ := insO_ix ⟨tx0 (ages.length + 1), a, [], [(id, 1)], false⟩ L
  have hws : ∀ j x, j ≠ i → (insO ⟨tx0 (ages.length + 1), a, [], [(id, 1)], false⟩ L)[j]? = some x → x.ws = [] := fun j x hj hx => by
    obtain ⟨b, j', _, _, rfl⟩ := h.mem (hr j x hj hx)
    rfl
  have hgo : goS (insO ⟨tx0 (ages.length + 1), a, [], [(id, 1)], false⟩ L) i ⟨tx0 (ages.length + 1), a, [], [(id, 1)], false⟩ = true := by
    refine goS_iff.2 ⟨by simp, fun x hx hne2 => ?_, fun x hx => ?_⟩
    · rcases mem_insO.1 hx with rfl | hx
      · exact clash_nil' _
      · obtain ⟨b, j, _, _, rfl⟩ := h.mem hx
        simp [clash]
    · obtain ⟨j, hj⟩ := List.getElem?_of_mem hx
      rw [List.getElem?_take] at hj
      split at hj
      · rw [hws j x (by omega) hj]
        exact clash_nil' _
      · cases hj
  have hset := settle_one hi hws true hgo
  rw [if_pos rfl] at hset
  unfold askG askD askP
  rw [hs, if_pos rfl, if_pos rfl, if_pos rfl, hw, hA, hset, hD]
  refine ⟨rfl, rfl, rfl, ⟨?_⟩⟩
  rw [shK_snoc, List.map_append]
  refine (set_perm hi (insO_perm _ _)).trans ?_
  have e : grant ⟨tx0 (ages.length + 1), a, [], [(id, 1)], false⟩ = shO id (a, tx0 (ages.length + 1)) := rfl
  rw [e]
  exact (h.p.cons _).trans (List.perm_append_comm (l₁ := [shO id (a, tx0 (ages.length + 1))]))
def olders (ages : List Int) (al : Int) : Nat := (ages.filter fun a => decide (a ≤ al)).length
theorem olders_snoc (l : List Int) (a al : Int) : olders (l ++ [a]) al = olders l al + if a ≤ al then 1 else 0 := by
  unfold olders
  rw [List.filter_append, List.length_append]
  by_cases h : a ≤ al
  · simp [h]
  · simp [h]
theorem olders_le (l : List Int) (al : Int) : olders l al ≤ l.length := List.length_filter_le _ _
theorem shK_olders (al : Int) (l : List Int) : ((shK l).filter fun p => decide (p.1 ≤ al)).length = olders l al := by
  unfold shK olders
  rw [List.filter_map, List.length_map]
  have h : ∀ (l : List Int) (n : Nat), ((l.zipIdx n).filter ((fun p : Int × Tx => decide (p.1 ≤ al)) ∘ fun p => (p.1, tx0 (p.2 + 1)))).length = (l.filter fun a => decide (a ≤ al)).length := by
    intro l
    induction l with
    | nil => exact fun _ => rfl
    | cons a l ih =>
      intro n
      rw [List.zipIdx_cons, List.filter_cons, List.filter_cons]
      by_cases h : a ≤ al
      · simp only [Function.comp, h, decide_true, if_true, List.length_cons]
        exact congrArg (· + 1) (ih (n + 1))
      · simp only [Function.comp, h, decide_false, Bool.false_eq_true, if_false]
        exact ih (n + 1)
  exact h l 0
/-- one wants it alone -/
theorem sh_alone {id : Int} {ages : List Int} {L : List Ow} (h : Shs id ages L) (hl : ages.length ≤ 30) (h1 : 1 ≤ id) (h2 : id ≤ 40) (al : Int) :
    stO L (tx0 1000) al [(id, 2)] = 0 ∧ (askD L (tx0 1000) al [(id, 2)]).length = ages.length - olders ages al ∧ (askG L (tx0 1000) al [(id, 2)]).length = (if olders ages al = 0 then 1 else 0) ∧ cnt (askP L (tx0 1000) al [(id, 2)]) = max (olders ages al) 1 := by
  obtain ⟨hw, hs⟩ := sh_st h hl h1 h2 (.inr rfl) (n := 1000) (by omega) al
  have hne := sh_new h (n := 1000) (by omega)
  have hnh : ∀ x ∈ L, hurt (emptyO (tx0 1000) al) [(id, 2)] x = !decide (x.age ≤ al) := fun x hx => by
    obtain ⟨b, j, _, hj, rfl⟩ := h.mem hx
    have e : clash [(id, 1)] [(id, 2)] = true := by simp [clash]
    rw [Bool.eq_iff_iff, hurt_iff]
    simp only [Bool.not_eq_true', decide_eq_false_iff_not, e]
    constructor
    · rintro ⟨_, _, h3, _⟩
      simp only [ltO, Ow.key, emptyO, tx0] at h3
      omega
    · intro h3
      refine ⟨fun e2 => hne _ hx e2, by trivial, ?_, by trivial⟩
      simp only [ltO, Ow.key, emptyO, tx0]
      omega
  have hKp : (L.filter fun x => !hurt (emptyO (tx0 1000) al) [(id, 2)] x).Perm (((shK ages).filter fun p => decide (p.1 ≤ al)).map (shO id)) := by
    have e : (L.filter fun x => !hurt (emptyO (tx0 1000) al) [(id, 2)] x) = L.filter fun x => decide (x.age ≤ al) := List.filter_congr fun x hx => by rw [hnh x hx, Bool.not_not]
    rw [e]
    have := h.p.filter fun x => decide (x.age ≤ al)
    rw [List.filter_map] at this
    exact this
  have hDl : (L.filter (hurt (emptyO (tx0 1000) al) [(id, 2)])).length + (L.filter fun x => !hurt (emptyO (tx0 1000) al) [(id, 2)] x).length = L.length := by
    have := (List.filter_append_perm (hurt (emptyO (tx0 1000) al) [(id, 2)]) L).length_eq
    rwa [List.length_append] at this
  have hKl : (L.filter fun x => !hurt (emptyO (tx0 1000) al) [(id, 2)] x).length = olders ages al := by rw [hKp.length_eq, List.length_map, shK_olders]
  have hKm : ∀ x ∈ (L.filter fun x => !hurt (emptyO (tx0 1000) al) [(id, 2)] x), x.lk = [(id, 1)] ∧ x.ws = [] ∧ x.tx ≠ tx0 1000 := fun x hx => by
    have hx1 := (List.mem_filter.1 hx).1
    have hx2 := hne x hx1
    obtain ⟨b, j, _, _, rfl⟩ := h.mem hx1
    exact ⟨rfl, rfl, hx2⟩
  obtain ⟨K, hK⟩ : ∃ K, (L.filter fun x => !hurt (emptyO (tx0 1000) al) [(id, 2)] x) = K := ⟨_, rfl⟩
  have hcK : cnt K = olders ages al := by rw [← hK, cnt_perm hKp, cnt_shs, shK_olders]
  have hA : askL L (emptyO (tx0 1000) al) [(id, 2)] = insO ⟨tx0 1000, al, [], [(id, 2)], false⟩ K := by
    unfold askL layO
    rw [hK]
    rw [hK] at hKm
    show insO _ (dropO K (tx0 1000)) = _
    rw [dropO_no (fun x hx => (hKm x hx).2.2)]
    rfl
  rw [hK] at hKl hDl hKm
  obtain ⟨i, hi, hr⟩ := insO_ix ⟨tx0 1000, al, [], [(id, 2)], false⟩ K
  have hws : ∀ j x, j ≠ i → (insO ⟨tx0 1000, al, [], [(id, 2)], false⟩ K)[j]? = some x → x.ws = [] := fun j x hj hx => (hKm x (hr j x hj hx)).2.1
  have hgo : goS (insO ⟨tx0 1000, al, [], [(id, 2)], false⟩ K) i ⟨tx0 1000, al, [], [(id, 2)], false⟩ = decide (olders ages al = 0) := by
    rw [Bool.eq_iff_iff, goS_iff, decide_eq_true_eq, ← hKl]
    constructor
    · rintro ⟨_, h3, _⟩
      cases K with
      | nil => rfl
      | cons y K =>
        have h4 := hKm y List.mem_cons_self
        have h5 := h3 y (mem_insO.2 (.inr List.mem_cons_self)) h4.2.2
        rw [h4.1] at h5
        simp [clash] at h5
    · intro h3
      have hnil := List.eq_nil_of_length_eq_zero h3
      subst hnil
      refine ⟨by simp, fun x hx hne2 => ?_, fun x hx => ?_⟩
      · rcases mem_insO.1 hx with rfl | hx
        · exact clash_nil' _
        · cases hx
      · obtain ⟨j, hj⟩ := List.getElem?_of_mem hx
        rw [List.getElem?_take] at hj
        split at hj
        · rw [hws j x (by omega) hj]
          exact clash_nil' _
        · cases hj
  have hset := settle_one hi hws _ hgo
  unfold askG askD askP
  rw [hs, if_pos rfl, if_pos rfl, if_pos rfl, hw, hA, hset]
  refine ⟨rfl, ?_, ?_, ?_⟩
  · rw [List.length_map]
    have := h.len
    omega
  · by_cases h0 : olders ages al = 0
    · simp [h0]
    · simp [h0]
  · by_cases h0 : olders ages al = 0
    · simp only [h0, decide_true, if_true]
      rw [cnt_perm (set_perm hi (insO_perm _ _)), cnt_cons, hcK, h0]
      rfl
    · simp only [h0, decide_false, Bool.false_eq_true, if_false]
      rw [cnt_perm (insO_perm _ _), cnt_cons, hcK]
      show 0 + olders ages al = _
      omega
end Go.Proofs.Ytpjhdpfaogdboaa
