/- Plain: the moments stay in form. -/
import Derived.Test.YtpjhdpfaogdboaaNp
namespace Go.Proofs.Ytpjhdpfaogdboaa
set_option linter.unusedSimpArgs false
set_option linter.unusedVariables false
open Go.RowKit
theorem insO_perm (o : Ow) : ∀ L : List Ow, (insO o L).Perm (o :: L)
  | [] => List.Perm.refl _
  | x :: l => by
    unfold insO
    split
    · exact List.Perm.refl _
    · exact ((insO_perm o l).cons x).trans (List.Perm.swap _ _ _)
theorem mem_insO {o x : Ow} {L : List Ow} : x ∈ insO o L ↔ x = o ∨ x ∈ L := by rw [(insO_perm o L).mem_iff, List.mem_cons]
theorem mem_dropO {L : List Ow} {t : Tx} {x : Ow} : x ∈ dropO L t ↔ x ∈ L ∧ x.tx ≠ t := by
  unfold dropO
  rw [List.mem_filter, decide_eq_true_eq]
theorem insO_srt {o : Ow} : ∀ {L : List Ow}, L.Pairwise (fun x y => ltO x.key y.key) → (∀ x ∈ L, x.tx ≠ o.tx) → (insO o L).Pairwise fun x y => ltO x.key y.key
  | [], _, _ => by simp [insO]
  | x :: l, h, hn => by
    rw [List.pairwise_cons] at h
    unfold insO
    by_cases hlt : ltO o.key x.key
    · rw [if_pos hlt]
      refine List.pairwise_cons.2 ⟨fun y hy => ?_, List.pairwise_cons.2 h⟩
      rcases List.mem_cons.1 hy with rfl | hy
      · exact hlt
      · exact ltO_trans hlt (h.1 y hy)
    · rw [if_neg hlt]
      refine List.pairwise_cons.2 ⟨fun y hy => ?_, insO_srt h.2 (fun z hz => hn z (List.mem_cons_of_mem _ hz))⟩
      rcases mem_insO.1 hy with rfl | hy
      · by_cases h2 : ltO x.key y.key
        · exact h2
        · have := congrArg Prod.snd (ltO_total hlt h2)
          exact absurd this.symm (hn x List.mem_cons_self)
      · exact h.1 y hy
theorem nodup_insO {o : Ow} {L : List Ow} (h : (L.map (·.tx)).Nodup) (hn : ∀ x ∈ L, x.tx ≠ o.tx) : ((insO o L).map (·.tx)).Nodup := by
  rw [((insO_perm o L).map (·.tx)).nodup_iff, List.map_cons, List.nodup_cons]
  refine ⟨fun hm => ?_, h⟩
  obtain ⟨x, hx, e⟩ := List.mem_map.1 hm
  exact hn x hx e
/-- fewer -/
theorem Inv0.filter {L : List Ow} (h : Inv0 L) (p : Ow → Bool) : Inv0 (L.filter p) where
  srt := h.srt.filter p
  nod := (List.filter_sublist (l := L) (p := p)).map (·.tx) |>.nodup h.nod
  ok := fun o ho => h.ok o (List.mem_filter.1 ho).1
  apart := fun x hx y hy => h.apart x (List.mem_filter.1 hx).1 y (List.mem_filter.1 hy).1
  fst := fun o ho => h.fst o (List.mem_filter.1 ho).1
  wait := fun a ha y hy => h.wait a (List.mem_filter.1 ha).1 y (List.mem_filter.1 hy).1
theorem whoO_mem {L : List Ow} {t : Tx} {age : Int} : (whoO L t age ∈ L ∧ findO L t = some (whoO L t age)) ∨ (findO L t = none ∧ whoO L t age = emptyO t age) := by
  unfold whoO
  cases h : findO L t with
  | none => exact .inr ⟨rfl, rfl⟩
  | some o => exact .inl ⟨(findO_mem h).1, rfl⟩
theorem whoO_tx {L : List Ow} {t : Tx} {age : Int} : (whoO L t age).tx = t := by
  rcases whoO_mem (L := L) (t := t) (age := age) with ⟨h1, h2⟩ | ⟨h1, h2⟩
  · exact (findO_mem h2).2
  · rw [h2]; rfl
structure StOk (L : List Ow) (t : Tx) (age : Int) (ws : List Wt) : Prop where
  c : chkW ws = 0
  w : (whoO L t age).ws = []
  f : (whoO L t age).fast = false
  a : (whoO L t age).age = age
  n : cnt L + ws.length ≤ 256
theorem chkW_cases (ws : List Wt) : chkW ws = 0 ∨ chkW ws = 1 ∨ chkW ws = 2 ∨ chkW ws = 3 := by
  unfold chkW
  split
  · omega
  · split
    · omega
    · split <;> omega
theorem stO_ok {L : List Ow} {t : Tx} {age : Int} {ws : List Wt} (h : stO L t age ws = 0) : StOk L t age ws := by
  unfold stO at h
  by_cases h1 : chkW ws ≠ 0
  · rw [if_pos h1] at h; exact absurd h h1
  · rw [if_neg h1] at h
    by_cases h2 : 0 < (whoO L t age).ws.length ∨ (whoO L t age).fast = true ∨ (whoO L t age).age ≠ age
    · rw [if_pos h2] at h; omega
    · rw [if_neg h2] at h
      by_cases h3 : 256 < cnt L + ws.length
      · rw [if_pos h3] at h; omega
      · simp only [not_or] at h2
        refine ⟨by omega, List.eq_nil_of_length_eq_zero (by omega), by simpa using h2.2.1, by simpa using h2.2.2, by omega⟩
theorem hurt_iff {o x : Ow} {ws : List Wt} : hurt o ws x = true ↔ x.tx ≠ o.tx ∧ x.fast = false ∧ ltO o.key x.key ∧ clash x.lk ws = true := by
  unfold hurt
  simp only [Bool.and_eq_true, decide_eq_true_eq, Bool.not_eq_true']
theorem not_hurt {o x : Ow} {ws : List Wt} (h : (!hurt o ws x) = true) (h1 : x.tx ≠ o.tx) (h2 : x.fast = false) (h3 : ltO o.key x.key) : clash x.lk ws = false := by
  rw [← Bool.not_eq_true]
  intro hc
  rw [hurt_iff.2 ⟨h1, h2, h3, hc⟩] at h
  cases h
theorem mem_askL {L : List Ow} {o x : Ow} {ws : List Wt} : x ∈ askL L o ws ↔ x = { o with ws := ws } ∨ (x ∈ L ∧ (!hurt o ws x) = true ∧ x.tx ≠ o.tx) := by
  unfold askL layO
  rw [mem_insO, mem_dropO, List.mem_filter, and_assoc]
theorem askL_inv {L : List Ow} (h : Inv0 L) {t : Tx} {age : Int} {ws : List Wt} (hs : StOk L t age ws) : Inv0 (askL L (whoO L t age) ws) := by
  obtain ⟨c1, c2, c3, c4⟩ := chkW_ok hs.c
  have hF := h.filter fun x => !hurt (whoO L t age) ws x
  have hD := hF.filter fun x => decide (x.tx ≠ (whoO L t age).tx)
  have hn : ∀ x ∈ dropO (L.filter fun x => !hurt (whoO L t age) ws x) (whoO L t age).tx, x.tx ≠ (whoO L t age).tx := fun x hx => (mem_dropO.1 hx).2
  obtain ⟨lk, e0, e1, e2, e3⟩ : ∃ lk, (whoO L t age).lk = lk ∧ Ris lk ∧ Fm lk ∧ ∀ y ∈ L, y.tx ≠ t → clash lk y.lk = false := by
    rcases whoO_mem (L := L) (t := t) (age := age) with ⟨h1, h2⟩ | ⟨h1, h2⟩
    · refine ⟨_, rfl, (h.ok _ h1).r, (h.ok _ h1).f, fun y hy hne => h.apart _ h1 y hy (by rw [whoO_tx]; exact Ne.symm hne)⟩
    · rw [h2]
      exact ⟨[], rfl, List.Pairwise.nil, (fun x hx => nomatch hx), fun y _ _ => clash_nil' _⟩
  have ew : ∀ a ∈ L, ltO a.key (whoO L t age).key → clash lk a.ws = false := by
    rcases whoO_mem (L := L) (t := t) (age := age) with ⟨h1, h2⟩ | ⟨h1, h2⟩
    · exact fun a ha hlt => by rw [← e0]; exact h.wait a ha _ h1 hlt hs.f
    · intro a ha _
      rw [← e0, h2]
      exact clash_nil' _
  refine ⟨insO_srt hD.srt hn, nodup_insO hD.nod hn, fun x hx => ?_, fun x hx y hy hne => ?_, fun x hx hf => ?_, fun a ha y hy hlt hf => ?_⟩
  · rcases mem_askL.1 hx with rfl | ⟨hx, _⟩
    · exact ⟨by rw [e0]; exact e1, by rw [e0]; exact e2, c1, c4⟩
    · exact h.ok x hx
  · rcases mem_askL.1 hx with rfl | ⟨hx, _, hx2⟩
    · rcases mem_askL.1 hy with rfl | ⟨hy, _, hy2⟩
      · exact absurd rfl hne
      · show clash (whoO L t age).lk y.lk = false
        rw [e0]; exact e3 y hy (by rw [whoO_tx] at hy2; exact hy2)
    · rcases mem_askL.1 hy with rfl | ⟨hy, _, hy2⟩
      · show clash x.lk (whoO L t age).lk = false
        rw [e0, clash_comm]; exact e3 x hx (by rw [whoO_tx] at hx2; exact hx2)
      · exact h.apart x hx y hy hne
  · rcases mem_askL.1 hx with rfl | ⟨hx, _, hx2⟩
    · have := hs.f
      simp only at hf
      rw [this] at hf
      cases hf
    · exact h.fst x hx hf
  · rcases mem_askL.1 ha with rfl | ⟨ha, _, ha2⟩
    · rcases mem_askL.1 hy with rfl | ⟨hy, hy1, hy2⟩
      · exact absurd hlt (ltO_irrefl _)
      · exact not_hurt hy1 hy2 hf hlt
    · rcases mem_askL.1 hy with rfl | ⟨hy, hy1, hy2⟩
      · show clash (whoO L t age).lk a.ws = false
        rw [e0]
        exact ew a ha hlt
      · exact h.wait a ha y hy hlt hf
theorem askP_inv {L : List Ow} (h : Inv L) (t : Tx) (age : Int) (ws : List Wt) : Inv (askP L t age ws) := by
  unfold askP
  split
  · rename_i hs
    exact settled_inv (askL_inv h.toInv0 (stO_ok hs))
  · exact h
theorem relP_inv {L : List Ow} (h : Inv L) (t : Tx) : Inv (relP L t) := by
  unfold relP
  split
  · exact settled_inv (h.toInv0.filter _)
  · exact h
theorem fastO_key (t : Tx) (o : Ow) : (fastO t o).key = o.key := by unfold fastO; split <;> rfl
theorem fastO_lk (t : Tx) (o : Ow) : (fastO t o).lk = o.lk := by unfold fastO; split <;> rfl
theorem fastO_ws (t : Tx) (o : Ow) : (fastO t o).ws = o.ws := by unfold fastO; split <;> rfl
theorem fastO_tx (t : Tx) (o : Ow) : (fastO t o).tx = o.tx := by unfold fastO; split <;> rfl
theorem holdP_inv {L : List Ow} (h : Inv L) (t : Tx) : Inv (holdP L t) := by
  unfold holdP
  split
  · rename_i he
    have hw : ∀ x ∈ L, x.tx = t → x.ws = [] := fun x hx e => by
      have hf := findO_of h.nod hx
      rw [e] at hf
      unfold holdE at he
      rw [hf] at he
      simp only at he
      split at he
      · cases he
      · exact List.eq_nil_of_length_eq_zero (by omega)
    refine ⟨⟨?_, ?_, ?_, ?_, ?_, ?_⟩, ?_⟩
    · rw [List.pairwise_map]; simp only [fastO_key]; exact h.srt
    · rw [List.map_map, show (fun o : Ow => o.tx) ∘ fastO t = fun o => o.tx from funext fun o => fastO_tx t o]; exact h.nod
    · intro o ho
      obtain ⟨x, hx, rfl⟩ := List.mem_map.1 ho
      have := h.ok x hx
      exact ⟨by rw [fastO_lk]; exact this.r, by rw [fastO_lk]; exact this.f, by rw [fastO_ws]; exact this.g, by rw [fastO_ws]; exact this.n⟩
    · intro x hx y hy hne
      obtain ⟨x, hx', rfl⟩ := List.mem_map.1 hx
      obtain ⟨y, hy', rfl⟩ := List.mem_map.1 hy
      rw [fastO_tx, fastO_tx] at hne
      rw [fastO_lk, fastO_lk]
      exact h.apart x hx' y hy' hne
    · intro o ho hf
      obtain ⟨x, hx, rfl⟩ := List.mem_map.1 ho
      rw [fastO_ws]
      by_cases e : x.tx = t
      · exact hw x hx e
      · unfold fastO at hf
        rw [if_neg e] at hf
        exact h.fst x hx hf
    · intro a ha y hy hlt hf
      obtain ⟨a, ha', rfl⟩ := List.mem_map.1 ha
      obtain ⟨y, hy', rfl⟩ := List.mem_map.1 hy
      rw [fastO_key, fastO_key] at hlt
      rw [fastO_lk, fastO_ws]
      have hf2 : y.fast = false := by
        unfold fastO at hf
        split at hf
        · cases hf
        · exact hf
      exact h.wait a ha' y hy' hlt hf2
    · intro i o hi ho
      rw [List.length_map] at hi
      rw [List.getElem?_map] at ho
      obtain ⟨x, hx, rfl⟩ := Option.map_eq_some_iff.1 ho
      have h1 := h.done i x hi hx
      unfold goS at h1 ⊢
      rw [← List.map_take, List.any_map, List.any_map, fastO_ws]
      simp only [Function.comp_def, fastO_lk, fastO_ws, fastO_tx]
      exact h1
  · exact h
theorem inv_nil : Inv [] := ⟨⟨List.Pairwise.nil, List.nodup_nil, (fun o h => nomatch h), (fun x h => nomatch h), (fun o h => nomatch h), (fun x h => nomatch h)⟩, fun i o h => absurd h (Nat.not_lt_zero _)⟩
/-! ### lengths -/
theorem settled_len (L : List Ow) : (settled L).1.length = L.length := setK_len L _
theorem settled_txs (L : List Ow) : (settled L).1.map (·.tx) = L.map (·.tx) := by
  rw [txs_key, txs_key]
  exact congrArg (List.map (·.2)) (setK_txs L _)
theorem askL_len (L : List Ow) (o : Ow) (ws : List Wt) : (askL L o ws).length ≤ L.length + 1 := by
  unfold askL layO dropO
  rw [(insO_perm _ _).length_eq, List.length_cons]
  have h1 := List.length_filter_le (fun x : Ow => !hurt o ws x) L
  have h2 := List.length_filter_le (fun x : Ow => decide (x.tx ≠ o.tx)) (L.filter fun x => !hurt o ws x)
  have h3 : ({ o with ws := ws } : Ow).tx = o.tx := rfl
  rw [h3]
  omega
theorem askP_len (L : List Ow) (t : Tx) (age : Int) (ws : List Wt) : (askP L t age ws).length ≤ L.length + 1 := by
  unfold askP
  split
  · rw [settled_len]; exact askL_len _ _ _
  · omega
theorem relP_len (L : List Ow) (t : Tx) : (relP L t).length ≤ L.length := by
  unfold relP
  split
  · rw [settled_len]; exact List.length_filter_le _ _
  · omega
theorem holdP_len (L : List Ow) (t : Tx) : (holdP L t).length = L.length := by
  unfold holdP
  split
  · simp
  · rfl
theorem ris_len {l : List Wt} (hr : Ris l) (hf : Fm l) : l.length ≤ 40 := by
  have h1 : ∀ (l : List Wt) (b : Int), Ris l → (∀ x ∈ l, b < x.1 ∧ x.1 ≤ 40) → (b : Int) ≤ 40 → (l.length : Int) ≤ 40 - b := by
    intro l
    induction l with
    | nil => intro b _ _ hb; simp; omega
    | cons x l ih =>
      intro b hr hx hb
      have hr2 := List.pairwise_cons.1 hr
      have := ih x.1 hr2.2 (fun y hy => ⟨hr2.1 y hy, (hx y (List.mem_cons_of_mem _ hy)).2⟩) (hx x List.mem_cons_self).2
      have := (hx x List.mem_cons_self).1
      simp only [List.length_cons]
      omega
  have := h1 l 0 hr (fun x hx => by have := hf x hx; omega) (by omega)
  omega
theorem cnt_bound {L : List Ow} (h : ∀ o ∈ L, OkO o) : cnt L ≤ 40 * L.length := by
  induction L with
  | nil => simp [cnt]
  | cons o L ih =>
    rw [cnt_cons, List.length_cons]
    have h1 := ris_len (h o List.mem_cons_self).r (h o List.mem_cons_self).f
    have h2 := ih fun x hx => h x (List.mem_cons_of_mem _ hx)
    omega
end Go.Proofs.Ytpjhdpfaogdboaa
