/- The table and what is kept; each call once, whatever it answers. -/
import Derived.Test.YtpjhdpfaogdboaaTn
namespace Go.Proofs.Ytpjhdpfaogdboaa
set_option linter.unusedSimpArgs false
set_option linter.unusedVariables false
open Go.RowKit
/-- the table; P: blocks that it never writes -/
def TabX (P : Nat → Prop) (w : World) (tb : Nat) (L : List Ow) : Prop := ∃ own B mb A, Tab own B w tb mb L A ∧ ∀ i, P i → own i = none ∧ i ≠ tb ∧ i ≠ mb ∧ i < w.heap.size
/-- an answer's list of transactions -/
def Txs (w0 w : World) (v : Value) (S : List Tx) : Prop := ∃ a c, v = .slice a S.length c ∧ Own w 32 3 (.slice a S.length c) S.length (S.flatMap encT) ∧ ∀ b, (Value.slice a S.length c).ownBlock = some b → w0.heap.size ≤ b
def Wts (w0 w : World) (v : Value) (l : List Wt) : Prop := ∃ a c, v = .slice a l.length c ∧ Own w 36 2 (.slice a l.length c) l.length (wcells l) ∧ ∀ b, (Value.slice a l.length c).ownBlock = some b → w0.heap.size ≤ b
theorem Txs.nil (w0 w : World) : Txs w0 w (.slice none 0 0) [] := ⟨none, 0, rfl, Own.nil _ _ _, fun b h => by simp [Value.ownBlock] at h⟩
theorem Wts.nil (w0 w : World) : Wts w0 w (.slice none 0 0) [] := ⟨none, 0, rfl, Own.nil _ _ _, fun b h => by simp [Value.ownBlock] at h⟩
section
variable {P : Nat → Prop} {w w' : World} {tb : Nat} {L : List Ow}
theorem TabX.mono {Q : Nat → Prop} (h : TabX P w tb L) (hq : ∀ i, Q i → P i) : TabX Q w tb L := by
  obtain ⟨own, B, mb, A, h1, h2⟩ := h
  exact ⟨own, B, mb, A, h1, fun i hi => h2 i (hq i hi)⟩
theorem TabX.kept {F : Nat → Prop} (h : TabX P w tb L) (k : Kept F w w') (hF : ∀ i, i < w.heap.size → F i → P i) : TabX P w' tb L := by
  obtain ⟨own, B, mb, A, h1, h2⟩ := h
  exact ⟨own, B, mb, A, h1.kept k (fun i hi hf => let h3 := h2 i (hF i hi hf); ⟨h3.1, h3.2.1, h3.2.2.1⟩), fun i hi => let h3 := h2 i hi; ⟨h3.1, h3.2.1, h3.2.2.1, Nat.lt_of_lt_of_le h3.2.2.2 k.size⟩⟩
theorem TabX.same (h : TabX P w tb L) (k : Kept (fun _ => False) w w') : TabX P w' tb L := h.kept k (fun _ _ h => h.elim)
theorem TabX.fresh {Q F : Nat → Prop} (h : TabX P w tb L) (k : Kept F w w') (hF : ∀ i, i < w.heap.size → F i → P i) (hQ : ∀ i, Q i → P i ∨ (w.heap.size ≤ i ∧ i < w'.heap.size)) : TabX Q w' tb L := by
  have hk := h.kept k hF
  obtain ⟨own, B, mb, A, h1, h2⟩ := h
  refine ⟨own, B, mb, A, h1.kept k (fun i hi hf => let h3 := h2 i (hF i hi hf); ⟨h3.1, h3.2.1, h3.2.2.1⟩), fun i hi => ?_⟩
  rcases hQ i hi with h3 | ⟨h3, h4⟩
  · have := h2 i h3
    exact ⟨this.1, this.2.1, this.2.2.1, Nat.lt_of_lt_of_le this.2.2.2 k.size⟩
  · have h5 := row_lt h1.obj
    have h6 := h1.mlt
    exact ⟨h1.new i h3, by omega, by omega, h4⟩
theorem TabX.nodup (h : TabX P w tb L) : (L.map (·.tx)).Nodup := by
  obtain ⟨own, B, mb, A, h1, h2⟩ := h
  exact h1.nodup
theorem new_x (w : World) : Calls Try.prog 10 #[] w fun e w' => ∃ tb, e = .returned (.pointer (some ⟨tb, 0, none⟩)) ∧ TabX (fun i => i < w.heap.size) w' tb [] ∧ w.heap.size ≤ tb ∧ Kept (fun _ => False) w w' :=
  (new_any w).mono fun e w' ⟨he, ht, hk⟩ => ⟨_, he, ⟨_, _, _, _, ht, fun i hi => ⟨rfl, by omega, by omega, Nat.lt_of_lt_of_le hi hk.size⟩⟩, by omega, hk⟩
theorem ask_x (h : TabX P w tb L) (t : Tx) (age : Int) {a : Option Addr} {c : Nat} {ws : List Wt} (hl : Lies (fun i => ¬ P i) w 2 (.slice a ws.length c) ws.length (wcells ws)) (hc : cnt L ≤ 1000000) (hLL : L.length ≤ 900000) :
    Calls Try.prog 11 #[.pointer (some ⟨tb, 0, none⟩), txv t, .int .u64 age, .slice a ws.length c] w fun e w' => ∃ v1 v2, e = .returned (.tuple #[v1, v2, .int .i64 (stO L t age ws)]) ∧ Txs w w' v1 (askG L t age ws) ∧ Txs w w' v2 (askD L t age ws) ∧ TabX (fun i => P i ∨ v1.ownBlock = some i ∨ v2.ownBlock = some i) w' tb (askP L t age ws) ∧ Kept (fun i => ¬ P i) w w' := by
  obtain ⟨own, B, mb, A, h1, h2⟩ := h
  have hx : TabX P w tb L := ⟨own, B, mb, A, h1, h2⟩
  obtain ⟨t1, t2, t3⟩ := t
  have hno : ∀ z : Int, stO L (t1, t2, t3) age ws = z → z ≠ 0 → ∀ (e : Ending) (w' : World), e = .returned (.tuple #[.slice none 0 0, .slice none 0 0, .int .i64 z]) ∧ Kept (fun _ => False) w w' →
      ∃ v1 v2, e = .returned (.tuple #[v1, v2, .int .i64 (stO L (t1, t2, t3) age ws)]) ∧ Txs w w' v1 (askG L (t1, t2, t3) age ws) ∧ Txs w w' v2 (askD L (t1, t2, t3) age ws) ∧ TabX (fun i => P i ∨ v1.ownBlock = some i ∨ v2.ownBlock = some i) w' tb (askP L (t1, t2, t3) age ws) ∧ Kept (fun i => ¬ P i) w w' := fun z hz hz0 e w' ⟨he, hk⟩ => by
    unfold askG askD askP
    rw [hz, if_neg hz0, if_neg hz0, if_neg hz0]
    refine ⟨.slice none 0 0, .slice none 0 0, he, Txs.nil _ _, Txs.nil _ _, (hx.same hk).mono fun i hi => ?_, hk.mono (fun _ _ h => h.elim)⟩
    rcases hi with hi | hi | hi
    · exact hi
    · simp [Value.ownBlock] at hi
    · simp [Value.ownBlock] at hi
  have hyes : ∀ {o : Ow}, whoO L (t1, t2, t3) age = o → stO L (t1, t2, t3) age ws = 0 → ∀ (e : Ending) (w' : World), (∃ own' A' ga gc da dc, e = .returned (.tuple #[.slice ga (settled (askL L o ws)).2.length gc, .slice da ((L.filter (hurt o ws)).map (·.tx)).length dc, .int .i64 0]) ∧ Tab own' B w' tb mb (settled (askL L o ws)).1 A'
      ∧ Own w' 32 3 (.slice ga (settled (askL L o ws)).2.length gc) (settled (askL L o ws)).2.length ((settled (askL L o ws)).2.flatMap encT) ∧ (∀ b, (Value.slice ga (settled (askL L o ws)).2.length gc).ownBlock = some b → w.heap.size ≤ b ∧ own' b = none)
      ∧ Own w' 32 3 (.slice da ((L.filter (hurt o ws)).map (·.tx)).length dc) ((L.filter (hurt o ws)).map (·.tx)).length (((L.filter (hurt o ws)).map (·.tx)).flatMap encT) ∧ (∀ b, (Value.slice da ((L.filter (hurt o ws)).map (·.tx)).length dc).ownBlock = some b → w.heap.size ≤ b ∧ own' b = none)
      ∧ Kept (fun i => i = mb ∨ ∃ t, own i = some t) w w' ∧ ∀ i, i < w.heap.size → own' i = own i) →
      ∃ v1 v2, e = .returned (.tuple #[v1, v2, .int .i64 (stO L (t1, t2, t3) age ws)]) ∧ Txs w w' v1 (askG L (t1, t2, t3) age ws) ∧ Txs w w' v2 (askD L (t1, t2, t3) age ws) ∧ TabX (fun i => P i ∨ v1.ownBlock = some i ∨ v2.ownBlock = some i) w' tb (askP L (t1, t2, t3) age ws) ∧ Kept (fun i => ¬ P i) w w' := fun {o} ho hs e w' ⟨own', A', ga, gc, da, dc, he, ht, hg, hgn, hd, hdn, hk, hoo⟩ => by
    unfold askG askD askP
    rw [hs, if_pos rfl, if_pos rfl, if_pos rfl, ho]
    refine ⟨_, _, he, ⟨ga, gc, rfl, hg, fun b hb => (hgn b hb).1⟩, ⟨da, dc, rfl, hd, fun b hb => (hdn b hb).1⟩, ⟨own', B, mb, A', ht, fun i hi => ?_⟩, hk.mono fun i _ hi hp => ?_⟩
    · have h5 := row_lt h1.obj
      have h6 := h1.mlt
      rcases hi with hi | hi | hi
      · have h3 := h2 i hi
        exact ⟨(hoo i h3.2.2.2).trans h3.1, h3.2.1, h3.2.2.1, Nat.lt_of_lt_of_le h3.2.2.2 hk.size⟩
      · have := hgn i hi
        exact ⟨this.2, by omega, by omega, hg.lt hi⟩
      · have := hdn i hi
        exact ⟨this.2, by omega, by omega, hd.lt hi⟩
    · have h3 := h2 i hp
      rcases hi with rfl | ⟨t, hi⟩
      · exact h3.2.2.1 rfl
      · rw [h3.1] at hi; cases hi
  have hlm : Lies (fun i => i = mb) w 2 (.slice a ws.length c) ws.length (wcells ws) := hl.mono fun g _ e hp => (h2 g hp).2.2.1 e
  by_cases hz : chkW ws ≠ 0
  · have hst : stO L (t1, t2, t3) age ws = chkW ws := by unfold stO; rw [if_pos hz]
    exact (ask_err hl hz).mono (hno _ hst hz)
  · have hz0 : chkW ws = 0 := by omega
    cases hf : findO L (t1, t2, t3) with
    | none =>
      have hw : whoO L (t1, t2, t3) age = emptyO (t1, t2, t3) age := by unfold whoO; rw [hf]; rfl
      have h9 : ¬ (0 < (whoO L (t1, t2, t3) age).ws.length ∨ (whoO L (t1, t2, t3) age).fast = true ∨ (whoO L (t1, t2, t3) age).age ≠ age) := by rw [hw]; simp [emptyO]
      by_cases h10 : 256 < cnt L + ws.length
      · exact (ask_full0 h1 hl hz0 hf hc h10).mono (hno 10 (by unfold stO; rw [if_neg hz, if_neg h9, if_pos h10]) (by decide))
      · exact (ask_new h1 hlm hz0 hf rfl (by omega) hLL).mono (hyes hw (by unfold stO; rw [if_neg hz, if_neg h9, if_neg h10]))
    | some o =>
      have hw : whoO L (t1, t2, t3) age = o := by unfold whoO; rw [hf]; rfl
      by_cases h9 : 0 < o.ws.length ∨ o.fast = true ∨ o.age ≠ age
      · exact (ask_st h1 hl hz0 hf h9).mono (hno 9 (by unfold stO; rw [if_neg hz, hw, if_pos h9]) (by decide))
      · have h91 := h9
        simp only [not_or, Classical.not_not, Bool.not_eq_true] at h91
        by_cases h10 : 256 < cnt L + ws.length
        · exact (ask_full1 h1 hl hz0 hf h91.1 h91.2.1 h91.2.2 hc h10).mono (hno 10 (by unfold stO; rw [if_neg hz, hw, if_neg h9, if_pos h10]) (by decide))
        · have hot := (findO_mem hf).2
          have hoe : (⟨(t1, t2, t3), age, o.lk, [], false⟩ : Ow) = o := by
            have hws := List.eq_nil_of_length_eq_zero (Nat.eq_zero_of_not_pos h91.1)
            rw [← hot, ← h91.2.2, ← hws, ← h91.2.1]
          exact (ask_old h1 hlm hz0 hf hoe (by omega) hLL).mono (hyes hw (by unfold stO; rw [if_neg hz, hw, if_neg h9, if_neg h10]))
theorem hold_x (h : TabX P w tb L) (t : Tx) :
    Calls Try.prog 15 #[.pointer (some ⟨tb, 0, none⟩), txv t] w fun e w' => e = .returned (.int .i64 (holdE L t)) ∧ TabX P w' tb (holdP L t) ∧ Kept (fun i => ¬ P i) w w' := by
  obtain ⟨own, B, mb, A, h1, h2⟩ := h
  have hx : TabX P w tb L := ⟨own, B, mb, A, h1, h2⟩
  obtain ⟨t1, t2, t3⟩ := t
  unfold holdP holdE
  cases hf : findO L (t1, t2, t3) with
  | none => exact (hold_no h1 hf).mono fun e w' ⟨he, hk⟩ => ⟨he, hx.same hk, hk.mono (fun _ _ h => h.elim)⟩
  | some o =>
    by_cases hw : 0 < o.ws.length
    · simp only [if_pos hw]
      exact (hold_wait h1 hf hw).mono fun e w' ⟨he, hk⟩ => ⟨he, hx.same hk, hk.mono (fun _ _ h => h.elim)⟩
    · simp only [if_neg hw, if_true]
      exact (hold_yes h1 hf hw).mono fun e w' ⟨A', he, ht, hk⟩ => ⟨he, ⟨own, B, mb, A', ht, fun i hi => let h3 := h2 i hi; ⟨h3.1, h3.2.1, h3.2.2.1, Nat.lt_of_lt_of_le h3.2.2.2 hk.size⟩⟩, hk.mono fun i _ hi hp => by
        rw [(h2 i hp).1] at hi; cases hi⟩
theorem rel_x (h : TabX P w tb L) (t : Tx) (hLL : L.length ≤ 1000000) :
    Calls Try.prog 16 #[.pointer (some ⟨tb, 0, none⟩), txv t] w fun e w' => ∃ v, e = .returned (.tuple #[v, .int .i64 0]) ∧ Txs w w' v (relG L t) ∧ TabX (fun i => P i ∨ v.ownBlock = some i) w' tb (relP L t) ∧ Kept (fun i => ¬ P i) w w' := by
  obtain ⟨own, B, mb, A, h1, h2⟩ := h
  have hx : TabX P w tb L := ⟨own, B, mb, A, h1, h2⟩
  obtain ⟨t1, t2, t3⟩ := t
  unfold relP relG
  cases hf : findO L (t1, t2, t3) with
  | none =>
    simp only [Option.isSome_none, Bool.false_eq_true, if_false]
    exact (rel_no h1 hf).mono fun e w' ⟨he, hk⟩ => ⟨_, he, Txs.nil _ _, (hx.same hk).mono (fun i hi => hi.elim id (fun h => by simp [Value.ownBlock] at h)), hk.mono (fun _ _ h => h.elim)⟩
  | some o =>
    simp only [Option.isSome_some, if_true]
    refine (rel_yes h1 hf hLL).mono fun e w' ⟨A', ga, gc, he, ht, hg, hgn, hk⟩ => ⟨_, he, ⟨ga, gc, rfl, hg, hgn⟩, ⟨own, B, mb, A', ht, fun i hi => ?_⟩, hk.mono fun i _ hi hp => ?_⟩
    · have h5 := row_lt h1.obj
      have h6 := h1.mlt
      rcases hi with hi | hi
      · have h3 := h2 i hi
        exact ⟨h3.1, h3.2.1, h3.2.2.1, Nat.lt_of_lt_of_le h3.2.2.2 hk.size⟩
      · have := hgn i hi
        exact ⟨h1.new i this, by omega, by omega, hg.lt hi⟩
    · have h3 := h2 i hp
      rcases hi with rfl | ⟨t, hi⟩
      · exact h3.2.2.1 rfl
      · rw [h3.1] at hi; cases hi
theorem locks_x (h : TabX P w tb L) (t : Tx) :
    Calls Try.prog 20 #[.pointer (some ⟨tb, 0, none⟩), txv t] w fun e w' => ∃ v, e = .returned v ∧ Wts w w' v (locksP L t) ∧ TabX (fun i => P i ∨ v.ownBlock = some i) w' tb L ∧ Kept (fun _ => False) w w' := by
  have hx := h
  obtain ⟨own, B, mb, A, h1, h2⟩ := h
  obtain ⟨t1, t2, t3⟩ := t
  unfold locksP
  cases hf : findO L (t1, t2, t3) with
  | none => exact (locks_no h1 hf).mono fun e w' ⟨he, hk⟩ => ⟨_, he, Wts.nil _ _, (hx.same hk).mono (fun i hi => hi.elim id (fun h => by simp [Value.ownBlock] at h)), hk⟩
  | some o => exact (locks_yes h1 hf).mono fun e w' ⟨ga, gc, he, hg, hgn, hk⟩ => ⟨_, he, ⟨ga, gc, rfl, hg, hgn⟩, hx.fresh hk (fun _ _ h => h.elim) (fun i hi => hi.imp id (fun h => ⟨hgn i h, hg.lt h⟩)), hk⟩
theorem waiting_x (h : TabX P w tb L) (hLL : L.length ≤ 1000000) :
    Calls Try.prog 17 #[.pointer (some ⟨tb, 0, none⟩)] w fun e w' => ∃ v, e = .returned v ∧ Txs w w' v (waitP L) ∧ TabX (fun i => P i ∨ v.ownBlock = some i) w' tb L ∧ Kept (fun _ => False) w w' := by
  have hx := h
  obtain ⟨own, B, mb, A, h1, h2⟩ := h
  exact (waiting_any h1 hLL).mono fun e w' ⟨ga, gc, he, hg, hgn, hk⟩ => ⟨_, he, ⟨ga, gc, rfl, hg, hgn⟩, hx.fresh hk (fun _ _ h => h.elim) (fun i hi => hi.imp id (fun h => ⟨hgn i h, hg.lt h⟩)), hk⟩
theorem known_x (h : TabX P w tb L) (t : Tx) :
    Calls Try.prog 18 #[.pointer (some ⟨tb, 0, none⟩), txv t] w fun e w' => e = .returned (.bool (findO L t).isSome) ∧ Kept (fun _ => False) w w' := by
  obtain ⟨own, B, mb, A, h1, h2⟩ := h
  obtain ⟨t1, t2, t3⟩ := t
  cases hf : findO L (t1, t2, t3) with
  | none => exact known_no h1 hf
  | some o => exact known_yes h1 hf
theorem count_x (h : TabX P w tb L) (hc : cnt L ≤ 1000000) :
    Calls Try.prog 13 #[.pointer (some ⟨tb, 0, none⟩)] w fun e w' => e = .returned (.int .i64 (cnt L)) ∧ Kept (fun _ => False) w w' := by
  obtain ⟨own, B, mb, A, h1, h2⟩ := h
  exact count_any h1 hc
end
end Go.Proofs.Ytpjhdpfaogdboaa
