/- Texts of this claim, merged: Dh, Di, Dj, Dk, Dl, Dm, Dn, Do. -/
import Derived.Test.YtpjhdpfaogdboaaPm1
import Derived.Test.YtpjhdpfaogdboaaPm2
import Derived.Test.YtpjhdpfaogdboaaPm3
import Derived.Test.YtpjhdpfaogdboaaPm4
import Derived.Test.YtpjhdpfaogdboaaPm5
import Derived.Test.YtpjhdpfaogdboaaPm6
import Derived.Test.YtpjhdpfaogdboaaPm7
import Derived.Test.YtpjhdpfaogdboaaPm8
import Derived.Test.YtpjhdpfaogdboaaPm9
import Derived.Test.YtpjhdpfaogdboaaPm10
import Derived.Test.YtpjhdpfaogdboaaPm11
import Derived.Test.YtpjhdpfaogdboaaPm12
import Derived.Test.YtpjhdpfaogdboaaPm13
import Derived.Test.YtpjhdpfaogdboaaPm14
import Derived.Test.YtpjhdpfaogdboaaPm15
import Derived.Test.YtpjhdpfaogdboaaPm16
import Derived.Test.YtpjhdpfaogdboaaPm17
import Derived.Test.YtpjhdpfaogdboaaPm18
import Derived.Test.YtpjhdpfaogdboaaPm19
import Derived.Test.YtpjhdpfaogdboaaPm20
import Derived.Test.YtpjhdpfaogdboaaPm21
import Derived.Test.YtpjhdpfaogdboaaPm22
import Derived.Test.YtpjhdpfaogdboaaPm23
/- The document: a row's seven cells are stored in place. -/
namespace Go.Proofs.Ytpjhdpfaogdboaa
set_option linter.unusedSimpArgs false
set_option linter.unusedVariables false
open Go.RowKit
theorem mid_row {w : World} {b : Nat} {cur : Array Value} {T : TypeId} (h : w.heap[b]? = some (.cells cur T (0, 0))) (o : Nat) (l : List Value) (hl : o + l.length ≤ cur.size) :
    (w.setCells b o l).heap[b]? = some (.cells ((cur.toList.take o ++ l ++ cur.toList.drop (o + l.length)).toArray) T (0, 0)) ∧ Kept (fun g => g = b) w (w.setCells b o l) := by
  rw [← putRow_eq]
  refine ⟨?_, putRow_kept (F := fun g => g = b) (.inl rfl) _ _ _ (Kept.refl _ _)⟩
  obtain ⟨cs', h1, h2, h3, h4⟩ := putRow_block l w o cur h
  rw [h1]
  congr 2
  apply Array.ext_getElem?
  intro j
  have e : (cur.toList.take o).length = o := by rw [List.length_take, Array.length_toList]; omega
  by_cases hj : j < o
  · rw [h3 j hj]
    simp only [List.getElem?_toArray]
    rw [List.append_assoc, List.getElem?_append_left (by rw [e]; exact hj), List.getElem?_take, if_pos hj, Array.getElem?_toList]
  · by_cases hs : j < cur.size
    · rw [h4 j (by omega) hs]
      simp only [List.getElem?_toArray]
      by_cases hj2 : j < o + l.length
      · rw [if_pos hj2, List.append_assoc, List.getElem?_append_right (by omega), e, List.getElem?_append_left (by omega)]
      · rw [if_neg hj2, List.getElem?_append_right (by rw [List.length_append, e]; omega), List.length_append, e, List.getElem?_drop, Array.getElem?_toList]
        congr 1
        omega
    · rw [Array.getElem?_eq_none (by omega), Array.getElem?_eq_none (by simp; omega)]
section
variable {P : Program} {w : World} {ops : Array Oper} {rest : List Oper} {op : Oper} {a : Act} {Q : Exit → Act → World → Prop} {b : Nat} {T : TypeId}
/-- some cells of a row are stored -/
theorem wpList_store_midr (hgd : op.guard = none) (ty : TypeId) (x y : Operand) (ho : op.op = .store ty x y) (o : Nat) (cells cur : Array Value) (hx : a.eval x = .pointer (some ⟨b, o, none⟩)) (hy : a.eval y = .agg cells) (hb : w.heap[b]? = some (.cells cur T (0, 0))) (hs : o + cells.size ≤ cur.size)
    (hi : (P.info? ty).map (·.size) = some cells.size) (h1 : cells.all (·.oneCell') = true)
    (h : ∀ w', w'.heap[b]? = some (.cells ((cur.toList.take o ++ cells.toList ++ cur.toList.drop (o + cells.size)).toArray) T (0, 0)) → Kept (fun g => g = b) w w' → wpList P ops Q rest (a.put op.dst undef) w') : wpList P ops Q (op :: rest) a w := by
  have hm := mid_row hb o cells.toList (by simpa using hs)
  simp only [Array.length_toList] at hm
  refine wpList_plain hgd fun K hK => ?_
  exact wp_store_mid ty x y ho b o cells hx hy (fun j hj => ⟨by rw [row_cell hb]; simp; omega, row_free hb _⟩) hi h1 (hK _ _ (h _ hm.1 hm.2))
end
theorem dcells_upd {R : Tx → Rw} {t : Tx} {r : Rw} : ∀ {M : List Ow}, (∀ x ∈ M, x.tx ≠ t) → dcells (updR R t r) M = dcells R M
  | [], _ => rfl
  | x :: M, h => by
    have h1 := dcells_upd (R := R) (t := t) (r := r) (M := M) (fun y hy => h y (List.mem_cons_of_mem _ hy))
    have h2 := updR_ne (R := R) (r := r) (h x List.mem_cons_self)
    unfold dcells at h1 ⊢
    rw [List.flatMap_cons, List.flatMap_cons, h1, h2]
theorem dcell_len (o : Ow) (r : Rw) : (dcell o r).length = 7 := rfl
theorem dcells_len (R : Tx → Rw) : ∀ L : List Ow, (dcells R L).length = L.length * 7
  | [] => rfl
  | x :: L => by
    have h := dcells_len R L
    unfold dcells at h ⊢
    rw [List.flatMap_cons, List.length_append, h, dcell_len, List.length_cons]
    omega
theorem dcells_set {R : Tx → Rw} {L : List Ow} {k : Nat} {o o' : Ow} (r' : Rw) (hk : L[k]? = some o) (ht : o'.tx = o.tx) (hn : (L.map (·.tx)).Nodup) :
    dcells (updR R o.tx r') (L.set k o') = (dcells R L).take (k * 7) ++ dcell o' r' ++ (dcells R L).drop (k * 7 + 7) := by
  obtain ⟨h1, h2⟩ := List.getElem?_eq_some_iff.1 hk
  have e1 : L = L.take k ++ o :: L.drop (k + 1) := by rw [← h2, ← List.drop_eq_getElem_cons h1, List.take_append_drop]
  have e2 : L.set k o' = L.take k ++ o' :: L.drop (k + 1) := by rw [List.set_eq_take_append_cons_drop, if_pos h1]
  have hl : (L.take k).length = k := by rw [List.length_take]; omega
  obtain ⟨A, hA⟩ : ∃ A, L.take k = A := ⟨_, rfl⟩
  obtain ⟨B, hB⟩ : ∃ B, L.drop (k + 1) = B := ⟨_, rfl⟩
  rw [hA] at hl
  rw [e2, hA, hB]
  rw [hA, hB] at e1
  rw [e1] at hn ⊢
  clear e1 e2 hA hB h1 h2 hk
  rw [List.map_append, List.map_cons, List.nodup_append, List.nodup_cons] at hn
  obtain ⟨_, ⟨h3, _⟩, h4⟩ := hn
  have hA : ∀ x ∈ A, x.tx ≠ o.tx := fun x hx => h4 _ (List.mem_map_of_mem hx) _ List.mem_cons_self
  have hB : ∀ x ∈ B, x.tx ≠ o.tx := fun x hx e => h3 (by rw [← e]; exact List.mem_map_of_mem hx)
  have hc : ∀ (R : Tx → Rw) (x : Ow), dcells R (x :: B) = dcell x (R x.tx) ++ dcells R B := fun R x => by unfold dcells; rw [List.flatMap_cons]
  rw [dcells_app, dcells_app, hc, hc, dcells_upd hA, dcells_upd hB, ht, updR_eq]
  have hd : (dcells R A).length = k * 7 := by rw [dcells_len, hl]
  have h7 := dcell_len o (R o.tx)
  rw [List.take_left' hd]
  have : (dcells R A ++ (dcell o (R o.tx) ++ dcells R B)).drop (k * 7 + 7) = dcells R B := by
    rw [← List.append_assoc]
    exact List.drop_left' (by rw [List.length_append, hd, h7])
  rw [this, List.append_assoc]
end Go.Proofs.Ytpjhdpfaogdboaa
/- The document's table: one row takes another's place. -/
namespace Go.Proofs.Ytpjhdpfaogdboaa
set_option linter.unusedSimpArgs false
set_option linter.unusedVariables false
open Go.RowKit
theorem DT.block {D : Nat → Prop} {w : World} {xb : Nat} {v : Value} {L : List Ow} {R : Tx → Rw} (h : DT D w xb v L R) {k : Nat} {o : Ow} (hk : L[k]? = some o) :
    ∃ g cap cur, v = .slice (some ⟨g, 0, none⟩) L.length cap ∧ w.heap[g]? = some (.cells cur 104 (0, 0)) ∧ k * 7 + 7 ≤ cur.size ∧ g ≠ xb ∧ ∀ (w' : World) (o' : Ow) (r' : Rw), w'.heap[g]? = some (.cells ((cur.toList.take (k * 7) ++ dcell o' r' ++ cur.toList.drop (k * 7 + 7)).toArray) 104 (0, 0)) → Kept (fun i => i = g) w w' → o'.tx = o.tx → (L.map (·.tx)).Nodup → OwD D w o' r' → DT D w' xb v (L.set k o') (updR R o.tx r') := by
  have hlt := (List.getElem?_eq_some_iff.1 hk).1
  rcases h.row.shape with ⟨_, h0, _⟩ | ⟨g, cap, cur, rfl, h4, h5, h6, h7, h8⟩
  · omega
  · have hgx : g ≠ xb := fun e => by
      rw [e, h.obj] at h4
      simp at h4
    have hdl := dcells_len R L
    have hcs : L.length * 7 ≤ cur.size := by
      rw [← h8] at hdl
      simp only [List.length_take, Array.length_toList] at hdl
      omega
    refine ⟨g, cap, cur, rfl, h4, by omega, hgx, fun w' o' r' hw hkp ht hn hl => ⟨?_, ?_, ?_, h.nx, h.ng, fun i hi => Nat.lt_of_lt_of_le (h.new i hi) hkp.size⟩⟩
    · exact (hkp.block xb (row_lt h.obj) (fun e => hgx e.symm)).trans h.obj
    · have hm := Own.mk (size := 7) (n := L.length) (cap := cap) hw h5 h6 (by
        have := dcell_len o' r'
        simp only [List.size_toArray, List.length_append, List.length_take, List.length_drop, Array.length_toList, this]
        omega)
      rw [List.length_set, dcells_set r' hk ht hn]
      have e : ((cur.toList.take (k * 7) ++ dcell o' r' ++ cur.toList.drop (k * 7 + 7)).toArray).toList.take (L.length * 7) = (dcells R L).take (k * 7) ++ dcell o' r' ++ (dcells R L).drop (k * 7 + 7) := by
        rw [← h8, List.take_take, List.drop_take, Nat.min_eq_left (by omega), List.toList_toArray]
        have h1 : (cur.toList.take (k * 7) ++ dcell o' r').length = k * 7 + 7 := by
          rw [List.length_append, List.length_take, dcell_len, Array.length_toList]
          omega
        rw [List.take_append, h1, List.take_of_length_le (by omega)]
      rw [e] at hm
      exact hm
    · intro x hx
      have hng : ∀ i, i = g → ¬ D i := fun i e => by rw [e]; exact h.ng g rfl
      obtain ⟨j, hj⟩ := List.mem_iff_getElem?.1 hx
      rw [List.getElem?_set] at hj
      split at hj
      · rename_i e
        subst e
        cases hj
        rw [ht, updR_eq]
        exact hl.kept hkp hng
      · rename_i hne
        have e : x.tx ≠ o.tx := fun e => by
          obtain ⟨j1, j2⟩ := List.getElem?_eq_some_iff.1 hj
          obtain ⟨k1, k2⟩ := List.getElem?_eq_some_iff.1 hk
          rcases Nat.lt_trichotomy j k with h | h | h
          · exact List.pairwise_iff_getElem.1 hn j k (by simpa using j1) (by simpa using k1) h (by simp [j2, k2, e])
          · exact hne h.symm
          · exact List.pairwise_iff_getElem.1 hn k j (by simpa using k1) (by simpa using j1) h (by simp [j2, k2, e])
        rw [updR_ne e]
        exact (h.lst x (List.mem_of_getElem? hj)).kept hkp hng
end Go.Proofs.Ytpjhdpfaogdboaa
/- The document: settle. -/
namespace Go.Proofs.Ytpjhdpfaogdboaa
set_option linter.unusedSimpArgs false
set_option linter.unusedVariables false
open Go.RowKit
/-- what the inner loop has found among the first m -/
def busyK (L : List Ow) (i : Nat) (o : Ow) (m : Nat) : Bool := decide (o.ws.length = 0) || ((List.range m).any fun j => match L[j]? with
  | some x => (decide (j ≠ i) && clash x.lk o.ws) || (decide (j < i) && clash x.ws o.ws)
  | none => false)
theorem busyK_succ {L : List Ow} {i m : Nat} {o x : Ow} (hx : L[m]? = some x) : busyK L i o (m + 1) = (busyK L i o m || (decide (m ≠ i) && clash x.lk o.ws) || (decide (m < i) && clash x.ws o.ws)) := by
  unfold busyK
  rw [List.range_succ, List.any_append]
  simp [hx, Bool.or_assoc]
theorem busyK_all {L : List Ow} {i : Nat} {o : Ow} (hi : L[i]? = some o) (hn : (L.map (·.tx)).Nodup) : busyK L i o L.length = !goS L i o := by
  have hne : ∀ (j : Nat) (x : Ow), L[j]? = some x → (j ≠ i ↔ x.tx ≠ o.tx) := fun j x hj => by
    obtain ⟨j1, j2⟩ := List.getElem?_eq_some_iff.1 hj
    obtain ⟨k1, k2⟩ := List.getElem?_eq_some_iff.1 hi
    refine ⟨fun h e => ?_, fun h e => ?_⟩
    · rcases Nat.lt_trichotomy j i with h' | h' | h'
      · exact List.pairwise_iff_getElem.1 hn j i (by simpa using j1) (by simpa using k1) h' (by simp [j2, k2, e])
      · exact h h'
      · exact List.pairwise_iff_getElem.1 hn i j (by simpa using k1) (by simpa using j1) h' (by simp [j2, k2, e])
    · subst e
      rw [hi] at hj
      cases hj
      exact h rfl
  rw [Bool.eq_iff_iff]
  unfold busyK goS
  simp only [Bool.or_eq_true, decide_eq_true_eq, List.any_eq_true, List.mem_range, Bool.not_eq_true', Bool.and_eq_false_iff, decide_eq_false_iff_not, Bool.not_eq_false']
  constructor
  · rintro (h | ⟨j, hj, h⟩)
    · left; omega
    · right
      have hx : L[j]? = some L[j] := List.getElem?_eq_getElem hj
      rw [hx] at h
      simp only [Bool.or_eq_true, Bool.and_eq_true, decide_eq_true_eq] at h
      rcases h with ⟨h1, h2⟩ | ⟨h1, h2⟩
      · left
        exact ⟨L[j], List.getElem_mem hj, by simp [(hne j _ hx).1 h1, h2]⟩
      · right
        exact ⟨L[j], List.mem_take_iff_getElem.2 ⟨j, by omega, rfl⟩, h2⟩
  · rintro (h | ⟨x, hx, h⟩ | ⟨x, hx, h⟩)
    · left; omega
    · right
      simp only [Bool.and_eq_true, decide_eq_true_eq] at h
      obtain ⟨j, hj⟩ := List.mem_iff_getElem?.1 hx
      exact ⟨j, (List.getElem?_eq_some_iff.1 hj).1, by rw [hj]; simp [(hne j x hj).2 h.1, h.2]⟩
    · right
      obtain ⟨j, hj, rfl⟩ := List.mem_take_iff_getElem.1 hx
      exact ⟨j, by omega, by rw [List.getElem?_eq_getElem (by omega)]; simp only [Bool.or_eq_true, Bool.and_eq_true, decide_eq_true_eq]; exact .inr ⟨by omega, h⟩⟩
end Go.Proofs.Ytpjhdpfaogdboaa
/- The document: settle's walk. -/
namespace Go.Proofs.Ytpjhdpfaogdboaa
set_option linter.unusedSimpArgs false
set_option linter.unusedVariables false
open Go.RowKit
/-- what a round of the document's settle keeps -/
structure StD (D : Nat → Prop) (w : World) (xb : Nat) (v : Value) (S : List Ow × List Tx) (ga : Option Addr) (gc : Nat) (D' : Nat → Prop) (R' : Tx → Rw) (wr : World) : Prop where
  t : DT D' wr xb v S.1 R'
  g : Own wr 32 3 (.slice ga S.2.length gc) S.2.length (S.2.flatMap encT)
  n : ∀ b, (Value.slice ga S.2.length gc).ownBlock = some b → w.heap.size ≤ b ∧ ¬ D' b
  d : ∀ i, D i → D' i
  e : ∀ i, D' i → D i ∨ w.heap.size ≤ i
  k : Kept (fun i => v.ownBlock = some i) w wr
theorem clash_is {F G : Nat → Prop} {w : World} {a b : Option Addr} {N M c d : Nat} {A B : List Wt} {r : Bool} (ha : Lies F w 2 (.slice a N c) N (wcells A)) (hb : Lies G w 2 (.slice b M d) M (wcells B)) (hN : A.length = N) (hM : B.length = M) (hr : clash A B = r) :
    Calls Try.prog 21 #[.slice a N c, .slice b M d] w fun e w' => e = .returned (.bool r) ∧ Kept (fun _ => False) w w' := by
  subst hr
  exact clash_any ha hb hN hM
theorem DT.grow {D E F : Nat → Prop} {w w' : World} {xb : Nat} {v : Value} {L : List Ow} {R : Tx → Rw} (h : DT D w xb v L R) (k : Kept F w w') (hx : ¬ F xb) (hv : ∀ b, v.ownBlock = some b → ¬ F b) (hF : ∀ i, F i → ¬ D i) (hE : ∀ i, D i → E i) (ex : ¬ E xb) (eg : ∀ b, v.ownBlock = some b → ¬ E b) (en : ∀ i, E i → i < w'.heap.size) : DT E w' xb v L R :=
  ⟨(k.block _ (row_lt h.obj) hx).trans h.obj, h.row.kept k hv, fun o ho => ((h.lst o ho).kept k hF).mono hE, ex, eg, en⟩
theorem setK_ok {L : List Ow} (h : ∀ o ∈ L, OkO o) : ∀ k, ∀ o ∈ (setK L k).1, OkO o
  | 0 => h
  | k + 1 => by
    intro o ho
    have hp := setK_ok h k
    change o ∈ (stepS (setK L k) k).1 at ho
    unfold stepS at ho
    split at ho
    · rename_i o' ho'
      split at ho
      · rcases List.mem_or_eq_of_mem_set ho with h1 | rfl
        · exact hp o h1
        · exact grant_ok (hp o' (List.mem_of_getElem? ho'))
      · exact hp o ho
    · exact hp o ho
theorem setK_tx (L : List Ow) (k : Nat) : (setK L k).1.map (·.tx) = L.map (·.tx) := by rw [txs_key, txs_key, setK_txs]
theorem StD.same {D D' : Nat → Prop} {w wr w' : World} {xb : Nat} {v : Value} {S : List Ow × List Tx} {ga : Option Addr} {gc : Nat} {R' : Tx → Rw} (h : StD D w xb v S ga gc D' R' wr) (k : Kept (fun _ => False) wr w') : StD D w xb v S ga gc D' R' w' :=
  ⟨h.t.same k, h.g.kept k (fun _ _ => id), h.n, h.d, h.e, h.k.trans (k.mono (fun _ _ h => h.elim))⟩
section
variable {D : Nat → Prop} {w : World} {xb : Nat} {v : Value} {L : List Ow} {R : Tx → Rw}
set_option maxRecDepth 100000 in
set_option maxHeartbeats 8000000 in
theorem dsettle_any (h : DT D w xb v L R) (hL : L.length ≤ 100000) (hn : (L.map (·.tx)).Nodup) (hok : ∀ o ∈ L, OkO o) :
    Calls Try.prog 59 #[.pointer (some ⟨xb, 0, none⟩)] w fun e w' => ∃ D' R' ga gc, e = .returned (.slice ga (settled L).2.length gc) ∧ StD D w xb v (settled L) ga gc D' R' w' := by
  have HS0 := hid (show StD D w xb v (setK L 0) none 0 D R w from ⟨h, Own.nil _ _ _, fun b h => by simp [Value.ownBlock] at h, fun _ => id, fun _ => .inl, Kept.refl _ _⟩)
  obtain ⟨a, c, rfl, hc1, hc2⟩ := h.slice
  unfold maxLen at hc2
  have hz9 := h.cell
  obtain ⟨n, hN⟩ : ∃ n, L.length = n := ⟨_, rfl⟩
  have HN := hid hN; have HND := hid hn; have HOKS := hid hok
  have HW0 := hid (show xb < w.heap.size ∧ ∀ b, (Value.slice a L.length c).ownBlock = some b → b < w.heap.size from ⟨row_lt h.obj, fun b hb => h.row.lt hb⟩)
  rw [hN] at hc1 hL hz9
  clear h hN hn hok
  go_enter Try.func59, Try.ntmps59
  go_wp2_with fail
  clear hz9
  go_loopw [3, 16] (fun g i wr => ∃ (k : Nat) (S : List Ow × List Tx) (D' : Nat → Prop) (R' : Tx → Rw) (ga : Option Addr) (gc : Nat), g = .slice ga S.2.length gc ∧ i = .int .i64 k ∧ k ≤ n ∧ setK L k = S ∧ StD D w xb (.slice a L.length c) S ga gc D' R' wr) (fun _ i _ => n - (RowKit.intOf i).toNat)
  case atStart => exact ⟨0, _, D, R, none, 0, rfl, rfl, Nat.zero_le _, rfl, HS0.out⟩
  case round =>
    rename World => wr
    clear HS0
    obtain ⟨k, S, D', R', ga, gc, rfl, rfl, hk, hsk, hst⟩ := hrel
    have HST := hid hst; have HSK := hid hsk
    clear hst hsk
    have HLK := hid (show S.1.length = n from by rw [← HSK.out, setK_len]; exact HN.out)
    have x0 := HST.out.t.cell
    rw [HN.out] at x0
    by_cases hlt : k < n
    · have hltI : (k : Int) < (n : Int) := by omega
      obtain ⟨o, ho⟩ : ∃ o, S.1[k]? = some o := ⟨_, List.getElem?_eq_getElem (by rw [HLK.out]; exact hlt)⟩
      have HO := hid ho
      obtain ⟨g, c', hv, o0, o1, o2, o3, o4, o5, o6⟩ := HST.out.t.owner ho
      simp only [Value.slice.injEq] at hv
      obtain ⟨rfl, _, rfl⟩ := hv
      obtain ⟨⟨t1, t2, t3⟩, age, olk, ows, of⟩ := o
      simp only at o0 o1 o2 o3 o4 o5 o6
      obtain ⟨la, lc, r3, r4⟩ : ∃ r1 r2, (R' (t1, t2, t3)).la = r1 ∧ (R' (t1, t2, t3)).lc = r2 := ⟨_, _, rfl, rfl⟩
      obtain ⟨wa, wc, s3, s4⟩ : ∃ r1 r2, (R' (t1, t2, t3)).wa = r1 ∧ (R' (t1, t2, t3)).wc = r2 := ⟨_, _, rfl, rfl⟩
      rw [r3, r4] at o4
      rw [s3, s4] at o5
      have hrr : R' (t1, t2, t3) = ⟨la, lc, wa, wc⟩ := by rw [← r3, ← r4, ← s3, ← s4]
      have HRR := hid hrr
      obtain ⟨q, hq⟩ : ∃ q, ows.length = q := ⟨_, rfl⟩
      have HQ := hid hq
      rw [hq] at o5
      have hkb := row_new wr (onRow t1 t2 t3 age la olk.length lc wa q wc of)
      obtain ⟨W2, hW2⟩ : ∃ W2, wr.alloc (onRow t1 t2 t3 age la olk.length lc wa q wc of) = W2 := ⟨_, rfl⟩
      obtain ⟨kb, hkb'⟩ : ∃ kb, wr.heap.size = kb := ⟨_, rfl⟩
      have hk2 := (Kept.refl (fun _ => False) wr).alloc (onRow t1 t2 t3 age la olk.length lc wa q wc of)
      rw [hW2] at hk2 hkb
      rw [hkb'] at hkb
      obtain ⟨z0, z1, z2, z3, z4, z5, z6⟩ := cells7 hkb
      have x2 := hk2.cell x0 id
      have KB := hid hkb; have K2 := hid hk2; have HKB := hid hkb'
      have ST2 := hid (HST.out.same hk2)
      unfold onRow at hW2
      have HBK0 := hid (show busyK S.1 k ⟨(t1, t2, t3), age, olk, ows, of⟩ 0 = ((q : Int) == 0) by simp only [busyK, hq, List.range_zero, List.any_nil, Bool.or_false]; by_cases e : q = 0 <;> simp [e])
      clear ho r3 r4 s3 s4 hrr hq hkb hk2
      go_wp2_with fail
      try rw [hW2]
      try rw [hkb']
      clear hW2 hkb' o0 o1 o2 o3 o4 o5 o6 x0
      go_loopw [6, 35] (fun f i wv => ∃ (m : Nat) (b : Bool), f = .bool b ∧ i = .int .i64 m ∧ m ≤ n ∧ busyK S.1 k ⟨(t1, t2, t3), age, olk, ows, of⟩ m = b ∧ Kept (fun _ => False) W2 wv) (fun _ i _ => n - (RowKit.intOf i).toNat)
      case atStart => exact ⟨0, _, rfl, rfl, Nat.zero_le _, HBK0.out, Kept.refl _ _⟩
      case round =>
        rename World => wv
        clear HBK0
        obtain ⟨m, b, rfl, rfl, hm, hbk, hkv⟩ := hrel
        have KV := hid hkv; have HBK := hid hbk
        have STV := hid (ST2.out.same hkv)
        clear hkv hbk
        by_cases hmt : m < n
        · have hmI : (m : Int) < (n : Int) := by omega
          obtain ⟨x, hx⟩ : ∃ o, S.1[m]? = some o := ⟨_, List.getElem?_eq_getElem (by rw [HLK.out]; exact hmt)⟩
          have HX := hid hx
          have HBS := hid (busyK_succ (i := k) (o := ⟨(t1, t2, t3), age, olk, ows, of⟩) hx)
          obtain ⟨g', c'', hv, o0, o1, o2, o3, o4, o5, o6⟩ := STV.out.t.owner hx
          simp only [Value.slice.injEq, Option.some.injEq, Addr.mk.injEq] at hv
          obtain ⟨⟨rfl, _⟩, _, rfl⟩ := hv
          cases b with
          | true =>
            have HBN := hid (show busyK S.1 k ⟨(t1, t2, t3), age, olk, ows, of⟩ (m + 1) = true by rw [HBS.out, HBK.out]; rfl)
            clear hx
            go_wp2
            go_roundw
            case rel => exact ⟨m + 1, true, rfl, by go_num, by omega, HBN.out, KV.out.alloc _⟩
            case measure => (simp only [RowKit.intOf]; omega)
          | false =>
            by_cases hmk : m = k
            · subst hmk
              have HBN := hid (show busyK S.1 m ⟨(t1, t2, t3), age, olk, ows, of⟩ (m + 1) = false by rw [HBS.out, HBK.out]; simp)
              clear hx
              go_wp2
              go_roundw
              case rel => exact ⟨m + 1, false, by go_num, by go_num, by omega, HBN.out, KV.out.alloc _⟩
              case measure => (simp only [RowKit.intOf]; omega)
            · have hmkI : ((m : Int) != (k : Int)) = true := by simp; omega
              obtain ⟨⟨y1, y2, y3⟩, xa, xlk, xws, xf⟩ := x
              simp only at o0 o1 o2 o3 o4 o5 o6
              obtain ⟨r1, r2, p3, p4⟩ : ∃ r1 r2, (R' (y1, y2, y3)).la = r1 ∧ (R' (y1, y2, y3)).lc = r2 := ⟨_, _, rfl, rfl⟩
              obtain ⟨s1, s2, p5, p6⟩ : ∃ r1 r2, (R' (y1, y2, y3)).wa = r1 ∧ (R' (y1, y2, y3)).wc = r2 := ⟨_, _, rfl, rfl⟩
              have hlx := STV.out.t.lst _ (List.mem_of_getElem? HX.out)
              have LXL := hid (show Lies (fun i => ¬ D' i) wv 2 (.slice r1 xlk.length r2) xlk.length (wcells xlk) from by rw [← p3, ← p4]; exact hlx.l)
              have LXW := hid (show Lies (fun i => ¬ D' i) wv 2 (.slice s1 xws.length s2) xws.length (wcells xws) from by rw [← p5, ← p6]; exact hlx.w)
              rw [p3, p4] at o4
              rw [p5, p6] at o5
              have LOW := hid (show Lies (fun i => ¬ D' i) wv 2 (.slice wa q wc) q (wcells ows) from by have := (STV.out.t.lst _ (List.mem_of_getElem? HO.out)).w; simp only [HRR.out, HQ.out] at this; exact this)
              obtain ⟨z0, z1, z2, z3, z4, z5, z6⟩ := cells7 (row_new wv (onRow y1 y2 y3 xa r1 xlk.length r2 s1 xws.length s2 xf))
              have k3 : Kept (fun _ => False) wv (wv.alloc (onRow y1 y2 y3 xa r1 xlk.length r2 s1 xws.length s2 xf)) := (Kept.refl _ _).alloc _
              have e5 := k3.cell (cells7 ((KV.out.block kb (row_lt KB.out) id).trans KB.out)).2.2.2.2.2.1 id
              unfold onRow at z0 z1 z2 z3 z4 z5 z6 e5
              have K3 := hid (KV.out.trans k3)
              unfold onRow at K3
              clear hx k3 hlx p3 p4 p5 p6
              have hmk2 : (decide (m ≠ k)) = true := by simp [hmk]
              obtain ⟨c1, hc1'⟩ : ∃ c, clash xlk ows = c := ⟨_, rfl⟩
              have HCa := hid (fun (W : World) (hW : Kept (fun _ => False) wv W) => clash_is (LXL.out.same hW) (LOW.out.same hW) rfl HQ.out hc1')
              have HC1 := hid hc1'
              clear hc1'
              cases c1 with
              | true =>
                have HBN := hid (show busyK S.1 k ⟨(t1, t2, t3), age, olk, ows, of⟩ (m + 1) = true by rw [HBS.out, HBK.out]; simp [HC1.out, hmk])
                clear hmk2 hmk
                go_wp2_with (go_at_call 21; refine (HCa.out _ ((Kept.refl _ _).alloc _)).mono ?_; rintro e9 w4 ⟨rfl, hk4⟩; have HK4 := hid hk4; clear hk4)
                go_roundw
                case rel => exact ⟨m + 1, true, by go_num, by go_num, by omega, HBN.out, K3.out.trans HK4.out⟩
                case measure => (simp only [RowKit.intOf]; omega)
              | false =>
                by_cases hmlt : m < k
                · have hmltI : (m : Int) < (k : Int) := by omega
                  obtain ⟨c2, hc2'⟩ : ∃ c, clash xws ows = c := ⟨_, rfl⟩
                  have HCb := hid (fun (W : World) (hW : Kept (fun _ => False) wv W) => clash_is (LXW.out.same hW) (LOW.out.same hW) rfl HQ.out hc2')
                  have HBN := hid (show busyK S.1 k ⟨(t1, t2, t3), age, olk, ows, of⟩ (m + 1) = c2 by rw [HBS.out, HBK.out]; simp [HC1.out, hmlt, hc2'])
                  clear hc2' hmk2 hmk
                  go_wp2_with (first
                    | (go_at_call 21; refine (HCa.out _ ((Kept.refl _ _).alloc _)).mono ?_; rintro e9 w4 ⟨rfl, hk4⟩; have HK4 := hid hk4; have g5 := hk4.cell z5 id; have q5 := hk4.cell e5 id; clear hk4 HCa)
                    | (go_at_call 21; refine (HCb.out _ (((Kept.refl _ _).alloc _).trans HK4.out)).mono ?_; rintro e9 w5 ⟨rfl, hk5⟩; have HK5 := hid hk5; clear hk5))
                  go_roundw
                  case rel => exact ⟨m + 1, c2, by go_num, by go_num, by omega, HBN.out, (K3.out.trans HK4.out).trans HK5.out⟩
                  case measure => (simp only [RowKit.intOf]; omega)
                · have hmltI : ¬ (m : Int) < (k : Int) := by omega
                  have HBN := hid (show busyK S.1 k ⟨(t1, t2, t3), age, olk, ows, of⟩ (m + 1) = false by rw [HBS.out, HBK.out]; simp [HC1.out, hmlt])
                  clear hmk2 hmk hmlt
                  go_wp2_with (go_at_call 21; refine (HCa.out _ ((Kept.refl _ _).alloc _)).mono ?_; rintro e9 w4 ⟨rfl, hk4⟩; have HK4 := hid hk4; clear hk4)
                  go_roundw
                  case rel => exact ⟨m + 1, false, by go_num, by go_num, by omega, HBN.out, K3.out.trans HK4.out⟩
                  case measure => (simp only [RowKit.intOf]; omega)
        · obtain rfl : m = n := by omega
          have HGS := hid (show goS S.1 k ⟨(t1, t2, t3), age, olk, ows, of⟩ = !b from by
            have h1 := busyK_all HO.out (by rw [← HSK.out, setK_tx]; exact HND.out)
            rw [HLK.out, HBK.out] at h1
            rw [h1, Bool.not_not])
          cases b with
          | true =>
            have HNO := hid (stepS_no HO.out (by rw [HGS.out]; rfl))
            go_wp2
            go_roundw
            case rel => exact ⟨k + 1, S, D', R', ga, gc, rfl, by go_num, by omega, by show stepS (setK L k) k = S; rw [HSK.out]; exact HNO.out, STV.out⟩
            case measure => (simp only [RowKit.intOf]; omega)
          | false =>
            have HYES := hid (stepS_yes HO.out (by rw [HGS.out]; rfl))
            have HOK := hid (setK_ok HOKS.out k _ (by rw [HSK.out]; exact List.mem_of_getElem? HO.out))
            have HB3 := hid ((KV.out.block kb (row_lt KB.out) id).trans KB.out)
            obtain ⟨d0, d1, d2, d3, d4, d5, d6⟩ := cells7 HB3.out
            have x3 := KV.out.cell x2 id
            have hlo := STV.out.t.lst _ (List.mem_of_getElem? HO.out)
            rw [HRR.out] at hlo
            have LOW := hid (show Lies (fun i => ¬ D' i) wv 2 (.slice wa q wc) q (wcells ows) from by have := hlo.w; simp only [HQ.out] at this; exact this)
            have LOL := hid (show Lies (fun i => ¬ (D' i ∨ wv.heap.size ≤ i)) wv 2 (.slice la olk.length lc) olk.length (wcells olk) from hlo.l.mono (fun g _ h hd => h (.inl hd)))
            have HKD := hid (show ¬ D' kb from fun h => by have := HST.out.t.new kb h; have := HKB.out; omega)
            have HKW := hid (show wr.heap.size ≤ kb ∧ kb < wv.heap.size from ⟨by rw [HKB.out]; exact Nat.le_refl _, row_lt HB3.out⟩)
            have hqb := lies_len LOW.out
            clear hlo
            go_wp2_with fail
            go_loopw [70] (fun i2 wp => ∃ (j : Nat) (l : List Wt) (ja : Option Addr) (jc : Nat), j ≤ q ∧ i2 = .int .i64 j ∧ (ows.take j).foldl addW olk = l ∧ wp.heap[kb]? = some (onRow t1 t2 t3 age ja l.length jc wa q wc of) ∧ Lies (fun i => ¬ (D' i ∨ wv.heap.size ≤ i)) wp 2 (.slice ja l.length jc) l.length (wcells l) ∧ Kept (fun i => i = kb) wv wp) (fun i2 _ => q - (RowKit.intOf i2).toNat)
            case atStart => exact ⟨0, olk, la, lc, Nat.zero_le _, rfl, rfl, HB3.out, LOL.out, Kept.refl _ _⟩
            case round =>
              rename World => wp
              clear LOL
              obtain ⟨j, l, ja, jc, hj, rfl, hjl, hjb, hjw, hkp⟩ := hrel
              have HJL := hid hjl; have HJB := hid hjb; have HJW := hid hjw; have KP := hid hkp
              have LWP := hid (LOW.out.kept hkp (fun i _ e => by rw [e]; exact HKD.out))
              clear hjl hjb hjw hkp d0 d1 d2 d3 d4 d5 d6
              by_cases hjt : j < q
              · have hjI : (j : Int) < (q : Int) := by omega
                obtain ⟨⟨v, mm⟩, hx⟩ : ∃ x, ows[j]? = some x := ⟨_, List.getElem?_eq_getElem (by rw [HQ.out]; exact hjt)⟩
                have HX := hid hx
                obtain ⟨_, hcap2, hcm2, gb2, off2, rfl, z0, z1⟩ := lies_w LWP.out hx
                simp only at z0 z1
                obtain ⟨y0, y1⟩ := want_new wp v mm
                have k5 : Kept (fun _ => False) wp (wp.alloc (.cells #[.int .u32 v, .int .u8 mm] 36)) := (Kept.refl _ _).alloc _
                have e4 := k5.cell (cells7 HJB.out).2.2.2.2.1 id
                have HR5 := hid ((k5.block kb (row_lt HJB.out) id).trans HJB.out)
                have hgl := grant_lk (ows.take j) olk HOK.out.r HOK.out.f (fun y hy => HOK.out.g y (List.mem_of_mem_take hy))
                rw [HJL.out] at hgl
                have h40 := ris_len hgl.1 hgl.2
                obtain ⟨l2, hl2⟩ : ∃ l2, addW l (v, mm) = l2 := ⟨_, rfl⟩
                have HL2 := hid (show (ows.take (j + 1)).foldl addW olk = l2 from by
                  have e1 : ows.take (j + 1) = ows.take j ++ [(v, mm)] := by rw [List.take_add_one, HX.out]; rfl
                  rw [e1, List.foldl_append, HJL.out]
                  exact hl2)
                have HAD := hid (add_any (HJW.out.same k5) rfl hgl.1 (by omega) v mm)
                rw [hl2] at HAD
                have K5 := hid k5
                clear hx hcm2 k5 hgl hl2
                go_wp2_with (go_at_call 73; refine (HAD.out).mono ?_; rintro e9 w4 ⟨u, rfl, ⟨ua, uc, rfl, hua, hub⟩, hk4⟩; have HUA := hid hua; have HUB := hid hub; have HK4 := hid hk4; have f4 := hk4.cell e4 id; have HR4 := hid ((hk4.block kb (row_lt HR5.out) id).trans HR5.out); have hfr := row_free HR4.out 4; clear hk4 hua hub)
                have K6 := hid ((KP.out.trans (K5.out.mono (fun _ _ h => h.elim))).trans (HK4.out.mono (fun _ _ h => h.elim)))
                have K7 := hid (K6.out.setCell (p := ⟨kb, 4, none⟩) (.inl rfl) (.slice ua l2.length uc))
                have HR7 := hid (show (w4.setCell ⟨kb, 4, none⟩ (.slice ua l2.length uc)).heap[kb]? = some (onRow t1 t2 t3 age ua l2.length uc (some ⟨gb2, off2, none⟩) q wc of) from by rw [row_set HR4.out 4]; rfl)
                have HL7 := hid (show Lies (fun i => ¬ (D' i ∨ wv.heap.size ≤ i)) (w4.setCell ⟨kb, 4, none⟩ (.slice ua l2.length uc)) 2 (.slice ua l2.length uc) l2.length (wcells l2) from by
                  refine (HUA.out.kept ((Kept.refl (fun i => i = kb) w4).setCell (p := ⟨kb, 4, none⟩) (.inl rfl) _) (fun b hb e => ?_)).lies (wcells_one _) (fun b hb h => ?_)
                  · have h1 := HUB.out b hb
                    have h2 := KP.out.size
                    have h3 := HKW.out.2
                    simp at h1
                    omega
                  · refine h (.inr ?_)
                    have h1 := HUB.out b hb
                    have h2 := KP.out.size
                    simp at h1
                    omega)
                go_roundw
                case rel => exact ⟨j + 1, l2, ua, uc, by omega, by go_num, HL2.out, HR7.out, HL7.out, K7.out⟩
                case measure => (simp only [RowKit.intOf]; omega)
              · obtain rfl : j = q := by omega
                have HLE := hid (show ows.foldl addW olk = l from by rw [← HJL.out, ← HQ.out, List.take_length])
                have HJS := hid (show (wp.setCell ⟨kb, 5, none⟩ (.slice none 0 0)).heap[kb]? = some (onRow t1 t2 t3 age ja l.length jc none 0 0 of) from by rw [row_set HJB.out 5]; rfl)
                have KA := hid ((Kept.refl (fun i => i = kb) wp).setCell (p := ⟨kb, 5, none⟩) (.inl rfl) (.slice none 0 0))
                have hxk : ¬ xb = kb := fun e => by have := HW0.out.1; have := HST.out.k.size; have := HKW.out.1; omega
                have HX7 := hid (((Kept.refl (fun i => i = kb) wp).setCell (p := ⟨kb, 5, none⟩) (.inl rfl) (.slice none 0 0)).cell (KP.out.cell x3 hxk) hxk)
                clear hxk
                obtain ⟨W7, hW7⟩ : ∃ W7, wp.setCell ⟨kb, 5, none⟩ (.slice none 0 0) = W7 := ⟨_, rfl⟩
                rw [hW7] at HJS KA HX7
                have hfr := row_free HJB.out 5
                have v5 := (cells7 HJB.out).2.2.2.2.2.1
                have K7 := hid (KP.out.trans KA.out)
                have HW7 := hid hW7
                obtain ⟨E, hE⟩ : ∃ E : Nat → Prop, (fun i => D' i ∨ (wv.heap.size ≤ i ∧ i < W7.heap.size)) = E := ⟨_, rfl⟩
                have HE := hid (show ∀ i, E i ↔ D' i ∨ (wv.heap.size ≤ i ∧ i < W7.heap.size) from fun i => by rw [← hE])
                have HSZ := hid (show w.heap.size ≤ wr.heap.size ∧ wr.heap.size ≤ wv.heap.size ∧ wv.heap.size ≤ W7.heap.size from ⟨HST.out.k.size, by have := HKW.out; omega, K7.out.size⟩)
                have T7 := hid (STV.out.t.grow K7.out (E := E) (fun e => by have := HW0.out.1; have := HSZ.out; have := HKW.out; omega) (fun b hb e => by have := HW0.out.2 b hb; have := HSZ.out; have := HKW.out; omega) (fun i e => by rw [e]; exact HKD.out) (fun i hi => (HE.out i).2 (.inl hi))
                  (fun h => ((HE.out _).1 h).elim STV.out.t.nx (fun h => by have := HW0.out.1; have := HSZ.out; omega))
                  (fun b hb h => ((HE.out _).1 h).elim (STV.out.t.ng b hb) (fun h => by have := HW0.out.2 b hb; have := HSZ.out; omega))
                  (fun i h => ((HE.out _).1 h).elim (fun h => Nat.lt_of_lt_of_le (STV.out.t.new i h) K7.out.size) (fun h => h.2)))
                have LJ7 := hid (show Lies (fun i => ¬ E i) W7 2 (.slice ja l.length jc) l.length (wcells l) from
                  (HJW.out.kept KA.out (fun i _ e h => by
                    rw [e] at h
                    rcases h with h | h
                    · exact HKD.out h
                    · have := HKW.out; omega)).mono (fun i hi h h2 => h ((HE.out i).2 (h2.imp id (fun h => ⟨h, hi⟩)))))
                obtain ⟨g', cap, cur, hv, hcur, hcz, hgx, hblk⟩ := T7.out.block HO.out
                simp only [Value.slice.injEq, Option.some.injEq, Addr.mk.injEq] at hv
                obtain ⟨⟨rfl, _⟩, _, rfl⟩ := hv
                have HCUR := hid hcur; have HBLK := hid hblk; have HCZ := hid hcz
                have HGK := hid (show kb ≠ g from fun e => by have := HW0.out.2 g rfl; have := HSZ.out; have := HKW.out; omega)
                clear hW7 hE hcur hblk hcz
                go_wp2_with fail
                try rw [HW7.out]
                clear v5 hfr x3 x2
                obtain ⟨u0, u1, u2, u3, u4, u5, u6⟩ := cells7 HJS.out
                have x7 := HX7.out
                refine wp_region_still_tail 7 (by kernel_rfl) (by kernel_rfl) ?_
                simp only [List.take_succ_cons, List.take_zero, List.drop_succ_cons, List.drop_zero, World.drew_eq]
                iterate 7 still_step
                refine wpStill_nil ?_
                change wpList _ _ _ _ _ (World.drew _)
                refine wpList_store_midr rfl 104 (.tmp 87) (.tmp 86) rfl (k * 7) #[.int .u8 t1, .int .u32 t2, .int .u32 t3, .int .u64 age, .slice ja l.length jc, .slice none 0 0, .bool of] cur (by rfl) (by rfl) (by exact HCUR.out) (by exact HCZ.out) (by kernel_rfl) (by simp [Value.oneCell']) ?_
                intro w8 hw8 hk8
                have K8 := hid (((Kept.refl (fun i => i = g) W7).drew).trans hk8)
                have T8 := hid (HBLK.out w8 (grant ⟨(t1, t2, t3), age, olk, ows, of⟩) ⟨ja, jc, none, 0⟩ (by rw [hw8]; unfold grant dcell; simp only [HLE.out]; rfl) K8.out rfl (by rw [← HSK.out, setK_tx]; exact HND.out) ⟨by unfold grant; simp only [HLE.out]; exact LJ7.out, Lies.nil _ _ _⟩)
                have HR8 := hid ((K8.out.block kb (row_lt HJS.out) HGK.out).trans HJS.out)
                have G8 := hid (((STV.out.g.kept K7.out (fun b hb e => by have := HST.out.g.lt hb; have := HKW.out; omega)).kept K8.out (fun b hb e => by have := (HST.out.n b hb).1; have := HW0.out.2 g rfl; omega)))
                have hs2 : S.2.length ≤ k := by rw [← HSK.out]; exact setK_cnt L k
                obtain ⟨m2, hm2⟩ : ∃ m2, S.2.length = m2 := ⟨_, rfl⟩
                have HM2 := hid hm2
                rw [hm2] at G8 hs2
                rw [hm2]
                have HT := hid (show (S.2 ++ [(t1, t2, t3)]).flatMap encT = S.2.flatMap encT ++ encT (t1, t2, t3) by simp)
                clear hw8 hk8 u0 u1 u2 u3 u4 u5 u6 x7 hm2
                obtain ⟨u0, u1, u2, _, _, _, _⟩ := cells7 HR8.out
                go_wp2_with (at_builtin; refine wpList_app rfl _ _ 27 rfl 32 (txv (0, 0, 0)) 3 12 Try.underlying27 infoT rfl (by decide) (.slice ga m2 gc) m2 _ rfl (by exact G8.out.alloc _) _ rfl 1 _ (tx_src _ t1 t2 t3 rfl) (by unfold maxLen; omega) (by omega) ?_; intro ga2 gc2 w9 ho3 hk3 hf3 _; have HA9 := hid ho3; have HK9 := hid hk3; have HF9 := hid hf3; clear ho3 hk3 hf3)
                have k89 : Kept (fun i => (Value.slice ga m2 gc).ownBlock = some i) w8 w9 := ((Kept.refl _ w8).alloc _).trans HK9.out
                have hgn : ∀ i, (Value.slice ga m2 gc).ownBlock = some i → w.heap.size ≤ i ∧ i < wr.heap.size ∧ ¬ D' i := fun i h => by
                  rw [← HM2.out] at h
                  exact ⟨(HST.out.n i h).1, HST.out.g.lt h, (HST.out.n i h).2⟩
                have hne : ∀ i, (Value.slice ga m2 gc).ownBlock = some i → ¬ E i := fun i h h2 => ((HE.out i).1 h2).elim (hgn i h).2.2 (fun h3 => by have := (hgn i h).2.1; have := HSZ.out; omega)
                have hnew : ∀ b, (Value.slice ga2 (m2 + 1) gc2).ownBlock = some b → w.heap.size ≤ b ∧ ¬ E b := fun b hb => by
                  rcases HF9.out b hb with h | h
                  · exact ⟨(hgn b h).1, hne b h⟩
                  · have h8 := K8.out.size
                    simp at h
                    refine ⟨by have := HSZ.out; omega, fun h2 => ((HE.out b).1 h2).elim (fun h3 => ?_) (fun h3 => ?_)⟩
                    · have := HST.out.t.new b h3
                      have := HSZ.out
                      omega
                    · omega
                have hln : (S.2 ++ [((t1, t2, t3) : Tx)]).length = m2 + 1 := by rw [List.length_append, HM2.out]; rfl
                have ST9 := hid (show StD D w xb (.slice (some ⟨g, 0, none⟩) L.length c) (S.1.set k (grant ⟨(t1, t2, t3), age, olk, ows, of⟩), S.2 ++ [(t1, t2, t3)]) ga2 gc2 E (updR R' (t1, t2, t3) ⟨ja, jc, none, 0⟩) w9 from by
                  refine ⟨T8.out.kept k89 (fun h => ?_) (fun b hb h => ?_) (fun i h => hne i h), ?_, fun b hb => ?_, fun i hi => (HE.out i).2 (.inl (HST.out.d i hi)), fun i hi => ?_, ?_⟩
                  · have := (hgn _ h).1
                    have := HW0.out.1
                    omega
                  · have := (hgn _ h).1
                    have := HW0.out.2 b hb
                    omega
                  · show Own w9 32 3 (.slice ga2 (S.2 ++ [((t1, t2, t3) : Tx)]).length gc2) (S.2 ++ [((t1, t2, t3) : Tx)]).length ((S.2 ++ [((t1, t2, t3) : Tx)]).flatMap encT)
                    rw [hln, HT.out]
                    exact HA9.out
                  · have hb' : (Value.slice ga2 (S.2 ++ [((t1, t2, t3) : Tx)]).length gc2).ownBlock = some b := hb
                    rw [hln] at hb'
                    exact hnew b hb'
                  · rcases (HE.out i).1 hi with h | h
                    · exact HST.out.e i h
                    · exact .inr (by have := HSZ.out; omega)
                  · refine ((STV.out.k.trans' K7.out (fun i e => .inr ?_)).trans' K8.out (fun i e => .inl ?_)).trans' k89 (fun i h => .inr (hgn i h).1)
                    · have := HSZ.out; have := HKW.out; omega
                    · rw [e]; rfl)
                clear k89 hgn hne hnew hln
                go_roundw
                case rel =>
                  refine ⟨k + 1, _, E, _, ga2, gc2, ?_, by go_num, by omega, ?_, ST9.out⟩
                  · show _ = Value.slice ga2 (S.2 ++ [((t1, t2, t3) : Tx)]).length gc2
                    rw [List.length_append, HM2.out]
                    rfl
                  · show stepS (setK L k) k = _
                    rw [HSK.out]
                    exact HYES.out
                case measure => (simp only [RowKit.intOf]; omega)
    · obtain rfl : k = n := by omega
      have HSE := hid (show settled L = S by rw [← HSK.out, ← HN.out]; rfl)
      go_wp2
      go_ret
      rw [HSE.out]
      exact ⟨D', R', ga, gc, rfl, HN.out ▸ HST.out⟩
end
end Go.Proofs.Ytpjhdpfaogdboaa
/- The document: DocHold, DocRelease. -/
namespace Go.Proofs.Ytpjhdpfaogdboaa
set_option linter.unusedSimpArgs false
set_option linter.unusedVariables false
open Go.RowKit
/-- what a call of the document does to its table -/
structure DGo (D : Nat → Prop) (w : World) (xb : Nat) (v : Value) (D' : Nat → Prop) (w' : World) (v' : Value) (M : List Ow) (R' : Tx → Rw) : Prop where
  t : DT D' w' xb v' M R'
  d : ∀ i, D' i → D i ∨ w.heap.size ≤ i
  o : ∀ b, v'.ownBlock = some b → v.ownBlock = some b ∨ w.heap.size ≤ b
  k : Kept (fun i => i = xb ∨ v.ownBlock = some i) w w'
theorem DGo.refl {D : Nat → Prop} {w : World} {xb : Nat} {v : Value} {L : List Ow} {R : Tx → Rw} (h : DT D w xb v L R) : DGo D w xb v D w v L R := ⟨h, fun _ h => .inl h, fun _ h => .inl h, Kept.refl _ _⟩
theorem DGo.trans {D D1 D2 : Nat → Prop} {w w1 w2 : World} {xb : Nat} {v v1 v2 : Value} {L M : List Ow} {R1 R2 : Tx → Rw} (h : DGo D w xb v D1 w1 v1 L R1) (h2 : DGo D1 w1 xb v1 D2 w2 v2 M R2) : DGo D w xb v D2 w2 v2 M R2 :=
  ⟨h2.t, fun i hi => (h2.d i hi).elim (h.d i) (fun h3 => .inr (Nat.le_trans h.k.size h3)), fun b hb => (h2.o b hb).elim (h.o b) (fun h3 => .inr (Nat.le_trans h.k.size h3)), h.k.trans' h2.k (fun i hi => hi.elim (fun e => .inl (.inl e)) (fun e => (h.o i e).elim (fun e => .inl (.inr e)) .inr))⟩
theorem DGo.same {D D1 : Nat → Prop} {w w1 w2 : World} {xb : Nat} {v v1 : Value} {L : List Ow} {R1 : Tx → Rw} (h : DGo D w xb v D1 w1 v1 L R1) (k : Kept (fun _ => False) w1 w2) : DGo D w xb v D1 w2 v1 L R1 :=
  ⟨h.t.same k, h.d, h.o, h.k.trans (k.mono (fun _ _ h => h.elim))⟩
theorem DGo.pre {D D1 : Nat → Prop} {w0 w w1 : World} {xb : Nat} {v v1 : Value} {L : List Ow} {R1 : Tx → Rw} (h : DGo D w xb v D1 w1 v1 L R1) (k : Kept (fun _ => False) w0 w) : DGo D w0 xb v D1 w1 v1 L R1 :=
  ⟨h.t, fun i hi => (h.d i hi).imp id (Nat.le_trans k.size), fun b hb => (h.o b hb).imp id (Nat.le_trans k.size), (k.mono (fun _ _ h => h.elim)).trans h.k⟩
theorem StD.go {D D' : Nat → Prop} {w wr : World} {xb : Nat} {v : Value} {S : List Ow × List Tx} {ga : Option Addr} {gc : Nat} {R' : Tx → Rw} (h : StD D w xb v S ga gc D' R' wr) : DGo D w xb v D' wr v S.1 R' :=
  ⟨h.t, h.e, fun _ h => .inl h, h.k.mono (fun _ _ h => .inr h)⟩
theorem updR_same {R : Tx → Rw} {t : Tx} : updR R t (R t) = R := by
  funext u
  unfold updR
  split
  · rename_i e; rw [e]
  · rfl
theorem dcells_fast {R : Tx → Rw} {L : List Ow} {k : Nat} {o : Ow} (hk : L[k]? = some o) (hn : (L.map (·.tx)).Nodup) : dcells R (L.set k { o with fast := true }) = (dcells R L).set (k * 7 + 6) (.bool true) := by
  have h1 := dcells_set (R := R) (o' := { o with fast := true }) (R o.tx) hk rfl hn
  have h2 := dcells_set (R := R) (o' := o) (R o.tx) hk rfl hn
  obtain ⟨k1, k2⟩ := List.getElem?_eq_some_iff.1 hk
  have h3 : L.set k o = L := by rw [← k2]; exact List.set_getElem_self k1
  rw [updR_same] at h1 h2
  rw [h3] at h2
  have hl : ((dcells R L).take (k * 7)).length = k * 7 := by rw [List.length_take, dcells_len]; omega
  rw [h1]
  conv => rhs; rw [h2]
  rw [List.append_assoc, List.append_assoc, List.set_append_right _ _ (by omega), hl, show k * 7 + 6 - k * 7 = 6 by omega]
  rfl
theorem fast_set {L : List Ow} {k : Nat} {o : Ow} {t : Tx} (hk : L[k]? = some o) (ht : o.tx = t) (hn : (L.map (·.tx)).Nodup) : L.map (fastO t) = L.set k { o with fast := true } := by
  apply List.ext_getElem?
  intro j
  rw [List.getElem?_map, List.getElem?_set]
  by_cases e : k = j
  · subst e
    rw [if_pos rfl, if_pos (List.getElem?_eq_some_iff.1 hk).1, hk]
    simp [fastO, ht]
  · rw [if_neg e]
    cases hj : L[j]? with
    | none => rfl
    | some x =>
      have : x.tx ≠ t := fun e2 => e (nodup_at hn hk hj (ht.trans e2.symm))
      simp [fastO, this]
section
variable {D : Nat → Prop} {w w' : World} {xb : Nat} {v : Value} {L : List Ow} {R : Tx → Rw}
set_option maxRecDepth 100000 in
set_option maxHeartbeats 2000000 in
theorem dhold_any (h : DT D w xb v L R) (hn : (L.map (·.tx)).Nodup) (t1 t2 t3 : Int) :
    Calls Try.prog 35 #[.pointer (some ⟨xb, 0, none⟩), .agg #[.int .u8 t1, .int .u32 t2, .int .u32 t3]] w fun e w' => e = .returned (.int .i64 (holdE L (t1, t2, t3))) ∧ DGo D w xb v D w' v (holdP L (t1, t2, t3)) R := by
  have hk1 := (Kept.refl (fun _ => False) w).alloc (.cells #[.int .u8 t1, .int .u32 t2, .int .u32 t3] 32)
  have hkb := row_new w (.cells #[.int .u8 t1, .int .u32 t2, .int .u32 t3] 32)
  obtain ⟨z0, z1, z2⟩ := cells3 hkb
  obtain ⟨w1, hw1⟩ : ∃ w1, w.alloc (.cells #[.int .u8 t1, .int .u32 t2, .int .u32 t3] 32) = w1 := ⟨_, rfl⟩
  obtain ⟨kb, hkb'⟩ : ∃ kb, w.heap.size = kb := ⟨_, rfl⟩
  rw [hw1] at hk1 hkb
  rw [hkb'] at hkb
  have KB := hid hkb; have K1 := hid hk1
  have HW1 := hid hw1; have HKB := hid hkb'
  clear hk1 hkb hw1 hkb'
  have H1 := hid (h.same K1.out)
  have HND := hid hn
  go_enter Try.func35, Try.ntmps35
  go_wp2_with fail
  try rw [HW1.out]
  try rw [HKB.out]
  refine (find_any H1.out t1 t2 t3).mono ?_
  rintro e w2 ⟨rfl, hk2⟩
  have H2 := hid (H1.out.same hk2)
  have K2 := hid (K1.out.trans hk2)
  have G2 := hid (((DGo.refl h).same K1.out).same hk2)
  clear z0 z1 z2 h hk2
  rcases fixO_find hn (t1, t2, t3) with ⟨hf, he⟩ | ⟨k, o, hk, hf, ht, he⟩
  · rw [he]
    have HX := hid (show holdE L (t1, t2, t3) = 6 ∧ holdP L (t1, t2, t3) = L from by unfold holdP holdE; rw [hf]; exact ⟨rfl, rfl⟩)
    clear he hf hn
    go_wp2
    go_ret
    exact ⟨ret_int HX.out.1.symm, by rw [HX.out.2]; exact G2.out⟩
  · rw [he]
    have HK := hid hk; have HT := hid ht
    have hkl := (List.getElem?_eq_some_iff.1 hk).1
    obtain ⟨a, c, hv, hc1, hc2⟩ := H2.out.slice
    obtain ⟨g, c', hv2, _, _, _, _, _, o5, o6⟩ := H2.out.owner hk
    subst hv
    simp only [Value.slice.injEq] at hv2
    obtain ⟨rfl, _, rfl⟩ := hv2
    have x0 := H2.out.cell
    obtain ⟨n, hN⟩ : ∃ n, L.length = n := ⟨_, rfl⟩
    have HN := hid hN
    rw [hN] at hkl x0 hc1
    have hkI : (k : Int) < (n : Int) := by omega
    obtain ⟨q, hq⟩ : ∃ q, o.ws.length = q := ⟨_, rfl⟩
    rw [hq] at o5
    have hnn : ¬ (k : Int) < 0 := by omega
    by_cases hw : 0 < q
    · have hwI : 0 < (q : Int) := by omega
      have HX := hid (show holdE L (t1, t2, t3) = 9 ∧ holdP L (t1, t2, t3) = L from by
        have h0 : holdE L (t1, t2, t3) = 9 := by unfold holdE; rw [hf]; simp [hq, hw]
        exact ⟨h0, by unfold holdP; rw [h0]; rfl⟩)
      clear he hf hn hk ht hq o6 hN
      go_wp2
      go_ret
      exact ⟨ret_int HX.out.1.symm, by rw [HX.out.2]; exact G2.out⟩
    · have hwI : ¬ 0 < (q : Int) := by omega
      have HX := hid (show holdE L (t1, t2, t3) = 0 ∧ holdP L (t1, t2, t3) = L.set k { o with fast := true } from by
        have h0 : holdE L (t1, t2, t3) = 0 := by unfold holdE; rw [hf]; simp [hq, hw]
        exact ⟨h0, by unfold holdP; rw [if_pos h0]; exact fast_set hk ht hn⟩)
      have hfr := H2.out.row.free (g := g) rfl (k * 7 + 6)
      have HGX := hid (show g ≠ xb from fun e => by
        obtain ⟨cur, h1⟩ := H2.out.row.block (g := g) rfl
        have h2 := H2.out.obj
        rw [← e, h1] at h2
        simp at h2)
      clear he hf hn hk ht hq hN
      go_wp2
      go_ret
      have KS : Kept (fun i => i = g) w2 (w2.setCell ⟨g, k * 7 + 6, none⟩ (.bool true)) := (Kept.refl (fun i => i = g) w2).setCell (p := ⟨g, k * 7 + 6, none⟩) (.inl rfl) _
      refine ⟨ret_int HX.out.1.symm, ?_⟩
      rw [HX.out.2]
      refine G2.out.trans ⟨⟨?_, ?_, ?_, H2.out.nx, H2.out.ng, fun i hi => Nat.lt_of_lt_of_le (H2.out.new i hi) KS.size⟩, fun _ h => .inl h, fun _ h => .inl h, KS.mono (fun i _ e => by rw [e]; exact .inr rfl)⟩
      · exact (KS.block xb (row_lt H2.out.obj) (fun e => HGX.out e.symm)).trans H2.out.obj
      · rw [List.length_set, dcells_fast HK.out HND.out]
        exact H2.out.row.set (g := g) rfl _ _
      · intro x hx
        have hgd : ∀ i, i = g → ¬ D i := fun i e => by rw [e]; exact H2.out.ng g rfl
        rcases List.mem_or_eq_of_mem_set hx with h1 | rfl
        · exact (H2.out.lst x h1).kept KS hgd
        · have h1 := (H2.out.lst o (List.mem_of_getElem? HK.out)).kept KS hgd
          exact ⟨h1.l, h1.w⟩
set_option maxRecDepth 100000 in
set_option maxHeartbeats 2000000 in
theorem drel_any (h : DT D w xb v L R) (hL : L.length ≤ 100000) (hn : (L.map (·.tx)).Nodup) (hok : ∀ o ∈ L, OkO o) (t1 t2 t3 : Int) :
    Calls Try.prog 36 #[.pointer (some ⟨xb, 0, none⟩), .agg #[.int .u8 t1, .int .u32 t2, .int .u32 t3]] w fun e w' => ∃ u D' v' R', e = .returned (.tuple #[u, .int .i64 0]) ∧ Txs w w' u (relG L (t1, t2, t3)) ∧ (∀ b, u.ownBlock = some b → ¬ D' b) ∧ DGo D w xb v D' w' v' (relP L (t1, t2, t3)) R' := by
  have hk1 := (Kept.refl (fun _ => False) w).alloc (.cells #[.int .u8 t1, .int .u32 t2, .int .u32 t3] 32)
  have hkb := row_new w (.cells #[.int .u8 t1, .int .u32 t2, .int .u32 t3] 32)
  obtain ⟨z0, z1, z2⟩ := cells3 hkb
  obtain ⟨w1, hw1⟩ : ∃ w1, w.alloc (.cells #[.int .u8 t1, .int .u32 t2, .int .u32 t3] 32) = w1 := ⟨_, rfl⟩
  obtain ⟨kb, hkb'⟩ : ∃ kb, w.heap.size = kb := ⟨_, rfl⟩
  rw [hw1] at hk1 hkb
  rw [hkb'] at hkb
  have KB := hid hkb; have K1 := hid hk1
  have HW1 := hid hw1; have HKB := hid hkb'
  clear hk1 hkb hw1 hkb'
  have H1 := hid (h.same K1.out)
  have HND := hid hn; have HLL := hid hL; have HOK := hid hok
  go_enter Try.func36, Try.ntmps36
  go_wp2_with fail
  try rw [HW1.out]
  try rw [HKB.out]
  refine (find_any H1.out t1 t2 t3).mono ?_
  rintro e w2 ⟨rfl, hk2⟩
  have H2 := hid (H1.out.same hk2)
  have K2 := hid (K1.out.trans hk2)
  have G2 := hid (((DGo.refl h).same K1.out).same hk2)
  have hkb2 := hid ((hk2.block kb (row_lt KB.out) id).trans KB.out)
  clear z0 z1 z2 h hk2 hL hok
  rcases fixO_find hn (t1, t2, t3) with ⟨hf, he⟩ | ⟨k, o, hk, hf, ht, he⟩
  · rw [he]
    have HX := hid (show relG L (t1, t2, t3) = [] ∧ relP L (t1, t2, t3) = L from by unfold relG relP; rw [hf]; exact ⟨rfl, rfl⟩)
    clear he hf hn
    go_wp2
    go_returns
    rw [HX.out.1, HX.out.2]
    exact ⟨_, D, v, R, rfl, Txs.nil _ _, fun b hb => by simp [Value.ownBlock] at hb, G2.out⟩
  · rw [he]
    have hnn : ¬ (k : Int) < 0 := by omega
    have HX := hid (show relG L (t1, t2, t3) = (settled (dropO L (t1, t2, t3))).2 ∧ relP L (t1, t2, t3) = (settled (dropO L (t1, t2, t3))).1 from by unfold relG relP; rw [hf]; exact ⟨rfl, rfl⟩)
    clear he hf hn hk ht
    obtain ⟨z0, z1, z2⟩ := cells3 hkb2.out
    go_wp2_with fail
    refine (drop_any H2.out HLL.out t1 t2 t3).mono ?_
    rintro e w3 ⟨rfl, v3, ht3, hv3, hk3⟩
    have G3 := hid (G2.out.trans (⟨ht3, fun _ h => .inl h, fun b hb => .inr (hv3 b hb), hk3.mono (fun _ _ e => .inl e)⟩ : DGo D w2 xb v D w3 v3 (dropO L (t1, t2, t3)) R))
    have hl3 : (dropO L (t1, t2, t3)).length ≤ 100000 := Nat.le_trans (List.length_filter_le _ _) HLL.out
    have hset := hid (dsettle_any ht3 hl3 (List.Nodup.sublist (List.Sublist.map _ List.filter_sublist) HND.out) (fun o ho => HOK.out o (mem_dropO.1 ho).1))
    clear ht3 hv3 hk3 z0 z1 z2 hl3
    go_wp2_with fail
    refine hset.out.mono ?_
    rintro e w4 ⟨D', R', ga, gc, rfl, hst⟩
    have HST := hid hst
    clear hst hset
    go_wp2
    go_returns
    rw [HX.out.1, HX.out.2]
    exact ⟨_, D', v3, R', rfl, ⟨ga, gc, rfl, HST.out.g, fun b hb => Nat.le_trans G3.out.k.size (HST.out.n b hb).1⟩, fun b hb => (HST.out.n b hb).2, G3.out.trans HST.out.go⟩
end
end Go.Proofs.Ytpjhdpfaogdboaa
/- The document: DocAsk. -/
namespace Go.Proofs.Ytpjhdpfaogdboaa
set_option linter.unusedSimpArgs false
set_option linter.unusedVariables false
open Go.RowKit
theorem older_is (w : World) (x y : Ow) (r s : Rw) {b : Bool} (hb : decide (ltO x.key y.key) = b) {c d : Array Value} (hc : c = (dcell x r).toArray) (hd : d = (dcell y s).toArray) :
    Calls Try.prog 56 #[.agg c, .agg d] w fun e w' => e = .returned (.bool b) ∧ Kept (fun _ => False) w w' := by
  subst hc hd
  exact older_any w x y r s hb
theorem hurtS_all (L : List Ow) (o : Ow) (ws : List Wt) : hurtS L o ws L.length = (L.filter (hurt o ws)).map (·.tx) := by unfold hurtS; rw [List.take_length]
theorem remS_len (L : List Ow) (S : List Tx) : (remS L S).length ≤ L.length := List.length_filter_le _ _
-- $1: what the round does when x isn't wounded; the world behind is $1
section
variable {D : Nat → Prop} {w w' : World} {xb : Nat} {v : Value} {L : List Ow} {R : Tx → Rw}
theorem lay_is (h : DT D w xb v L R) (hL : L.length ≤ 100000) {oX : Ow} {rX : Rw} (hox : OwD D w oX rX) {c : Array Value} (hc : c = (dcell oX rX).toArray) :
    Calls Try.prog 58 #[.pointer (some ⟨xb, 0, none⟩), .agg c] w fun e w' => e = .returned (.tuple #[]) ∧ ∃ v', DT D w' xb v' (layO L oX) (updR R oX.tx rX) ∧ (∀ b, v'.ownBlock = some b → w.heap.size ≤ b) ∧ Kept (fun i => i = xb) w w' := by
  subst hc
  exact lay_any h hL hox
set_option maxRecDepth 100000 in
set_option maxHeartbeats 8000000 in
theorem dask_any (h : DT D w xb v L R) (hL : L.length ≤ 90000) (hI : Inv0 L) (hcn : cnt L ≤ 1000000) {a : Option Addr} {c : Nat} {ws : List Wt} (hl : Lies (fun i => i = xb ∨ v.ownBlock = some i) w 2 (.slice a ws.length c) ws.length (wcells ws)) (t1 t2 t3 age : Int) :
    Calls Try.prog 34 #[.pointer (some ⟨xb, 0, none⟩), .agg #[.int .u8 t1, .int .u32 t2, .int .u32 t3], .int .u64 age, .slice a ws.length c] w fun e w' => ∃ u1 u2 D' v' R', e = .returned (.tuple #[u1, u2, .int .i64 (stO L (t1, t2, t3) age ws)]) ∧ Txs w w' u1 (askG L (t1, t2, t3) age ws) ∧ Txs w w' u2 (askD L (t1, t2, t3) age ws) ∧ (∀ b, (u1.ownBlock = some b ∨ u2.ownBlock = some b) → ¬ D' b) ∧ DGo D w xb v D' w' v' (askP L (t1, t2, t3) age ws) R' := by
  have hk1 := (Kept.refl (fun _ => False) w).alloc (.cells #[.int .u8 t1, .int .u32 t2, .int .u32 t3] 32)
  have hkb := row_new w (.cells #[.int .u8 t1, .int .u32 t2, .int .u32 t3] 32)
  obtain ⟨z0, z1, z2⟩ := cells3 hkb
  obtain ⟨w1, hw1⟩ : ∃ w1, w.alloc (.cells #[.int .u8 t1, .int .u32 t2, .int .u32 t3] 32) = w1 := ⟨_, rfl⟩
  obtain ⟨kb, hkb'⟩ : ∃ kb, w.heap.size = kb := ⟨_, rfl⟩
  rw [hw1] at hk1 hkb
  rw [hkb'] at hkb
  have KB := hid hkb; have K1 := hid hk1
  have HW1 := hid hw1; have HKB := hid hkb'
  clear hk1 hkb hw1 hkb'
  have H0 := hid h
  have HLL := hid hL; have HND := hid hI.nod; have HI := hid hI; have HCN := hid hcn
  obtain ⟨W9, hw9⟩ : ∃ n, ws.length = n := ⟨_, rfl⟩
  have HW9 := hid hw9
  rw [hw9] at hl ⊢
  obtain ⟨hm1, hm2⟩ := cap_of hl
  unfold maxLen at hm2
  have LW1 := hid (hl.same K1.out); have LW0 := hid hl
  clear h hL hI hcn hl hw9
  go_enter Try.func34, Try.ntmps34
  go_wp2_with fail
  try rw [HW1.out]
  try rw [HKB.out]
  refine (chkR_any LW1.out HW9.out).mono ?_
  rintro e w2 ⟨rfl, hk2⟩
  have K2 := hid (K1.out.trans hk2)
  have LW2 := hid (LW1.out.same hk2)
  have KB2 := hid ((hk2.block kb (row_lt KB.out) id).trans KB.out)
  obtain ⟨cz, hcz⟩ : ∃ cz, chkW ws = cz := ⟨_, rfl⟩
  have HCZ := hid hcz
  rw [hcz]
  clear z0 z1 z2 hk2 hcz
  by_cases hz : cz = 0
  · subst hz
    have HWL := hid (show W9 ≤ 40 from by rw [← HW9.out]; exact (chkW_ok HCZ.out).2.1)
    obtain ⟨z0, z1, z2⟩ := cells3 KB2.out
    have k3 := (Kept.refl (fun _ => False) w2).alloc (onRow t1 t2 t3 age none 0 0 none 0 0 false)
    have hob := row_new w2 (onRow t1 t2 t3 age none 0 0 none 0 0 false)
    have y0 := k3.cell z0 id
    have y1 := k3.cell z1 id
    have y2 := k3.cell z2 id
    obtain ⟨w3, hw3⟩ : ∃ w3, w2.alloc (onRow t1 t2 t3 age none 0 0 none 0 0 false) = w3 := ⟨_, rfl⟩
    obtain ⟨ob, hob'⟩ : ∃ ob, w2.heap.size = ob := ⟨_, rfl⟩
    rw [hw3] at k3 hob
    rw [hob'] at hob
    have OB3 := hid hob; have K3 := hid (K2.out.trans k3)
    have KB3 := hid ((k3.block kb (row_lt KB2.out) id).trans KB2.out)
    have LW3 := hid (LW2.out.same k3)
    have HOBW := hid (show w.heap.size ≤ ob by rw [← hob']; exact K2.out.size)
    unfold onRow at hw3 y0 y1 y2
    have HW3 := hid hw3; have HOBE := hid hob'
    have HKO := hid (show kb < ob by rw [← hob']; exact row_lt KB2.out)
    clear k3 hob hw3 hob'
    go_wp2_with fail
    try rw [HW3.out]
    try rw [HOBE.out]
    clear y0 y1 y2 z0 z1 z2
    refine (find_any (H0.out.same K3.out) t1 t2 t3).mono ?_
    rintro e w4 ⟨rfl, hk4⟩
    have K4 := hid (K3.out.trans hk4)
    have KBQ := hid ((hk4.block kb (row_lt KB3.out) id).trans KB3.out)
    have OB4 := hid ((hk4.block ob (row_lt OB3.out) id).trans OB3.out)
    have LW4 := hid (LW3.out.same hk4)
    have HT4 := hid (H0.out.same K4.out)
    clear hk4
    rcases fixO_find HND.out (t1, t2, t3) with ⟨hf, he⟩ | ⟨k, o, hk, hf, ht, he⟩
    · rw [he]
      have HWHO := hid (show whoO L (t1, t2, t3) age = ⟨(t1, t2, t3), age, [], [], false⟩ by unfold whoO; rw [hf]; rfl)
      have HSTO := hid (show stO L (t1, t2, t3) age ws = if 256 < cnt L + ws.length then 10 else 0 by
        unfold stO
        rw [HCZ.out, HWHO.out, if_neg (by simp), if_neg (by simp)])
      have HTQ := HT4; have KQ := K4; have HOB := OB4; have LWQ := LW4
      have LKQ := hid (Lies.nil (fun i => ¬ D i) w4 2)
      obtain ⟨lk, hlk⟩ : ∃ lk : List Wt, lk = [] := ⟨_, rfl⟩
      obtain ⟨la, hla⟩ : ∃ la : Option Addr, la = none := ⟨_, rfl⟩
      obtain ⟨wa, hwa⟩ : ∃ la : Option Addr, la = none := ⟨_, rfl⟩
      obtain ⟨lc, hlc⟩ : ∃ c : Nat, c = 0 := ⟨_, rfl⟩
      obtain ⟨wc, hwc⟩ : ∃ c : Nat, c = 0 := ⟨_, rfl⟩
      have HWHO := hid (show whoO L (t1, t2, t3) age = ⟨(t1, t2, t3), age, lk, [], false⟩ by rw [hlk]; exact HWHO.out)
      have LKQ := hid (show Lies (fun i => ¬ D i) w4 2 (.slice la lk.length lc) lk.length (wcells lk) by rw [hla, hlk, hlc]; exact LKQ.out)
      have HOB := hid (show w4.heap[ob]? = some (onRow t1 t2 t3 age la lk.length lc wa 0 wc false) by rw [hla, hlk, hlc, hwa, hwc]; exact HOB.out)
      clear hlk hla hwa hlc hwc hf he
      go_wp2_with fail
      refine (dcount_any HTQ.out HCN.out).mono ?_
      rintro e w5 ⟨rfl, hk5⟩
      have HT5 := hid (HTQ.out.same hk5); have K5 := hid (KQ.out.trans hk5)
      have OB5 := hid ((hk5.block ob (row_lt HOB.out) id).trans HOB.out)
      have KB5 := hid ((hk5.block kb (row_lt KBQ.out) id).trans KBQ.out)
      have LK5 := hid (LKQ.out.same hk5)
      have LW5 := hid (LWQ.out.same hk5)
      have HOW := hid (show w.heap.size ≤ ob from HOBW.out)
      obtain ⟨cn, hcn⟩ : ∃ cn, cnt L = cn := ⟨_, rfl⟩
      have HCN2 := hid hcn
      rw [hcn]
      have hcn9 : cn ≤ 1000000 := by rw [← hcn]; exact HCN.out
      have hw40 := HWL.out
      clear hk5 hcn
      by_cases hfull : 256 < cn + W9
      · have hfI : 256 < (cn : Int) + (W9 : Int) := by omega
        have HS9 := hid (show stO L (t1, t2, t3) age ws = 10 by rw [HSTO.out, HCN2.out, HW9.out, if_pos hfull])
        have HAG := hid (show askG L (t1, t2, t3) age ws = [] ∧ askD L (t1, t2, t3) age ws = [] ∧ askP L (t1, t2, t3) age ws = L by unfold askG askD askP; rw [HS9.out]; exact ⟨rfl, rfl, rfl⟩)
        clear hfull
        go_wp2
        go_returns
        rw [HS9.out, HAG.out.1, HAG.out.2.1, HAG.out.2.2]
        exact ⟨_, _, D, v, R, rfl, Txs.nil _ _, Txs.nil _ _, fun b hb => by simp [Value.ownBlock] at hb, (DGo.refl H0.out).same K5.out⟩
      · have hfI : ¬ 256 < (cn : Int) + (W9 : Int) := by omega
        have HS9 := hid (show stO L (t1, t2, t3) age ws = 0 by rw [HSTO.out, HCN2.out, HW9.out, if_neg hfull])
        obtain ⟨va, vc, hvv, hvc1, hvc2⟩ := HT5.out.slice
        have x0 := HT5.out.cell
        obtain ⟨n, hN⟩ : ∃ n, L.length = n := ⟨_, rfl⟩
        have HN := hid hN
        have hLn : n ≤ 90000 := by rw [← hN]; exact HLL.out
        rw [hvv, hN] at x0
        rw [hN] at hvc1
        unfold maxLen at hvc2
        have HVV := hid hvv
        clear hfull hvv hN
        go_wp2_with fail
        clear x0
        go_loopw [14, 66] (fun l i wr => ∃ (k : Nat) (S : List Tx) (da : Option Addr) (dc : Nat), l = .slice da S.length dc ∧ i = .int .i64 k ∧ k ≤ n ∧ hurtS L ⟨(t1, t2, t3), age, lk, [], false⟩ ws k = S ∧ Own wr 32 3 (.slice da S.length dc) S.length (S.flatMap encT) ∧ (∀ b, (Value.slice da S.length dc).ownBlock = some b → w5.heap.size ≤ b) ∧ Kept (fun _ => False) w5 wr) (fun _ i _ => n - (RowKit.intOf i).toNat)
        case atStart => exact ⟨0, [], none, 0, rfl, rfl, Nat.zero_le _, rfl, Own.nil _ _ _, fun b h => by simp [Value.ownBlock] at h, Kept.refl _ _⟩
        case round =>
          rename World => wr
          obtain ⟨k, S, da, dc, rfl, rfl, hk, hs, ho, hn9, hkr⟩ := hrel
          have KR := hid hkr; have HSS := hid hs; have SO := hid ho; have SB := hid hn9
          have HR := hid (HT5.out.same hkr)
          have hsl : S.length ≤ n := by have := hurtS_len L ⟨(t1, t2, t3), age, lk, [], false⟩ ws k; rw [hs] at this; omega
          clear hkr hs ho hn9
          by_cases hlt : k < n
          · have hltI : (k : Int) < (n : Int) := by omega
            obtain ⟨x, hx⟩ : ∃ o, L[k]? = some o := ⟨_, List.getElem?_eq_getElem (by rw [HN.out]; exact hlt)⟩
            have HST9 := hid (hurtS_step (o := ⟨(t1, t2, t3), age, lk, [], false⟩) (ws := ws) hx)
            obtain ⟨g, c', hv, o0, o1, o2, o3, o4, o5, o6⟩ := HR.out.owner hx
            rw [HVV.out] at hv
            simp only [Value.slice.injEq] at hv
            obtain ⟨rfl, _, rfl⟩ := hv
            have HX := hid hx
            have hlx := HR.out.lst _ (List.mem_of_getElem? hx)
            obtain ⟨⟨y1, y2, y3⟩, xa, xlk, xws, xf⟩ := x
            simp only at o0 o1 o2 o3 o4 o5 o6
            obtain ⟨r1, r2, p3, p4⟩ : ∃ r1 r2, (R (y1, y2, y3)).la = r1 ∧ (R (y1, y2, y3)).lc = r2 := ⟨_, _, rfl, rfl⟩
            obtain ⟨s1, s2, p5, p6⟩ : ∃ r1 r2, (R (y1, y2, y3)).wa = r1 ∧ (R (y1, y2, y3)).wc = r2 := ⟨_, _, rfl, rfl⟩
            have LXL := hid (show Lies (fun i => ¬ D i) wr 2 (.slice r1 xlk.length r2) xlk.length (wcells xlk) from by rw [← p3, ← p4]; exact hlx.l)
            rw [p3, p4] at o4
            rw [p5, p6] at o5
            obtain ⟨z0, z1, z2, z3, z4, z5, z6⟩ := cells7 (row_new wr (onRow y1 y2 y3 xa r1 xlk.length r2 s1 xws.length s2 xf))
            have k3 : Kept (fun _ => False) wr (wr.alloc (onRow y1 y2 y3 xa r1 xlk.length r2 s1 xws.length s2 xf)) := (Kept.refl _ _).alloc _
            obtain ⟨d0, d1, d2⟩ := cells3 ((k3.block kb (by have := row_lt KB5.out; have := KR.out.size; omega) id).trans ((KR.out.block kb (row_lt KB5.out) id).trans KB5.out))
            obtain ⟨e0, e1, e2, e3, e4, e5, e6⟩ := cells7 ((k3.block ob (by have := row_lt OB5.out; have := KR.out.size; omega) id).trans ((KR.out.block ob (row_lt OB5.out) id).trans OB5.out))
            unfold onRow at z0 z1 z2 z3 z4 z5 z6 d0 d1 d2 e0 e1 e2 e3 e4 e5 e6
            have K3 := hid k3
            unfold onRow at K3
            have hne := fun W => tx_ne (y1, y2, y3) (t1, t2, t3) W
            unfold txv at hne
            clear hx hlx p3 p4 p5 p6 k3
            by_cases e : ((y1, y2, y3) : Tx) = (t1, t2, t3)
            · have HHU := hid (show hurt ⟨(t1, t2, t3), age, lk, [], false⟩ ws ⟨(y1, y2, y3), xa, xlk, xws, xf⟩ = false by simp [hurt, e])
              have HSN := hid (show hurtS L ⟨(t1, t2, t3), age, lk, [], false⟩ ws (k + 1) = S by rw [HST9.out, HSS.out, HHU.out]; simp)
              simp only [e, decide_true, Bool.not_true] at hne
              clear e
              go_wp2
              go_roundw
              case rel => exact ⟨k + 1, S, da, dc, rfl, by go_num, by omega, HSN.out, SO.out.kept (K3.out) (fun _ _ => id), SB.out, KR.out.trans (K3.out)⟩
              case measure => (simp only [RowKit.intOf]; omega)
            · simp only [e, decide_false, Bool.not_false] at hne
              cases xf with
              | true =>
                have HHU := hid (show hurt ⟨(t1, t2, t3), age, lk, [], false⟩ ws ⟨(y1, y2, y3), xa, xlk, xws, true⟩ = false by simp [hurt])
                have HSN := hid (show hurtS L ⟨(t1, t2, t3), age, lk, [], false⟩ ws (k + 1) = S by rw [HST9.out, HSS.out, HHU.out]; simp)
                clear e
                go_wp2
                go_roundw
                case rel => exact ⟨k + 1, S, da, dc, rfl, by go_num, by omega, HSN.out, SO.out.kept (K3.out) (fun _ _ => id), SB.out, KR.out.trans (K3.out)⟩
                case measure => (simp only [RowKit.intOf]; omega)
              | false =>
                obtain ⟨c1, hc1⟩ : ∃ c, decide (ltO (age, (t1, t2, t3)) (xa, (y1, y2, y3))) = c := ⟨_, rfl⟩
                have HC1 := hid hc1
                have HOL := hid (fun (W : World) => older_is W ⟨(t1, t2, t3), age, lk, [], false⟩ ⟨(y1, y2, y3), xa, xlk, xws, false⟩ ⟨la, lc, wa, wc⟩ ⟨r1, r2, s1, s2⟩ hc1 (c := #[.int .u8 t1, .int .u32 t2, .int .u32 t3, .int .u64 age, .slice la lk.length lc, .slice wa 0 wc, .bool false]) (d := #[.int .u8 y1, .int .u32 y2, .int .u32 y3, .int .u64 xa, .slice r1 xlk.length r2, .slice s1 xws.length s2, .bool false]) rfl rfl)
                have HE := hid e
                clear hc1 e
                cases c1 with
                | false =>
                  have HHU := hid (show hurt ⟨(t1, t2, t3), age, lk, [], false⟩ ws ⟨(y1, y2, y3), xa, xlk, xws, false⟩ = false by
                    show (decide (((y1, y2, y3) : Tx) ≠ (t1, t2, t3)) && (!false && (decide (ltO (age, (t1, t2, t3)) (xa, (y1, y2, y3))) && clash xlk ws))) = false
                    rw [HC1.out]
                    simp)
                  have HSN := hid (show hurtS L ⟨(t1, t2, t3), age, lk, [], false⟩ ws (k + 1) = S by rw [HST9.out, HSS.out, HHU.out]; simp)
                  go_wp2_with (go_at_call 56; refine (HOL.out _).mono ?_; rintro e9 w4 ⟨rfl, hk4⟩; have HK4 := hid hk4; clear hk4)
                  go_roundw
                  case rel => exact ⟨k + 1, S, da, dc, rfl, by go_num, by omega, HSN.out, SO.out.kept (K3.out.trans HK4.out) (fun _ _ => id), SB.out, KR.out.trans (K3.out.trans HK4.out)⟩
                  case measure => (simp only [RowKit.intOf]; omega)
                | true =>
                  obtain ⟨c2, hc2⟩ : ∃ c, clash xlk ws = c := ⟨_, rfl⟩
                  have HCL := hid (fun (W : World) (hW : Kept (fun _ => False) wr W) => clash_is (LXL.out.same hW) (LW5.out.same (KR.out.trans hW)) rfl HW9.out hc2)
                  have HHU := hid (show hurt ⟨(t1, t2, t3), age, lk, [], false⟩ ws ⟨(y1, y2, y3), xa, xlk, xws, false⟩ = c2 by
                    show (decide (((y1, y2, y3) : Tx) ≠ (t1, t2, t3)) && (!false && (decide (ltO (age, (t1, t2, t3)) (xa, (y1, y2, y3))) && clash xlk ws))) = c2
                    rw [HC1.out, hc2]
                    simp [HE.out])
                  clear hc2
                  cases c2 with
                  | false =>
                    have HSN := hid (show hurtS L ⟨(t1, t2, t3), age, lk, [], false⟩ ws (k + 1) = S by rw [HST9.out, HSS.out, HHU.out]; simp)
                    go_wp2_with (first
                      | (go_at_call 56; refine (HOL.out _).mono ?_; rintro e9 w4 ⟨rfl, hk4⟩; have HK4 := hid hk4; have g4 := hk4.cell z4 id; clear hk4)
                      | (go_at_call 21; refine (HCL.out _ (K3.out.trans HK4.out)).mono ?_; rintro e9 w6 ⟨rfl, hk6⟩; have HK6 := hid hk6; clear hk6))
                    go_roundw
                    case rel => exact ⟨k + 1, S, da, dc, rfl, by go_num, by omega, HSN.out, SO.out.kept ((K3.out.trans HK4.out).trans HK6.out) (fun _ _ => id), SB.out, KR.out.trans ((K3.out.trans HK4.out).trans HK6.out)⟩
                    case measure => (simp only [RowKit.intOf]; omega)
                  | true =>
                    have HSN := hid (show hurtS L ⟨(t1, t2, t3), age, lk, [], false⟩ ws (k + 1) = S ++ [(y1, y2, y3)] by rw [HST9.out, HSS.out, HHU.out]; simp)
                    obtain ⟨m, hm⟩ : ∃ m, S.length = m := ⟨_, rfl⟩
                    have HMM := hid hm
                    rw [hm] at SO SB hsl ⊢
                    have HT := hid (show (S ++ [(y1, y2, y3)]).flatMap encT = S.flatMap encT ++ encT (y1, y2, y3) by simp)
                    clear hm
                    go_wp2_with (first
                      | (go_at_call 56; refine (HOL.out _).mono ?_; rintro e9 w4 ⟨rfl, hk4⟩; have HK4 := hid hk4; have g4 := hk4.cell z4 id; have g0 := hk4.cell z0 id; have g1 := hk4.cell z1 id; have g2 := hk4.cell z2 id; clear hk4)
                      | (go_at_call 21; refine (HCL.out _ (K3.out.trans HK4.out)).mono ?_; rintro e9 w6 ⟨rfl, hk6⟩; have HK6 := hid hk6; have q0 := hk6.cell g0 id; have q1 := hk6.cell g1 id; have q2 := hk6.cell g2 id; have KX := hid ((K3.out.trans HK4.out).trans hk6); clear hk6)
                      | (at_builtin; refine wpList_app rfl _ _ 27 rfl 32 (txv (0, 0, 0)) 3 12 Try.underlying27 infoT rfl (by decide) (.slice da m dc) m _ rfl (by exact (SO.out.kept KX.out (fun _ _ => id)).alloc _) _ rfl 1 _ (tx_src _ y1 y2 y3 rfl) (by unfold maxLen; omega) (by omega) ?_; intro ga2 gc2 w8 ho3 hk3 hf3 _; have HA8 := hid ho3; have HK8 := hid hk3; have HF8 := hid hf3; clear ho3 hk3 hf3))
                    have k8 := ((Kept.refl (fun i => (Value.slice da m dc).ownBlock = some i) w6).alloc (.cells #[.int .u8 y1, .int .u32 y2, .int .u32 y3] 32)).trans HK8.out
                    have KN := hid ((KR.out.trans KX.out).trans' k8 (fun i h => .inr (SB.out i h)))
                    clear k8
                    go_roundw
                    case rel =>
                      have hln : (S ++ [((y1, y2, y3) : Tx)]).length = m + 1 := by rw [List.length_append, HMM.out]; rfl
                      refine ⟨k + 1, _, ga2, gc2, by rw [hln], by go_num, by omega, HSN.out, by rw [hln, HT.out]; exact HA8.out, fun b hb => ?_, KN.out⟩
                      rw [hln] at hb
                      rcases HF8.out b hb with h | h
                      · exact SB.out b h
                      · have := K5.out.size
                        have := KR.out.size
                        have := KX.out.size
                        simp at h
                        omega
                    case measure => (simp only [RowKit.intOf]; omega)
          · obtain rfl : k = n := by omega
            have K6 := hid (K5.out.trans KR.out)
            have OB6 := hid ((KR.out.block ob (row_lt OB5.out) id).trans OB5.out)
            have LK6 := hid (LK5.out.same KR.out)
            have LW6 := hid (LW5.out.same KR.out)
            have HOX := hid (show ob < wr.heap.size ∧ w.heap.size ≤ w5.heap.size ∧ w5.heap.size ≤ wr.heap.size from ⟨row_lt OB6.out, K5.out.size, KR.out.size⟩)
            have HWV := hid (show xb < w.heap.size ∧ ∀ b, v.ownBlock = some b → b < w.heap.size from ⟨row_lt H0.out.obj, fun b hb => H0.out.row.lt hb⟩)
            have SL := hid (SO.out.lies (encT_one _) (F := fun i => i = xb ∨ v.ownBlock = some i) (fun b hb h => by
              have h1 := SB.out b hb
              have := HOX.out
              rcases h with h | h
              · have := HWV.out.1; omega
              · have := HWV.out.2 b h; omega))
            obtain ⟨m, hm⟩ : ∃ m, S.length = m := ⟨_, rfl⟩
            have HMM := hid hm
            rw [hm] at SO SB SL hsl ⊢
            clear hm
            go_wp2_with fail
            go_loopw [98] (fun i wx => ∃ (j : Nat) (v2 : Value), j ≤ m ∧ i = .int .i64 j ∧ DGo D wr xb v D wx v2 (remS L (S.take j)) R) (fun i _ => m - (RowKit.intOf i).toNat)
            case atStart => exact ⟨0, v, Nat.zero_le _, rfl, by rw [List.take_zero, remS_nil]; exact DGo.refl HR.out⟩
            case round =>
              rename World => wx
              obtain ⟨j, v2, hj, rfl, hgo⟩ := hrel
              have GO := hid hgo
              clear hgo
              by_cases hjt : j < m
              · have hjI : (j : Int) < (m : Int) := by omega
                obtain ⟨⟨y1, y2, y3⟩, hx⟩ : ∃ x, S[j]? = some x := ⟨_, List.getElem?_eq_getElem (by rw [HMM.out]; exact hjt)⟩
                obtain ⟨g1, o1, rfl, q0, q1, q2⟩ := tx_cells (SL.out.kept GO.out.k (fun _ _ h => h)) HMM.out (Kept.refl _ _) hx
                simp only at q0 q1 q2
                obtain ⟨z0, z1, z2⟩ := cells3 (row_new wx (.cells #[.int .u8 y1, .int .u32 y2, .int .u32 y3] 32))
                have k3 : Kept (fun _ => False) wx (wx.alloc (.cells #[.int .u8 y1, .int .u32 y2, .int .u32 y3] 32)) := (Kept.refl _ _).alloc _
                have K3 := hid k3
                have HD := hid (drop_any (GO.out.t.same k3) (Nat.le_trans (remS_len _ _) (Nat.le_trans HLL.out (by decide))) y1 y2 y3)
                have HRS := hid (show dropO (remS L (S.take j)) (y1, y2, y3) = remS L (S.take (j + 1)) by rw [remS_drop, List.take_add_one, hx]; rfl)
                clear hx k3
                go_wp2_with (go_at_call 57; refine HD.out.mono ?_; rintro e9 w4 ⟨rfl, v3, ht3, hv3, hk3⟩; have HT3 := hid ht3; have HV3 := hid hv3; have HK3 := hid hk3; clear ht3 hv3 hk3)
                have G4 := hid ((GO.out.same K3.out).trans (⟨HT3.out, fun _ h => .inl h, fun b hb => .inr (HV3.out b hb), HK3.out.mono (fun _ _ e => .inl e)⟩ : DGo D _ xb v2 D w4 v3 (dropO (remS L (S.take j)) (y1, y2, y3)) R))
                go_roundw
                case rel => exact ⟨j + 1, v3, by omega, by go_num, by rw [← HRS.out]; exact G4.out⟩
                case measure => (simp only [RowKit.intOf]; omega)
              · obtain rfl : j = m := by omega
                have HRM := hid (show remS L (S.take j) = L.filter fun x => !hurt ⟨(t1, t2, t3), age, lk, [], false⟩ ws x by
                  rw [← HMM.out, List.take_length, ← HSS.out, ← HN.out]
                  exact remS_all HND.out _ _)
                have hxo : ∀ i, (i = xb ∨ v.ownBlock = some i) → ¬ i = ob := fun i h e => by
                  have := HOW.out
                  rcases h with h | h
                  · have := HWV.out.1; omega
                  · have := HWV.out.2 i h; omega
                have HXO := hid hxo
                have OBx := hid ((GO.out.k.block ob HOX.out.1 (fun h => HXO.out ob h rfl)).trans OB6.out)
                have LWx := hid (LW6.out.kept GO.out.k (fun _ _ h => h))
                have LKx := hid (LK6.out.kept GO.out.k (fun i _ h hd => h.elim (fun e => H0.out.nx (e ▸ hd)) (fun e => H0.out.ng i e hd)))
                have k7 := hid ((Kept.refl (fun _ => False) wx).alloc (.cells #[] 36))
                clear hxo
                go_wp2_with (first
                  | (at_builtin; refine wpList_app rfl _ _ 37 rfl 36 (.agg #[.int .u32 0, .int .u8 0]) 2 8 Try.underlying37 infoW rfl (by decide) (.slice (some ⟨wx.heap.size, 0, none⟩) 0 0) 0 [] rfl (by exact own_empty wx 36 2) _ rfl W9 (wcells ws) (by exact (LWx.out.same k7.out).src) (by have := HWL.out; unfold maxLen; omega) (by have := HWL.out; omega) ?_; intro na nc w7 ho7 hk7 hf7 _; simp only [Nat.zero_add, List.nil_append] at ho7 hf7; simp only [Nat.zero_add]; have HA7 := hid ho7; have HK7 := hid hk7; have HF7 := hid hf7; have OB7 := hid ((hk7.block ob (by have := row_lt OBx.out; simp; omega) (fun e => by have := row_lt OBx.out; simp [Value.ownBlock] at e; omega)).trans ((k7.out.block ob (row_lt OBx.out) id).trans OBx.out)); clear ho7 hk7 hf7)
                  | (refine wpList_store_cell rfl _ _ _ rfl (by kernel_rfl) ob 5 (by rfl) _ (by rfl) rfl OB7.out (by simp) ?_; intro w8 hb8 hk8; have OB8 := hid (show w8.heap[ob]? = some (onRow t1 t2 t3 age la lk.length lc na W9 nc false) from hb8.out); obtain ⟨f0, f1, f2, f3, f4, f5, f6⟩ := cells7 OB8.out))
                have K78 := hid (show Kept (fun i => i = ob) wx w8 from (((k7.out.mono (fun _ _ h => h.elim)).trans' HK7.out (fun i hi => by simp [Value.ownBlock] at hi; exact .inr (by omega)))).trans hk8.out)
                obtain ⟨E, hE⟩ : ∃ E : Nat → Prop, (fun i => D i ∨ (wx.heap.size ≤ i ∧ i < w8.heap.size)) = E := ⟨_, rfl⟩
                have HE := hid (show ∀ i, E i ↔ D i ∨ (wx.heap.size ≤ i ∧ i < w8.heap.size) from fun i => by rw [← hE])
                have HDW := hid (show ∀ i, D i → i < w.heap.size from H0.out.new)
                have HSX := hid (show wr.heap.size ≤ wx.heap.size ∧ wx.heap.size ≤ w8.heap.size ∧ w7.heap.size ≤ w8.heap.size from ⟨GO.out.k.size, K78.out.size, hk8.out.size⟩)
                have hv2 : ∀ b, v2.ownBlock = some b → b < wx.heap.size ∧ ¬ b = ob := fun b hb => ⟨GO.out.t.row.lt hb, fun e => by
                  have := HOX.out
                  have := HOW.out
                  rcases GO.out.o b hb with h | h
                  · have := HWV.out.2 b h; omega
                  · omega⟩
                have T8 := hid (GO.out.t.grow K78.out (E := E) (fun e => HXO.out xb (.inl rfl) e) (fun b hb => (hv2 b hb).2) (fun i e hd => by have := HDW.out i hd; have := HOW.out; omega) (fun i hi => (HE.out i).2 (.inl hi))
                  (fun h => ((HE.out _).1 h).elim H0.out.nx (fun h => by have := HWV.out.1; have := HOX.out; have := HSX.out; omega))
                  (fun b hb h => ((HE.out _).1 h).elim (GO.out.t.ng b hb) (fun h => by have := (hv2 b hb).1; omega))
                  (fun i h => ((HE.out _).1 h).elim (fun h => by have := HDW.out i h; have := HOX.out; have := HSX.out; omega) (fun h => h.2)))
                rw [HRM.out] at T8
                have G8 := hid (show DGo D w xb v E w8 v2 (L.filter fun x => !hurt ⟨(t1, t2, t3), age, lk, [], false⟩ ws x) R from
                  ⟨T8.out, fun i hi => ((HE.out i).1 hi).imp id (fun h => by have := HOX.out; have := HSX.out; omega), fun b hb => (GO.out.o b hb).imp id (fun h => by have := HOX.out; omega),
                    ((K6.out.mono (fun _ _ h => h.elim)).trans GO.out.k).trans' K78.out (fun i e => .inr (by rw [e]; exact HOW.out))⟩)
                have OX8 := hid (show OwD E w8 ⟨(t1, t2, t3), age, lk, ws, false⟩ ⟨la, lc, na, nc⟩ from
                  ⟨(LKx.out.kept K78.out (fun i _ e hd => by have := HDW.out i hd; have := HOW.out; omega)).mono (fun i _ h hd => h ((HE.out i).2 (.inl hd))), by
                    show Lies (fun i => ¬ E i) w8 2 (.slice na ws.length nc) ws.length (wcells ws)
                    rw [HW9.out]
                    have ha8 := HA7.out.kept hk8.out (fun b hb e => by
                      have := HOX.out
                      have := HSX.out
                      rcases HF7.out b hb with h | h
                      · simp [Value.ownBlock] at h; omega
                      · simp at h; omega)
                    refine ha8.lies (wcells_one _) (fun b hb h => h ((HE.out b).2 (.inr ⟨?_, ha8.lt hb⟩)))
                    rcases HF7.out b hb with h | h
                    · simp [Value.ownBlock] at h; omega
                    · simp at h; omega⟩)
                have HIA := hid (show Inv0 (askL L ⟨(t1, t2, t3), age, lk, [], false⟩ ws) from by rw [← HWHO.out]; exact askL_inv HI.out (stO_ok HS9.out))
                have HAG := hid (show askG L (t1, t2, t3) age ws = (settled (askL L ⟨(t1, t2, t3), age, lk, [], false⟩ ws)).2 ∧ askD L (t1, t2, t3) age ws = S ∧ askP L (t1, t2, t3) age ws = (settled (askL L ⟨(t1, t2, t3), age, lk, [], false⟩ ws)).1 from by
                  unfold askG askD askP
                  rw [HS9.out, if_pos rfl, if_pos rfl, if_pos rfl, HWHO.out]
                  exact ⟨rfl, by rw [← hurtS_all, HN.out]; exact HSS.out, rfl⟩)
                have HFL := hid (show (L.filter fun x => !hurt ⟨(t1, t2, t3), age, lk, [], false⟩ ws x).length ≤ 90000 from Nat.le_trans (List.length_filter_le _ _) HLL.out)
                clear hE hv2 f0 f1 f2 f3 f4 f5 f6
                refine (lay_is T8.out (Nat.le_trans HFL.out (by decide)) OX8.out (by rw [← HW9.out]; rfl)).mono ?_
                rintro e w9 ⟨rfl, v9, ht9, hv9, hk9⟩
                have HT9 := hid ht9; have HV9 := hid hv9; have HK9 := hid hk9
                have G9 := hid (G8.out.trans (⟨ht9, fun _ h => .inl h, fun b hb => .inr (hv9 b hb), hk9.mono (fun _ _ e => .inl e)⟩ : DGo E w8 xb v2 E w9 v9 _ _))
                have hl9 : (askL L ⟨(t1, t2, t3), age, lk, [], false⟩ ws).length ≤ 100000 := by
                  have := askL_len L ⟨(t1, t2, t3), age, lk, [], false⟩ ws
                  have := HLL.out
                  omega
                have hset := hid (dsettle_any (L := askL L ⟨(t1, t2, t3), age, lk, [], false⟩ ws) ht9 hl9 HIA.out.nod HIA.out.ok)
                clear ht9 hv9 hk9 hl9
                go_wp2_with fail
                refine hset.out.mono ?_
                rintro e w10 ⟨D', R', ga, gc, rfl, hst⟩
                have HST := hid hst
                clear hst hset
                go_wp2
                go_returns
                rw [HS9.out, HAG.out.1, HAG.out.2.1, HAG.out.2.2]
                have hsb : ∀ b, (Value.slice da j dc).ownBlock = some b → w.heap.size ≤ b ∧ b < wr.heap.size ∧ ¬ b = ob := fun b hb => ⟨by have := SB.out b hb; have := HOX.out; omega, SO.out.lt hb, fun e => SO.out.ne_block OB6.out (by decide) (by rw [← e]; exact hb)⟩
                have S10 := ((((SO.out.kept GO.out.k (fun b hb h => by
                  have h1 := hsb b hb
                  rcases h with h | h
                  · have := HWV.out.1; omega
                  · have := HWV.out.2 b h; omega)).kept K78.out (fun b hb => (hsb b hb).2.2)).kept HK9.out (fun b hb e => by have h1 := hsb b hb; have := HWV.out.1; omega)).kept HST.out.k (fun b hb e => by
                  have h1 := hsb b hb
                  have h2 := HV9.out b e
                  have := HSX.out
                  omega))
                refine ⟨_, _, D', v9, R', rfl, ⟨ga, gc, rfl, HST.out.g, fun b hb => Nat.le_trans G9.out.k.size (HST.out.n b hb).1⟩, ⟨da, dc, by rw [HMM.out]; rfl, by rw [HMM.out]; exact S10, fun b hb => by rw [HMM.out] at hb; exact (hsb b hb).1⟩, fun b hb => ?_, G9.out.trans HST.out.go⟩
                rcases hb with hb | hb
                · exact (HST.out.n b hb).2
                · intro hd
                  have h1 := hsb b hb
                  have h9 := HK9.out.size
                  have := HSX.out
                  rcases HST.out.e b hd with h | h
                  · rcases (HE.out b).1 h with h | h
                    · have := HDW.out b h; omega
                    · omega
                  · omega
    · rw [he]
      have x0 := HT4.out.cell
      obtain ⟨va, vc, hv, hc1, hc2⟩ := HT4.out.slice
      obtain ⟨g, c', hv2, o0, o1, o2, o3, o4, o5, o6⟩ := HT4.out.owner hk
      rw [hv2] at x0 hv
      simp only [Value.slice.injEq] at hv
      obtain ⟨rfl, _, rfl⟩ := hv
      have hlo := HT4.out.lst _ (List.mem_of_getElem? hk)
      have hkl := (List.getElem?_eq_some_iff.1 hk).1
      obtain ⟨n0, hn0⟩ : ∃ n, L.length = n := ⟨_, rfl⟩
      rw [hn0] at hkl x0 hc1
      unfold maxLen at hc2
      have hkI : (k : Int) < (n0 : Int) := by omega
      have hnn : 0 ≤ (k : Int) := by omega
      obtain ⟨⟨s1, s2, s3⟩, oage, lk, ows, of⟩ := o
      have ht2 : ((s1, s2, s3) : Tx) = (t1, t2, t3) := ht
      simp only [Prod.mk.injEq] at ht2
      obtain ⟨rfl, rfl, rfl⟩ : t1 = s1 ∧ t2 = s2 ∧ t3 = s3 := ⟨ht2.1.symm, ht2.2.1.symm, ht2.2.2.symm⟩
      simp only at o0 o1 o2 o3 o4 o5 o6
      obtain ⟨la, lc, p3, p4⟩ : ∃ r1 r2, (R (t1, t2, t3)).la = r1 ∧ (R (t1, t2, t3)).lc = r2 := ⟨_, _, rfl, rfl⟩
      obtain ⟨wa, wc, p5, p6⟩ : ∃ r1 r2, (R (t1, t2, t3)).wa = r1 ∧ (R (t1, t2, t3)).wc = r2 := ⟨_, _, rfl, rfl⟩
      have LK4 := hid (show Lies (fun i => ¬ D i) w4 2 (.slice la lk.length lc) lk.length (wcells lk) from by rw [← p3, ← p4]; exact hlo.l)
      rw [p3, p4] at o4
      rw [p5, p6] at o5
      have HWHO := hid (show whoO L (t1, t2, t3) age = ⟨(t1, t2, t3), oage, lk, ows, of⟩ by unfold whoO; rw [hf]; rfl)
      obtain ⟨q, hq⟩ : ∃ q, ows.length = q := ⟨_, rfl⟩
      have HQ := hid hq
      rw [hq] at o5
      clear hk ht ht2 hf he hv2 hlo hn0 p3 p4 p5 p6 hq
      by_cases hq0 : 0 < q
      · have hq0I : 0 < (q : Int) := by omega
        have HS9 := hid (show stO L (t1, t2, t3) age ws = 9 by unfold stO; rw [HCZ.out, if_neg (by simp), HWHO.out, if_pos (.inl (by rw [HQ.out]; exact hq0))])
        have HAG := hid (show askG L (t1, t2, t3) age ws = [] ∧ askD L (t1, t2, t3) age ws = [] ∧ askP L (t1, t2, t3) age ws = L by unfold askG askD askP; rw [HS9.out]; exact ⟨rfl, rfl, rfl⟩)
        go_wp2_with (refine wpList_store_midr rfl 104 (.tmp 12) (.tmp 40) rfl 0 #[.int .u8 t1, .int .u32 t2, .int .u32 t3, .int .u64 oage, .slice la lk.length lc, .slice wa q wc, .bool of] #[.int .u8 t1, .int .u32 t2, .int .u32 t3, .int .u64 age, .slice none 0 0, .slice none 0 0, .bool false] (by rfl) (by rfl) (by exact OB4.out) (by simp) (by kernel_rfl) (by simp [Value.oneCell']) ?_; intro wq hbq hkq; have OBQ := hid (show wq.heap[ob]? = some (onRow t1 t2 t3 oage la lk.length lc wa q wc of) from hbq); obtain ⟨f0, f1, f2, f3, f4, f5, f6⟩ := cells7 OBQ.out; have HKQ := hid hkq; clear hkq hbq)
        go_returns
        rw [HS9.out, HAG.out.1, HAG.out.2.1, HAG.out.2.2]
        exact ⟨_, _, D, v, R, rfl, Txs.nil _ _, Txs.nil _ _, fun b hb => by simp [Value.ownBlock] at hb, (DGo.refl H0.out).same (K4.out.trans' HKQ.out (fun i e => .inr (by rw [e]; exact HOBW.out)))⟩
      · have hq0I : ¬ 0 < (q : Int) := by omega
        cases of with
        | true =>
          have HS9 := hid (show stO L (t1, t2, t3) age ws = 9 by unfold stO; rw [HCZ.out, if_neg (by simp), HWHO.out, if_pos (.inr (.inl rfl))])
          have HAG := hid (show askG L (t1, t2, t3) age ws = [] ∧ askD L (t1, t2, t3) age ws = [] ∧ askP L (t1, t2, t3) age ws = L by unfold askG askD askP; rw [HS9.out]; exact ⟨rfl, rfl, rfl⟩)
          go_wp2_with (refine wpList_store_midr rfl 104 (.tmp 12) (.tmp 40) rfl 0 #[.int .u8 t1, .int .u32 t2, .int .u32 t3, .int .u64 oage, .slice la lk.length lc, .slice wa q wc, .bool true] #[.int .u8 t1, .int .u32 t2, .int .u32 t3, .int .u64 age, .slice none 0 0, .slice none 0 0, .bool false] (by rfl) (by rfl) (by exact OB4.out) (by simp) (by kernel_rfl) (by simp [Value.oneCell']) ?_; intro wq hbq hkq; have OBQ := hid (show wq.heap[ob]? = some (onRow t1 t2 t3 oage la lk.length lc wa q wc true) from hbq); obtain ⟨f0, f1, f2, f3, f4, f5, f6⟩ := cells7 OBQ.out; have HKQ := hid hkq; clear hkq hbq)
          go_returns
          rw [HS9.out, HAG.out.1, HAG.out.2.1, HAG.out.2.2]
          exact ⟨_, _, D, v, R, rfl, Txs.nil _ _, Txs.nil _ _, fun b hb => by simp [Value.ownBlock] at hb, (DGo.refl H0.out).same (K4.out.trans' HKQ.out (fun i e => .inr (by rw [e]; exact HOBW.out)))⟩
        | false =>
          by_cases ha : oage = age
          · obtain rfl : age = oage := ha.symm
            obtain rfl : ows = [] := List.eq_nil_of_length_eq_zero (by rw [HQ.out]; omega)
            obtain rfl : q = 0 := by omega
            have HSTO := hid (show stO L (t1, t2, t3) age ws = if 256 < cnt L + ws.length then 10 else 0 by
              unfold stO
              rw [HCZ.out, HWHO.out, if_neg (by simp), if_neg (by simp)])
            clear hq0 ha
            go_wp2_with (refine wpList_store_midr rfl 104 (.tmp 12) (.tmp 40) rfl 0 #[.int .u8 t1, .int .u32 t2, .int .u32 t3, .int .u64 age, .slice la lk.length lc, .slice wa 0 wc, .bool false] #[.int .u8 t1, .int .u32 t2, .int .u32 t3, .int .u64 age, .slice none 0 0, .slice none 0 0, .bool false] (by rfl) (by rfl) (by exact OB4.out) (by simp) (by kernel_rfl) (by simp [Value.oneCell']) ?_; intro wq hbq hkq; have OBQ := hid (show wq.heap[ob]? = some (onRow t1 t2 t3 age la lk.length lc wa 0 wc false) from hbq); obtain ⟨f0, f1, f2, f3, f4, f5, f6⟩ := cells7 OBQ.out; have HKQ := hid hkq; clear hkq hbq)
            have KQ4 := hid (show Kept (fun i => i = ob) w4 wq from HKQ.out)
            have KQ := hid (K4.out.trans' HKQ.out (fun i e => .inr (by rw [e]; exact HOBW.out)))
            have HTQ := hid (HT4.out.kept HKQ.out (fun e => by have := row_lt H0.out.obj; have := HOBW.out; omega) (fun b hb e => by have := H0.out.row.lt hb; have := HOBW.out; omega) (fun i e hd => by have := H0.out.new i hd; have := HOBW.out; omega))
            have HOB := OBQ
            have LWQ := hid (LW0.out.same KQ.out)
            have LKQ := hid (LK4.out.kept HKQ.out (fun i _ e hd => by have := H0.out.new i hd; have := HOBW.out; omega))
            have KBQ := hid ((HKQ.out.block kb (row_lt KBQ.out) (fun e => by have := HKO.out; omega)).trans KBQ.out)
            clear f0 f1 f2 f3 f4 f5 f6 o0 o1 o2 o3 o4 o5 o6 x0 hkI hnn hc1 hc2 hkl
            refine (dcount_any HTQ.out HCN.out).mono ?_
            rintro e w5 ⟨rfl, hk5⟩
            have HT5 := hid (HTQ.out.same hk5); have K5 := hid (KQ.out.trans hk5)
            have OB5 := hid ((hk5.block ob (row_lt HOB.out) id).trans HOB.out)
            have KB5 := hid ((hk5.block kb (row_lt KBQ.out) id).trans KBQ.out)
            have LK5 := hid (LKQ.out.same hk5)
            have LW5 := hid (LWQ.out.same hk5)
            have HOW := hid (show w.heap.size ≤ ob from HOBW.out)
            obtain ⟨cn, hcn⟩ : ∃ cn, cnt L = cn := ⟨_, rfl⟩
            have HCN2 := hid hcn
            rw [hcn]
            have hcn9 : cn ≤ 1000000 := by rw [← hcn]; exact HCN.out
            have hw40 := HWL.out
            clear hk5 hcn
            by_cases hfull : 256 < cn + W9
            · have hfI : 256 < (cn : Int) + (W9 : Int) := by omega
              have HS9 := hid (show stO L (t1, t2, t3) age ws = 10 by rw [HSTO.out, HCN2.out, HW9.out, if_pos hfull])
              have HAG := hid (show askG L (t1, t2, t3) age ws = [] ∧ askD L (t1, t2, t3) age ws = [] ∧ askP L (t1, t2, t3) age ws = L by unfold askG askD askP; rw [HS9.out]; exact ⟨rfl, rfl, rfl⟩)
              clear hfull
              go_wp2
              go_returns
              rw [HS9.out, HAG.out.1, HAG.out.2.1, HAG.out.2.2]
              exact ⟨_, _, D, v, R, rfl, Txs.nil _ _, Txs.nil _ _, fun b hb => by simp [Value.ownBlock] at hb, (DGo.refl H0.out).same K5.out⟩
            · have hfI : ¬ 256 < (cn : Int) + (W9 : Int) := by omega
              have HS9 := hid (show stO L (t1, t2, t3) age ws = 0 by rw [HSTO.out, HCN2.out, HW9.out, if_neg hfull])
              obtain ⟨va, vc, hvv, hvc1, hvc2⟩ := HT5.out.slice
              have x0 := HT5.out.cell
              obtain ⟨n, hN⟩ : ∃ n, L.length = n := ⟨_, rfl⟩
              have HN := hid hN
              have hLn : n ≤ 90000 := by rw [← hN]; exact HLL.out
              rw [hvv, hN] at x0
              rw [hN] at hvc1
              unfold maxLen at hvc2
              have HVV := hid hvv
              clear hfull hvv hN
              go_wp2_with fail
              clear x0
              go_loopw [14, 66] (fun l i wr => ∃ (k : Nat) (S : List Tx) (da : Option Addr) (dc : Nat), l = .slice da S.length dc ∧ i = .int .i64 k ∧ k ≤ n ∧ hurtS L ⟨(t1, t2, t3), age, lk, [], false⟩ ws k = S ∧ Own wr 32 3 (.slice da S.length dc) S.length (S.flatMap encT) ∧ (∀ b, (Value.slice da S.length dc).ownBlock = some b → w5.heap.size ≤ b) ∧ Kept (fun _ => False) w5 wr) (fun _ i _ => n - (RowKit.intOf i).toNat)
              case atStart => exact ⟨0, [], none, 0, rfl, rfl, Nat.zero_le _, rfl, Own.nil _ _ _, fun b h => by simp [Value.ownBlock] at h, Kept.refl _ _⟩
              case round =>
                rename World => wr
                obtain ⟨k, S, da, dc, rfl, rfl, hk, hs, ho, hn9, hkr⟩ := hrel
                have KR := hid hkr; have HSS := hid hs; have SO := hid ho; have SB := hid hn9
                have HR := hid (HT5.out.same hkr)
                have hsl : S.length ≤ n := by have := hurtS_len L ⟨(t1, t2, t3), age, lk, [], false⟩ ws k; rw [hs] at this; omega
                clear hkr hs ho hn9
                by_cases hlt : k < n
                · have hltI : (k : Int) < (n : Int) := by omega
                  obtain ⟨x, hx⟩ : ∃ o, L[k]? = some o := ⟨_, List.getElem?_eq_getElem (by rw [HN.out]; exact hlt)⟩
                  have HST9 := hid (hurtS_step (o := ⟨(t1, t2, t3), age, lk, [], false⟩) (ws := ws) hx)
                  obtain ⟨g, c', hv, o0, o1, o2, o3, o4, o5, o6⟩ := HR.out.owner hx
                  rw [HVV.out] at hv
                  simp only [Value.slice.injEq] at hv
                  obtain ⟨rfl, _, rfl⟩ := hv
                  have HX := hid hx
                  have hlx := HR.out.lst _ (List.mem_of_getElem? hx)
                  obtain ⟨⟨y1, y2, y3⟩, xa, xlk, xws, xf⟩ := x
                  simp only at o0 o1 o2 o3 o4 o5 o6
                  obtain ⟨r1, r2, p3, p4⟩ : ∃ r1 r2, (R (y1, y2, y3)).la = r1 ∧ (R (y1, y2, y3)).lc = r2 := ⟨_, _, rfl, rfl⟩
                  obtain ⟨s1, s2, p5, p6⟩ : ∃ r1 r2, (R (y1, y2, y3)).wa = r1 ∧ (R (y1, y2, y3)).wc = r2 := ⟨_, _, rfl, rfl⟩
                  have LXL := hid (show Lies (fun i => ¬ D i) wr 2 (.slice r1 xlk.length r2) xlk.length (wcells xlk) from by rw [← p3, ← p4]; exact hlx.l)
                  rw [p3, p4] at o4
                  rw [p5, p6] at o5
                  obtain ⟨z0, z1, z2, z3, z4, z5, z6⟩ := cells7 (row_new wr (onRow y1 y2 y3 xa r1 xlk.length r2 s1 xws.length s2 xf))
                  have k3 : Kept (fun _ => False) wr (wr.alloc (onRow y1 y2 y3 xa r1 xlk.length r2 s1 xws.length s2 xf)) := (Kept.refl _ _).alloc _
                  obtain ⟨d0, d1, d2⟩ := cells3 ((k3.block kb (by have := row_lt KB5.out; have := KR.out.size; omega) id).trans ((KR.out.block kb (row_lt KB5.out) id).trans KB5.out))
                  obtain ⟨e0, e1, e2, e3, e4, e5, e6⟩ := cells7 ((k3.block ob (by have := row_lt OB5.out; have := KR.out.size; omega) id).trans ((KR.out.block ob (row_lt OB5.out) id).trans OB5.out))
                  unfold onRow at z0 z1 z2 z3 z4 z5 z6 d0 d1 d2 e0 e1 e2 e3 e4 e5 e6
                  have K3 := hid k3
                  unfold onRow at K3
                  have hne := fun W => tx_ne (y1, y2, y3) (t1, t2, t3) W
                  unfold txv at hne
                  clear hx hlx p3 p4 p5 p6 k3
                  by_cases e : ((y1, y2, y3) : Tx) = (t1, t2, t3)
                  · have HHU := hid (show hurt ⟨(t1, t2, t3), age, lk, [], false⟩ ws ⟨(y1, y2, y3), xa, xlk, xws, xf⟩ = false by simp [hurt, e])
                    have HSN := hid (show hurtS L ⟨(t1, t2, t3), age, lk, [], false⟩ ws (k + 1) = S by rw [HST9.out, HSS.out, HHU.out]; simp)
                    simp only [e, decide_true, Bool.not_true] at hne
                    clear e
                    go_wp2
                    go_roundw
                    case rel => exact ⟨k + 1, S, da, dc, rfl, by go_num, by omega, HSN.out, SO.out.kept (K3.out) (fun _ _ => id), SB.out, KR.out.trans (K3.out)⟩
                    case measure => (simp only [RowKit.intOf]; omega)
                  · simp only [e, decide_false, Bool.not_false] at hne
                    cases xf with
                    | true =>
                      have HHU := hid (show hurt ⟨(t1, t2, t3), age, lk, [], false⟩ ws ⟨(y1, y2, y3), xa, xlk, xws, true⟩ = false by simp [hurt])
                      have HSN := hid (show hurtS L ⟨(t1, t2, t3), age, lk, [], false⟩ ws (k + 1) = S by rw [HST9.out, HSS.out, HHU.out]; simp)
                      clear e
                      go_wp2
                      go_roundw
                      case rel => exact ⟨k + 1, S, da, dc, rfl, by go_num, by omega, HSN.out, SO.out.kept (K3.out) (fun _ _ => id), SB.out, KR.out.trans (K3.out)⟩
                      case measure => (simp only [RowKit.intOf]; omega)
                    | false =>
                      obtain ⟨c1, hc1⟩ : ∃ c, decide (ltO (age, (t1, t2, t3)) (xa, (y1, y2, y3))) = c := ⟨_, rfl⟩
                      have HC1 := hid hc1
                      have HOL := hid (fun (W : World) => older_is W ⟨(t1, t2, t3), age, lk, [], false⟩ ⟨(y1, y2, y3), xa, xlk, xws, false⟩ ⟨la, lc, wa, wc⟩ ⟨r1, r2, s1, s2⟩ hc1 (c := #[.int .u8 t1, .int .u32 t2, .int .u32 t3, .int .u64 age, .slice la lk.length lc, .slice wa 0 wc, .bool false]) (d := #[.int .u8 y1, .int .u32 y2, .int .u32 y3, .int .u64 xa, .slice r1 xlk.length r2, .slice s1 xws.length s2, .bool false]) rfl rfl)
                      have HE := hid e
                      clear hc1 e
                      cases c1 with
                      | false =>
                        have HHU := hid (show hurt ⟨(t1, t2, t3), age, lk, [], false⟩ ws ⟨(y1, y2, y3), xa, xlk, xws, false⟩ = false by
                          show (decide (((y1, y2, y3) : Tx) ≠ (t1, t2, t3)) && (!false && (decide (ltO (age, (t1, t2, t3)) (xa, (y1, y2, y3))) && clash xlk ws))) = false
                          rw [HC1.out]
                          simp)
                        have HSN := hid (show hurtS L ⟨(t1, t2, t3), age, lk, [], false⟩ ws (k + 1) = S by rw [HST9.out, HSS.out, HHU.out]; simp)
                        go_wp2_with (go_at_call 56; refine (HOL.out _).mono ?_; rintro e9 w4 ⟨rfl, hk4⟩; have HK4 := hid hk4; clear hk4)
                        go_roundw
                        case rel => exact ⟨k + 1, S, da, dc, rfl, by go_num, by omega, HSN.out, SO.out.kept (K3.out.trans HK4.out) (fun _ _ => id), SB.out, KR.out.trans (K3.out.trans HK4.out)⟩
                        case measure => (simp only [RowKit.intOf]; omega)
                      | true =>
                        obtain ⟨c2, hc2⟩ : ∃ c, clash xlk ws = c := ⟨_, rfl⟩
                        have HCL := hid (fun (W : World) (hW : Kept (fun _ => False) wr W) => clash_is (LXL.out.same hW) (LW5.out.same (KR.out.trans hW)) rfl HW9.out hc2)
                        have HHU := hid (show hurt ⟨(t1, t2, t3), age, lk, [], false⟩ ws ⟨(y1, y2, y3), xa, xlk, xws, false⟩ = c2 by
                          show (decide (((y1, y2, y3) : Tx) ≠ (t1, t2, t3)) && (!false && (decide (ltO (age, (t1, t2, t3)) (xa, (y1, y2, y3))) && clash xlk ws))) = c2
                          rw [HC1.out, hc2]
                          simp [HE.out])
                        clear hc2
                        cases c2 with
                        | false =>
                          have HSN := hid (show hurtS L ⟨(t1, t2, t3), age, lk, [], false⟩ ws (k + 1) = S by rw [HST9.out, HSS.out, HHU.out]; simp)
                          go_wp2_with (first
                            | (go_at_call 56; refine (HOL.out _).mono ?_; rintro e9 w4 ⟨rfl, hk4⟩; have HK4 := hid hk4; have g4 := hk4.cell z4 id; clear hk4)
                            | (go_at_call 21; refine (HCL.out _ (K3.out.trans HK4.out)).mono ?_; rintro e9 w6 ⟨rfl, hk6⟩; have HK6 := hid hk6; clear hk6))
                          go_roundw
                          case rel => exact ⟨k + 1, S, da, dc, rfl, by go_num, by omega, HSN.out, SO.out.kept ((K3.out.trans HK4.out).trans HK6.out) (fun _ _ => id), SB.out, KR.out.trans ((K3.out.trans HK4.out).trans HK6.out)⟩
                          case measure => (simp only [RowKit.intOf]; omega)
                        | true =>
                          have HSN := hid (show hurtS L ⟨(t1, t2, t3), age, lk, [], false⟩ ws (k + 1) = S ++ [(y1, y2, y3)] by rw [HST9.out, HSS.out, HHU.out]; simp)
                          obtain ⟨m, hm⟩ : ∃ m, S.length = m := ⟨_, rfl⟩
                          have HMM := hid hm
                          rw [hm] at SO SB hsl ⊢
                          have HT := hid (show (S ++ [(y1, y2, y3)]).flatMap encT = S.flatMap encT ++ encT (y1, y2, y3) by simp)
                          clear hm
                          go_wp2_with (first
                            | (go_at_call 56; refine (HOL.out _).mono ?_; rintro e9 w4 ⟨rfl, hk4⟩; have HK4 := hid hk4; have g4 := hk4.cell z4 id; have g0 := hk4.cell z0 id; have g1 := hk4.cell z1 id; have g2 := hk4.cell z2 id; clear hk4)
                            | (go_at_call 21; refine (HCL.out _ (K3.out.trans HK4.out)).mono ?_; rintro e9 w6 ⟨rfl, hk6⟩; have HK6 := hid hk6; have q0 := hk6.cell g0 id; have q1 := hk6.cell g1 id; have q2 := hk6.cell g2 id; have KX := hid ((K3.out.trans HK4.out).trans hk6); clear hk6)
                            | (at_builtin; refine wpList_app rfl _ _ 27 rfl 32 (txv (0, 0, 0)) 3 12 Try.underlying27 infoT rfl (by decide) (.slice da m dc) m _ rfl (by exact (SO.out.kept KX.out (fun _ _ => id)).alloc _) _ rfl 1 _ (tx_src _ y1 y2 y3 rfl) (by unfold maxLen; omega) (by omega) ?_; intro ga2 gc2 w8 ho3 hk3 hf3 _; have HA8 := hid ho3; have HK8 := hid hk3; have HF8 := hid hf3; clear ho3 hk3 hf3))
                          have k8 := ((Kept.refl (fun i => (Value.slice da m dc).ownBlock = some i) w6).alloc (.cells #[.int .u8 y1, .int .u32 y2, .int .u32 y3] 32)).trans HK8.out
                          have KN := hid ((KR.out.trans KX.out).trans' k8 (fun i h => .inr (SB.out i h)))
                          clear k8
                          go_roundw
                          case rel =>
                            have hln : (S ++ [((y1, y2, y3) : Tx)]).length = m + 1 := by rw [List.length_append, HMM.out]; rfl
                            refine ⟨k + 1, _, ga2, gc2, by rw [hln], by go_num, by omega, HSN.out, by rw [hln, HT.out]; exact HA8.out, fun b hb => ?_, KN.out⟩
                            rw [hln] at hb
                            rcases HF8.out b hb with h | h
                            · exact SB.out b h
                            · have := K5.out.size
                              have := KR.out.size
                              have := KX.out.size
                              simp at h
                              omega
                          case measure => (simp only [RowKit.intOf]; omega)
                · obtain rfl : k = n := by omega
                  have K6 := hid (K5.out.trans KR.out)
                  have OB6 := hid ((KR.out.block ob (row_lt OB5.out) id).trans OB5.out)
                  have LK6 := hid (LK5.out.same KR.out)
                  have LW6 := hid (LW5.out.same KR.out)
                  have HOX := hid (show ob < wr.heap.size ∧ w.heap.size ≤ w5.heap.size ∧ w5.heap.size ≤ wr.heap.size from ⟨row_lt OB6.out, K5.out.size, KR.out.size⟩)
                  have HWV := hid (show xb < w.heap.size ∧ ∀ b, v.ownBlock = some b → b < w.heap.size from ⟨row_lt H0.out.obj, fun b hb => H0.out.row.lt hb⟩)
                  have SL := hid (SO.out.lies (encT_one _) (F := fun i => i = xb ∨ v.ownBlock = some i) (fun b hb h => by
                    have h1 := SB.out b hb
                    have := HOX.out
                    rcases h with h | h
                    · have := HWV.out.1; omega
                    · have := HWV.out.2 b h; omega))
                  obtain ⟨m, hm⟩ : ∃ m, S.length = m := ⟨_, rfl⟩
                  have HMM := hid hm
                  rw [hm] at SO SB SL hsl ⊢
                  clear hm
                  go_wp2_with fail
                  go_loopw [98] (fun i wx => ∃ (j : Nat) (v2 : Value), j ≤ m ∧ i = .int .i64 j ∧ DGo D wr xb v D wx v2 (remS L (S.take j)) R) (fun i _ => m - (RowKit.intOf i).toNat)
                  case atStart => exact ⟨0, v, Nat.zero_le _, rfl, by rw [List.take_zero, remS_nil]; exact DGo.refl HR.out⟩
                  case round =>
                    rename World => wx
                    obtain ⟨j, v2, hj, rfl, hgo⟩ := hrel
                    have GO := hid hgo
                    clear hgo
                    by_cases hjt : j < m
                    · have hjI : (j : Int) < (m : Int) := by omega
                      obtain ⟨⟨y1, y2, y3⟩, hx⟩ : ∃ x, S[j]? = some x := ⟨_, List.getElem?_eq_getElem (by rw [HMM.out]; exact hjt)⟩
                      obtain ⟨g1, o1, rfl, q0, q1, q2⟩ := tx_cells (SL.out.kept GO.out.k (fun _ _ h => h)) HMM.out (Kept.refl _ _) hx
                      simp only at q0 q1 q2
                      obtain ⟨z0, z1, z2⟩ := cells3 (row_new wx (.cells #[.int .u8 y1, .int .u32 y2, .int .u32 y3] 32))
                      have k3 : Kept (fun _ => False) wx (wx.alloc (.cells #[.int .u8 y1, .int .u32 y2, .int .u32 y3] 32)) := (Kept.refl _ _).alloc _
                      have K3 := hid k3
                      have HD := hid (drop_any (GO.out.t.same k3) (Nat.le_trans (remS_len _ _) (Nat.le_trans HLL.out (by decide))) y1 y2 y3)
                      have HRS := hid (show dropO (remS L (S.take j)) (y1, y2, y3) = remS L (S.take (j + 1)) by rw [remS_drop, List.take_add_one, hx]; rfl)
                      clear hx k3
                      go_wp2_with (go_at_call 57; refine HD.out.mono ?_; rintro e9 w4 ⟨rfl, v3, ht3, hv3, hk3⟩; have HT3 := hid ht3; have HV3 := hid hv3; have HK3 := hid hk3; clear ht3 hv3 hk3)
                      have G4 := hid ((GO.out.same K3.out).trans (⟨HT3.out, fun _ h => .inl h, fun b hb => .inr (HV3.out b hb), HK3.out.mono (fun _ _ e => .inl e)⟩ : DGo D _ xb v2 D w4 v3 (dropO (remS L (S.take j)) (y1, y2, y3)) R))
                      go_roundw
                      case rel => exact ⟨j + 1, v3, by omega, by go_num, by rw [← HRS.out]; exact G4.out⟩
                      case measure => (simp only [RowKit.intOf]; omega)
                    · obtain rfl : j = m := by omega
                      have HRM := hid (show remS L (S.take j) = L.filter fun x => !hurt ⟨(t1, t2, t3), age, lk, [], false⟩ ws x by
                        rw [← HMM.out, List.take_length, ← HSS.out, ← HN.out]
                        exact remS_all HND.out _ _)
                      have hxo : ∀ i, (i = xb ∨ v.ownBlock = some i) → ¬ i = ob := fun i h e => by
                        have := HOW.out
                        rcases h with h | h
                        · have := HWV.out.1; omega
                        · have := HWV.out.2 i h; omega
                      have HXO := hid hxo
                      have OBx := hid ((GO.out.k.block ob HOX.out.1 (fun h => HXO.out ob h rfl)).trans OB6.out)
                      have LWx := hid (LW6.out.kept GO.out.k (fun _ _ h => h))
                      have LKx := hid (LK6.out.kept GO.out.k (fun i _ h hd => h.elim (fun e => H0.out.nx (e ▸ hd)) (fun e => H0.out.ng i e hd)))
                      have k7 := hid ((Kept.refl (fun _ => False) wx).alloc (.cells #[] 36))
                      clear hxo
                      go_wp2_with (first
                        | (at_builtin; refine wpList_app rfl _ _ 37 rfl 36 (.agg #[.int .u32 0, .int .u8 0]) 2 8 Try.underlying37 infoW rfl (by decide) (.slice (some ⟨wx.heap.size, 0, none⟩) 0 0) 0 [] rfl (by exact own_empty wx 36 2) _ rfl W9 (wcells ws) (by exact (LWx.out.same k7.out).src) (by have := HWL.out; unfold maxLen; omega) (by have := HWL.out; omega) ?_; intro na nc w7 ho7 hk7 hf7 _; simp only [Nat.zero_add, List.nil_append] at ho7 hf7; simp only [Nat.zero_add]; have HA7 := hid ho7; have HK7 := hid hk7; have HF7 := hid hf7; have OB7 := hid ((hk7.block ob (by have := row_lt OBx.out; simp; omega) (fun e => by have := row_lt OBx.out; simp [Value.ownBlock] at e; omega)).trans ((k7.out.block ob (row_lt OBx.out) id).trans OBx.out)); clear ho7 hk7 hf7)
                        | (refine wpList_store_cell rfl _ _ _ rfl (by kernel_rfl) ob 5 (by rfl) _ (by rfl) rfl OB7.out (by simp) ?_; intro w8 hb8 hk8; have OB8 := hid (show w8.heap[ob]? = some (onRow t1 t2 t3 age la lk.length lc na W9 nc false) from hb8.out); obtain ⟨f0, f1, f2, f3, f4, f5, f6⟩ := cells7 OB8.out))
                      have K78 := hid (show Kept (fun i => i = ob) wx w8 from (((k7.out.mono (fun _ _ h => h.elim)).trans' HK7.out (fun i hi => by simp [Value.ownBlock] at hi; exact .inr (by omega)))).trans hk8.out)
                      obtain ⟨E, hE⟩ : ∃ E : Nat → Prop, (fun i => D i ∨ (wx.heap.size ≤ i ∧ i < w8.heap.size)) = E := ⟨_, rfl⟩
                      have HE := hid (show ∀ i, E i ↔ D i ∨ (wx.heap.size ≤ i ∧ i < w8.heap.size) from fun i => by rw [← hE])
                      have HDW := hid (show ∀ i, D i → i < w.heap.size from H0.out.new)
                      have HSX := hid (show wr.heap.size ≤ wx.heap.size ∧ wx.heap.size ≤ w8.heap.size ∧ w7.heap.size ≤ w8.heap.size from ⟨GO.out.k.size, K78.out.size, hk8.out.size⟩)
                      have hv2 : ∀ b, v2.ownBlock = some b → b < wx.heap.size ∧ ¬ b = ob := fun b hb => ⟨GO.out.t.row.lt hb, fun e => by
                        have := HOX.out
                        have := HOW.out
                        rcases GO.out.o b hb with h | h
                        · have := HWV.out.2 b h; omega
                        · omega⟩
                      have T8 := hid (GO.out.t.grow K78.out (E := E) (fun e => HXO.out xb (.inl rfl) e) (fun b hb => (hv2 b hb).2) (fun i e hd => by have := HDW.out i hd; have := HOW.out; omega) (fun i hi => (HE.out i).2 (.inl hi))
                        (fun h => ((HE.out _).1 h).elim H0.out.nx (fun h => by have := HWV.out.1; have := HOX.out; have := HSX.out; omega))
                        (fun b hb h => ((HE.out _).1 h).elim (GO.out.t.ng b hb) (fun h => by have := (hv2 b hb).1; omega))
                        (fun i h => ((HE.out _).1 h).elim (fun h => by have := HDW.out i h; have := HOX.out; have := HSX.out; omega) (fun h => h.2)))
                      rw [HRM.out] at T8
                      have G8 := hid (show DGo D w xb v E w8 v2 (L.filter fun x => !hurt ⟨(t1, t2, t3), age, lk, [], false⟩ ws x) R from
                        ⟨T8.out, fun i hi => ((HE.out i).1 hi).imp id (fun h => by have := HOX.out; have := HSX.out; omega), fun b hb => (GO.out.o b hb).imp id (fun h => by have := HOX.out; omega),
                          ((K6.out.mono (fun _ _ h => h.elim)).trans GO.out.k).trans' K78.out (fun i e => .inr (by rw [e]; exact HOW.out))⟩)
                      have OX8 := hid (show OwD E w8 ⟨(t1, t2, t3), age, lk, ws, false⟩ ⟨la, lc, na, nc⟩ from
                        ⟨(LKx.out.kept K78.out (fun i _ e hd => by have := HDW.out i hd; have := HOW.out; omega)).mono (fun i _ h hd => h ((HE.out i).2 (.inl hd))), by
                          show Lies (fun i => ¬ E i) w8 2 (.slice na ws.length nc) ws.length (wcells ws)
                          rw [HW9.out]
                          have ha8 := HA7.out.kept hk8.out (fun b hb e => by
                            have := HOX.out
                            have := HSX.out
                            rcases HF7.out b hb with h | h
                            · simp [Value.ownBlock] at h; omega
                            · simp at h; omega)
                          refine ha8.lies (wcells_one _) (fun b hb h => h ((HE.out b).2 (.inr ⟨?_, ha8.lt hb⟩)))
                          rcases HF7.out b hb with h | h
                          · simp [Value.ownBlock] at h; omega
                          · simp at h; omega⟩)
                      have HIA := hid (show Inv0 (askL L ⟨(t1, t2, t3), age, lk, [], false⟩ ws) from by rw [← HWHO.out]; exact askL_inv HI.out (stO_ok HS9.out))
                      have HAG := hid (show askG L (t1, t2, t3) age ws = (settled (askL L ⟨(t1, t2, t3), age, lk, [], false⟩ ws)).2 ∧ askD L (t1, t2, t3) age ws = S ∧ askP L (t1, t2, t3) age ws = (settled (askL L ⟨(t1, t2, t3), age, lk, [], false⟩ ws)).1 from by
                        unfold askG askD askP
                        rw [HS9.out, if_pos rfl, if_pos rfl, if_pos rfl, HWHO.out]
                        exact ⟨rfl, by rw [← hurtS_all, HN.out]; exact HSS.out, rfl⟩)
                      have HFL := hid (show (L.filter fun x => !hurt ⟨(t1, t2, t3), age, lk, [], false⟩ ws x).length ≤ 90000 from Nat.le_trans (List.length_filter_le _ _) HLL.out)
                      clear hE hv2 f0 f1 f2 f3 f4 f5 f6
                      refine (lay_is T8.out (Nat.le_trans HFL.out (by decide)) OX8.out (by rw [← HW9.out]; rfl)).mono ?_
                      rintro e w9 ⟨rfl, v9, ht9, hv9, hk9⟩
                      have HT9 := hid ht9; have HV9 := hid hv9; have HK9 := hid hk9
                      have G9 := hid (G8.out.trans (⟨ht9, fun _ h => .inl h, fun b hb => .inr (hv9 b hb), hk9.mono (fun _ _ e => .inl e)⟩ : DGo E w8 xb v2 E w9 v9 _ _))
                      have hl9 : (askL L ⟨(t1, t2, t3), age, lk, [], false⟩ ws).length ≤ 100000 := by
                        have := askL_len L ⟨(t1, t2, t3), age, lk, [], false⟩ ws
                        have := HLL.out
                        omega
                      have hset := hid (dsettle_any (L := askL L ⟨(t1, t2, t3), age, lk, [], false⟩ ws) ht9 hl9 HIA.out.nod HIA.out.ok)
                      clear ht9 hv9 hk9 hl9
                      go_wp2_with fail
                      refine hset.out.mono ?_
                      rintro e w10 ⟨D', R', ga, gc, rfl, hst⟩
                      have HST := hid hst
                      clear hst hset
                      go_wp2
                      go_returns
                      rw [HS9.out, HAG.out.1, HAG.out.2.1, HAG.out.2.2]
                      have hsb : ∀ b, (Value.slice da j dc).ownBlock = some b → w.heap.size ≤ b ∧ b < wr.heap.size ∧ ¬ b = ob := fun b hb => ⟨by have := SB.out b hb; have := HOX.out; omega, SO.out.lt hb, fun e => SO.out.ne_block OB6.out (by decide) (by rw [← e]; exact hb)⟩
                      have S10 := ((((SO.out.kept GO.out.k (fun b hb h => by
                        have h1 := hsb b hb
                        rcases h with h | h
                        · have := HWV.out.1; omega
                        · have := HWV.out.2 b h; omega)).kept K78.out (fun b hb => (hsb b hb).2.2)).kept HK9.out (fun b hb e => by have h1 := hsb b hb; have := HWV.out.1; omega)).kept HST.out.k (fun b hb e => by
                        have h1 := hsb b hb
                        have h2 := HV9.out b e
                        have := HSX.out
                        omega))
                      refine ⟨_, _, D', v9, R', rfl, ⟨ga, gc, rfl, HST.out.g, fun b hb => Nat.le_trans G9.out.k.size (HST.out.n b hb).1⟩, ⟨da, dc, by rw [HMM.out]; rfl, by rw [HMM.out]; exact S10, fun b hb => by rw [HMM.out] at hb; exact (hsb b hb).1⟩, fun b hb => ?_, G9.out.trans HST.out.go⟩
                      rcases hb with hb | hb
                      · exact (HST.out.n b hb).2
                      · intro hd
                        have h1 := hsb b hb
                        have h9 := HK9.out.size
                        have := HSX.out
                        rcases HST.out.e b hd with h | h
                        · rcases (HE.out b).1 h with h | h
                          · have := HDW.out b h; omega
                          · omega
                        · omega
          · have haB : (oage != age) = true := by simpa using ha
            have HS9 := hid (show stO L (t1, t2, t3) age ws = 9 by unfold stO; rw [HCZ.out, if_neg (by simp), HWHO.out, if_pos (.inr (.inr ha))])
            clear ha
            have HAG := hid (show askG L (t1, t2, t3) age ws = [] ∧ askD L (t1, t2, t3) age ws = [] ∧ askP L (t1, t2, t3) age ws = L by unfold askG askD askP; rw [HS9.out]; exact ⟨rfl, rfl, rfl⟩)
            go_wp2_with (refine wpList_store_midr rfl 104 (.tmp 12) (.tmp 40) rfl 0 #[.int .u8 t1, .int .u32 t2, .int .u32 t3, .int .u64 oage, .slice la lk.length lc, .slice wa q wc, .bool false] #[.int .u8 t1, .int .u32 t2, .int .u32 t3, .int .u64 age, .slice none 0 0, .slice none 0 0, .bool false] (by rfl) (by rfl) (by exact OB4.out) (by simp) (by kernel_rfl) (by simp [Value.oneCell']) ?_; intro wq hbq hkq; have OBQ := hid (show wq.heap[ob]? = some (onRow t1 t2 t3 oage la lk.length lc wa q wc false) from hbq); obtain ⟨f0, f1, f2, f3, f4, f5, f6⟩ := cells7 OBQ.out; have HKQ := hid hkq; clear hkq hbq)
            go_returns
            rw [HS9.out, HAG.out.1, HAG.out.2.1, HAG.out.2.2]
            exact ⟨_, _, D, v, R, rfl, Txs.nil _ _, Txs.nil _ _, fun b hb => by simp [Value.ownBlock] at hb, (DGo.refl H0.out).same (K4.out.trans' HKQ.out (fun i e => .inr (by rw [e]; exact HOBW.out)))⟩
  · have hzB : (cz != 0) = true := by simpa using hz
    have HS9 := hid (show stO L (t1, t2, t3) age ws = cz by unfold stO; rw [HCZ.out, if_pos hz])
    have HAG := hid (show askG L (t1, t2, t3) age ws = [] ∧ askD L (t1, t2, t3) age ws = [] ∧ askP L (t1, t2, t3) age ws = L by unfold askG askD askP; rw [HS9.out, if_neg hz, if_neg hz, if_neg hz]; exact ⟨rfl, rfl, rfl⟩)
    clear hz
    go_wp2
    go_returns
    rw [HS9.out, HAG.out.1, HAG.out.2.1, HAG.out.2.2]
    exact ⟨_, _, D, v, R, rfl, Txs.nil _ _, Txs.nil _ _, fun b hb => by simp [Value.ownBlock] at hb, (DGo.refl H0.out).same K2.out⟩
end
end Go.Proofs.Ytpjhdpfaogdboaa
/- A nil table's answers, the program's and the document's. -/
namespace Go.Proofs.Ytpjhdpfaogdboaa
set_option linter.unusedSimpArgs false
set_option linter.unusedVariables false
open Go.RowKit
section
set_option maxRecDepth 100000
set_option maxHeartbeats 1000000
theorem hold_nil (w : World) (t1 t2 t3 : Int) : Calls Try.prog 15 #[.pointer none, .agg #[.int .u8 t1, .int .u32 t2, .int .u32 t3]] w fun e w' => e = .returned (.int .i64 6) ∧ Kept (fun _ => False) w w' := by
  have hk1 := (Kept.refl (fun _ => False) w).alloc (.cells #[.int .u8 t1, .int .u32 t2, .int .u32 t3] 32)
  obtain ⟨w1, hw1⟩ : ∃ w1, w.alloc (.cells #[.int .u8 t1, .int .u32 t2, .int .u32 t3] 32) = w1 := ⟨_, rfl⟩
  rw [hw1] at hk1
  have K1 := hid hk1; have HW1 := hid hw1
  clear hk1 hw1
  go_enter Try.func15, Try.ntmps15
  go_wp2_with fail
  rw [HW1.out]
  go_quiet (fail)
  have K2 := hid (K1.out.trans (kept_drewN (F := fun _ => False) w1 nq))
  go_wp2
  go_returns
  exact ⟨rfl, K2.out⟩
theorem rel_nil (w : World) (t1 t2 t3 : Int) : Calls Try.prog 16 #[.pointer none, .agg #[.int .u8 t1, .int .u32 t2, .int .u32 t3]] w fun e w' => e = .returned (.tuple #[.slice none 0 0, .int .i64 6]) ∧ Kept (fun _ => False) w w' := by
  have hk1 := (Kept.refl (fun _ => False) w).alloc (.cells #[.int .u8 t1, .int .u32 t2, .int .u32 t3] 32)
  obtain ⟨w1, hw1⟩ : ∃ w1, w.alloc (.cells #[.int .u8 t1, .int .u32 t2, .int .u32 t3] 32) = w1 := ⟨_, rfl⟩
  rw [hw1] at hk1
  have K1 := hid hk1; have HW1 := hid hw1
  clear hk1 hw1
  go_enter Try.func16, Try.ntmps16
  go_wp2
  go_returns
  exact ⟨rfl, by rw [HW1.out]; exact K1.out⟩
theorem locks_nil (w : World) (t1 t2 t3 : Int) : Calls Try.prog 20 #[.pointer none, .agg #[.int .u8 t1, .int .u32 t2, .int .u32 t3]] w fun e w' => e = .returned (.slice none 0 0) ∧ Kept (fun _ => False) w w' := by
  have hk1 := (Kept.refl (fun _ => False) w).alloc (.cells #[.int .u8 t1, .int .u32 t2, .int .u32 t3] 32)
  obtain ⟨w1, hw1⟩ : ∃ w1, w.alloc (.cells #[.int .u8 t1, .int .u32 t2, .int .u32 t3] 32) = w1 := ⟨_, rfl⟩
  rw [hw1] at hk1
  have K1 := hid hk1; have HW1 := hid hw1
  clear hk1 hw1
  go_enter Try.func20, Try.ntmps20
  go_wp2_with fail
  rw [HW1.out]
  go_quiet (fail)
  have K2 := hid (K1.out.trans (kept_drewN (F := fun _ => False) w1 nq))
  go_wp2
  go_returns
  exact ⟨rfl, K2.out⟩
theorem known_nil (w : World) (t1 t2 t3 : Int) : Calls Try.prog 18 #[.pointer none, .agg #[.int .u8 t1, .int .u32 t2, .int .u32 t3]] w fun e w' => e = .returned (.bool false) ∧ Kept (fun _ => False) w w' := by
  have hk1 := (Kept.refl (fun _ => False) w).alloc (.cells #[.int .u8 t1, .int .u32 t2, .int .u32 t3] 32)
  obtain ⟨w1, hw1⟩ : ∃ w1, w.alloc (.cells #[.int .u8 t1, .int .u32 t2, .int .u32 t3] 32) = w1 := ⟨_, rfl⟩
  rw [hw1] at hk1
  have K1 := hid hk1; have HW1 := hid hw1
  clear hk1 hw1
  go_enter Try.func18, Try.ntmps18
  go_wp2_with fail
  rw [HW1.out]
  go_quiet (fail)
  have K2 := hid (K1.out.trans (kept_drewN (F := fun _ => False) w1 nq))
  go_wp2
  go_returns
  exact ⟨rfl, K2.out⟩
theorem waiting_nil (w : World) : Calls Try.prog 17 #[.pointer none] w fun e w' => e = .returned (.slice none 0 0) ∧ Kept (fun _ => False) w w' := by
  have K := hid (Kept.refl (fun _ => False) w)
  go_enter Try.func17, Try.ntmps17
  go_wp2
  go_returns
  exact ⟨rfl, K.out⟩
theorem count_nil (w : World) : Calls Try.prog 13 #[.pointer none] w fun e w' => e = .returned (.int .i64 0) ∧ Kept (fun _ => False) w w' := by
  have K := hid (Kept.refl (fun _ => False) w)
  go_enter Try.func13, Try.ntmps13
  go_wp2
  go_returns
  exact ⟨rfl, K.out⟩
theorem dhold_nil (w : World) (t1 t2 t3 : Int) : Calls Try.prog 35 #[.pointer none, .agg #[.int .u8 t1, .int .u32 t2, .int .u32 t3]] w fun e w' => e = .returned (.int .i64 6) ∧ Kept (fun _ => False) w w' := by
  have hk1 := (Kept.refl (fun _ => False) w).alloc (.cells #[.int .u8 t1, .int .u32 t2, .int .u32 t3] 32)
  obtain ⟨w1, hw1⟩ : ∃ w1, w.alloc (.cells #[.int .u8 t1, .int .u32 t2, .int .u32 t3] 32) = w1 := ⟨_, rfl⟩
  rw [hw1] at hk1
  have K1 := hid hk1; have HW1 := hid hw1
  clear hk1 hw1
  go_enter Try.func35, Try.ntmps35
  go_wp2_with fail
  rw [HW1.out]
  refine (find_nil _ t1 t2 t3).mono ?_
  rintro e w2 ⟨rfl, hk2⟩
  have K2 := hid (K1.out.trans hk2)
  clear hk2
  go_wp2
  go_returns
  exact ⟨rfl, K2.out⟩
theorem drel_nil (w : World) (t1 t2 t3 : Int) : Calls Try.prog 36 #[.pointer none, .agg #[.int .u8 t1, .int .u32 t2, .int .u32 t3]] w fun e w' => e = .returned (.tuple #[.slice none 0 0, .int .i64 6]) ∧ Kept (fun _ => False) w w' := by
  have hk1 := (Kept.refl (fun _ => False) w).alloc (.cells #[.int .u8 t1, .int .u32 t2, .int .u32 t3] 32)
  obtain ⟨w1, hw1⟩ : ∃ w1, w.alloc (.cells #[.int .u8 t1, .int .u32 t2, .int .u32 t3] 32) = w1 := ⟨_, rfl⟩
  rw [hw1] at hk1
  have K1 := hid hk1; have HW1 := hid hw1
  clear hk1 hw1
  go_enter Try.func36, Try.ntmps36
  go_wp2
  go_returns
  exact ⟨rfl, by rw [HW1.out]; exact K1.out⟩
/-- a nil table's answer to Ask -/
def stN (ws : List Wt) : Int := if chkW ws ≠ 0 then chkW ws else 6
theorem askN {F : Nat → Prop} {w : World} {t1 t2 t3 age : Int} {a : Option Addr} {c : Nat} {ws : List Wt} (hl : Lies F w 2 (.slice a ws.length c) ws.length (wcells ws)) :
    Calls Try.prog 11 #[.pointer none, .agg #[.int .u8 t1, .int .u32 t2, .int .u32 t3], .int .u64 age, .slice a ws.length c] w fun e w' => e = .returned (.tuple #[.slice none 0 0, .slice none 0 0, .int .i64 (stN ws)]) ∧ Kept (fun _ => False) w w' := by
  unfold stN
  by_cases hz : chkW ws = 0
  · rw [if_neg (by simp [hz])]
    exact ask_nil hl hz
  · rw [if_pos hz]
    exact ask_err hl hz
theorem daskN {F : Nat → Prop} {w : World} {t1 t2 t3 age : Int} {a : Option Addr} {c : Nat} {ws : List Wt} (hl : Lies F w 2 (.slice a ws.length c) ws.length (wcells ws)) :
    Calls Try.prog 34 #[.pointer none, .agg #[.int .u8 t1, .int .u32 t2, .int .u32 t3], .int .u64 age, .slice a ws.length c] w fun e w' => e = .returned (.tuple #[.slice none 0 0, .slice none 0 0, .int .i64 (stN ws)]) ∧ Kept (fun _ => False) w w' := by
  have hk1 := (Kept.refl (fun _ => False) w).alloc (.cells #[.int .u8 t1, .int .u32 t2, .int .u32 t3] 32)
  obtain ⟨w1, hw1⟩ : ∃ w1, w.alloc (.cells #[.int .u8 t1, .int .u32 t2, .int .u32 t3] 32) = w1 := ⟨_, rfl⟩
  rw [hw1] at hk1
  have K1 := hid hk1; have HW1 := hid hw1
  clear hk1 hw1
  obtain ⟨z, hz⟩ : ∃ z, chkW ws = z := ⟨_, rfl⟩
  have HL := hid (hl.same K1.out)
  have HST := hid (show stN ws = if z ≠ 0 then z else 6 by unfold stN; rw [hz])
  have HZ := hid hz
  obtain ⟨n, hn⟩ : ∃ n, ws.length = n := ⟨_, rfl⟩
  have HN := hid hn
  rw [hn] at HL ⊢
  clear hl hz hn
  rw [HST.out]
  by_cases h0 : z = 0
  · rw [if_neg (by simp [h0])]
    go_enter Try.func34, Try.ntmps34
    go_wp2_with fail
    rw [HW1.out]
    refine (chkR_any HL.out HN.out).mono ?_
    rintro e w2 ⟨rfl, hk2⟩
    rw [HZ.out, h0]
    have K2 := hid (K1.out.trans hk2)
    clear hk2 h0
    go_wp2
    go_returns
    exact ⟨rfl, K2.out⟩
  · rw [if_pos h0]
    have hzB : (z != 0) = true := by simpa using h0
    go_enter Try.func34, Try.ntmps34
    go_wp2_with fail
    rw [HW1.out]
    refine (chkR_any HL.out HN.out).mono ?_
    rintro e w2 ⟨rfl, hk2⟩
    rw [HZ.out]
    have K2 := hid (K1.out.trans hk2)
    clear hk2 h0
    go_wp2
    go_returns
    exact ⟨rfl, K2.out⟩
end
end Go.Proofs.Ytpjhdpfaogdboaa
/- The program's table and the document's, side by side; both may be nil. -/
namespace Go.Proofs.Ytpjhdpfaogdboaa
set_option linter.unusedSimpArgs false
set_option linter.unusedVariables false
open Go.RowKit
def sX (S : Option (List Ow)) (t : Tx) (age : Int) (ws : List Wt) : Int := match S with | none => stN ws | some L => stO L t age ws
def gX (S : Option (List Ow)) (t : Tx) (age : Int) (ws : List Wt) : List Tx := match S with | none => [] | some L => askG L t age ws
def dX (S : Option (List Ow)) (t : Tx) (age : Int) (ws : List Wt) : List Tx := match S with | none => [] | some L => askD L t age ws
def pX (S : Option (List Ow)) (t : Tx) (age : Int) (ws : List Wt) : Option (List Ow) := match S with | none => none | some L => some (askP L t age ws)
def hE (S : Option (List Ow)) (t : Tx) : Int := match S with | none => 6 | some L => holdE L t
def hP (S : Option (List Ow)) (t : Tx) : Option (List Ow) := match S with | none => none | some L => some (holdP L t)
def rE (S : Option (List Ow)) : Int := match S with | none => 6 | some _ => 0
def rG (S : Option (List Ow)) (t : Tx) : List Tx := match S with | none => [] | some L => relG L t
def rP (S : Option (List Ow)) (t : Tx) : Option (List Ow) := match S with | none => none | some L => some (relP L t)
def lX (S : Option (List Ow)) (t : Tx) : List Wt := match S with | none => [] | some L => locksP L t
def wX (S : Option (List Ow)) : List Tx := match S with | none => [] | some L => waitP L
def kX (S : Option (List Ow)) (t : Tx) : Bool := match S with | none => false | some L => (findO L t).isSome
def fX (S : Option (List Ow)) (t : Tx) : Int := match S with | none => -1 | some L => fixO L t
def cX (S : Option (List Ow)) : Nat := match S with | none => 0 | some L => cnt L
abbrev PS (P D : Nat → Prop) (xb : Nat) (v : Value) : Nat → Prop := fun i => P i ∨ D i ∨ i = xb ∨ v.ownBlock = some i
/-- the blocks P belong to neither table -/
structure Tw (P : Nat → Prop) (w : World) (tb xb b : Nat) (L N : List Ow) (D : Nat → Prop) (v : Value) (R : Tx → Rw) : Prop where
  t : TabX (PS P D xb v) w tb L
  d : DT D w xb v N R
  a : ∀ i, P i → ¬ D i ∧ i ≠ xb ∧ v.ownBlock ≠ some i ∧ i < w.heap.size
  i : Inv L
  j : Inv N
  l : L.length ≤ b
  n : N.length ≤ b
section
variable {P : Nat → Prop} {w w' : World} {tb xb b : Nat} {L N : List Ow} {D : Nat → Prop} {v : Value} {R : Tx → Rw}
theorem Tw.prog (h : Tw P w tb xb b L N D v R) {Q : Nat → Prop} {b' : Nat} {L' : List Ow} (ht : TabX (fun i => PS P D xb v i ∨ Q i) w' tb L') (hq : ∀ i, Q i → w.heap.size ≤ i ∧ i < w'.heap.size) (hk : Kept (fun i => ¬ PS P D xb v i) w w') (hI : Inv L') (hl : L'.length ≤ b') (hb : b ≤ b') : Tw (fun i => P i ∨ Q i) w' tb xb b' L' N D v R where
  t := ht.mono fun i hi => by
    rcases hi with (hi | hi) | hi | hi | hi
    · exact .inl (.inl hi)
    · exact .inr hi
    · exact .inl (.inr (.inl hi))
    · exact .inl (.inr (.inr (.inl hi)))
    · exact .inl (.inr (.inr (.inr hi)))
  d := h.d.kept hk (fun h => h (.inr (.inr (.inl rfl)))) (fun b hb h => h (.inr (.inr (.inr hb)))) (fun i h hd => h (.inr (.inl hd)))
  a := fun i hi => by
    have hxs := row_lt h.d.obj
    rcases hi with hi | hi
    · have h1 := h.a i hi
      exact ⟨h1.1, h1.2.1, h1.2.2.1, Nat.lt_of_lt_of_le h1.2.2.2 hk.size⟩
    · have h1 := hq i hi
      exact ⟨fun hd => by have := h.d.new i hd; omega, by omega, fun e => by have := h.d.row.lt e; omega, h1.2⟩
  i := hI
  j := h.j
  l := hl
  n := Nat.le_trans h.n hb
theorem Tw.doc (h : Tw P w tb xb b L N D v R) {Q : Nat → Prop} {b' : Nat} {D' : Nat → Prop} {v' : Value} {M' : List Ow} {R' : Tx → Rw} (hg : DGo D w xb v D' w' v' M' R') (hq : ∀ i, Q i → w.heap.size ≤ i ∧ i < w'.heap.size ∧ ¬ D' i ∧ v'.ownBlock ≠ some i) (hI : Inv M') (hl : M'.length ≤ b') (hb : b ≤ b') : Tw (fun i => P i ∨ Q i) w' tb xb b' L M' D' v' R' where
  t := h.t.fresh hg.k (fun i _ hi => by
      rcases hi with hi | hi
      · exact .inr (.inr (.inl hi))
      · exact .inr (.inr (.inr hi))) (fun i hi => by
    rcases hi with (hi | hi) | hi | hi | hi
    · exact .inl (.inl hi)
    · have h1 := hq i hi; exact .inr ⟨h1.1, h1.2.1⟩
    · exact (hg.d i hi).elim (fun h1 => .inl (.inr (.inl h1))) (fun h1 => .inr ⟨h1, hg.t.new i hi⟩)
    · exact .inl (.inr (.inr (.inl hi)))
    · exact (hg.o i hi).elim (fun h1 => .inl (.inr (.inr (.inr h1)))) (fun h1 => .inr ⟨h1, hg.t.row.lt hi⟩))
  d := hg.t
  a := fun i hi => by
    have hxs := row_lt h.d.obj
    rcases hi with hi | hi
    · have h1 := h.a i hi
      exact ⟨fun hd => (hg.d i hd).elim h1.1 (fun h2 => by omega), h1.2.1, fun e => (hg.o i e).elim h1.2.2.1 (fun h2 => by omega), Nat.lt_of_lt_of_le h1.2.2.2 hg.k.size⟩
    · have h1 := hq i hi
      exact ⟨h1.2.2.1, by omega, h1.2.2.2, h1.2.1⟩
  i := h.i
  j := hI
  l := Nat.le_trans h.l hb
  n := hl
theorem Tw.kP (h : Tw P w tb xb b L N D v R) {D' : Nat → Prop} {v' : Value} {M' : List Ow} {R' : Tx → Rw} (hg : DGo D w xb v D' w' v' M' R') : Kept (fun i => ¬ P i) w w' :=
  hg.k.mono fun i _ hi hp => by
    have h1 := h.a i hp
    rcases hi with hi | hi
    · exact h1.2.1 hi
    · exact h1.2.2.1 hi
theorem Tw.grow (h : Tw P w tb xb b L N D v R) {Q F : Nat → Prop} (k : Kept F w w') (hF : ∀ i, i < w.heap.size → F i → P i) (hq : ∀ i, Q i → P i ∨ (w.heap.size ≤ i ∧ i < w'.heap.size)) : Tw Q w' tb xb b L N D v R where
  t := h.t.fresh k (fun i hi hf => .inl (hF i hi hf)) (fun i hi => by
    rcases hi with hi | hi
    · exact (hq i hi).imp .inl id
    · exact .inl (.inr hi))
  d := h.d.kept k (fun hf => (h.a xb (hF xb (row_lt h.d.obj) hf)).2.1 rfl) (fun b hb hf => (h.a b (hF b (h.d.row.lt hb) hf)).2.2.1 hb) (fun i hf hd => (h.a i (hF i (h.d.new i hd) hf)).1 hd)
  a := fun i hi => by
    have hxs := row_lt h.d.obj
    rcases hq i hi with hi | hi
    · have h1 := h.a i hi
      exact ⟨h1.1, h1.2.1, h1.2.2.1, Nat.lt_of_lt_of_le h1.2.2.2 k.size⟩
    · exact ⟨fun hd => by have := h.d.new i hd; omega, by omega, fun e => by have := h.d.row.lt e; omega, hi.2⟩
  i := h.i
  j := h.j
  l := h.l
  n := h.n
end
/-- both nil, or both there -/
def Bo (P : Nat → Prop) (w : World) (tv xv : Value) (b : Nat) (S M : Option (List Ow)) : Prop :=
  (tv = .pointer none ∧ xv = .pointer none ∧ S = none ∧ M = none ∧ ∀ i, P i → i < w.heap.size) ∨ ∃ tb xb L N D v R, tv = .pointer (some ⟨tb, 0, none⟩) ∧ xv = .pointer (some ⟨xb, 0, none⟩) ∧ S = some L ∧ M = some N ∧ Tw P w tb xb b L N D v R
theorem Txs.lt {w0 w : World} {v : Value} {S : List Tx} (h : Txs w0 w v S) {i : Nat} (hi : v.ownBlock = some i) : w0.heap.size ≤ i ∧ i < w.heap.size := by
  obtain ⟨a, c, rfl, ho, hn⟩ := h
  exact ⟨hn i hi, ho.lt hi⟩
theorem Wts.lt {w0 w : World} {v : Value} {S : List Wt} (h : Wts w0 w v S) {i : Nat} (hi : v.ownBlock = some i) : w0.heap.size ≤ i ∧ i < w.heap.size := by
  obtain ⟨a, c, rfl, ho, hn⟩ := h
  exact ⟨hn i hi, ho.lt hi⟩
theorem Txs.ne {w0 w : World} {v v' : Value} {S : List Tx} {n : Nat} {xs : List Value} (h : Txs w0 w v S) (h' : Own w 104 7 v' n xs) {i : Nat} (hi : v.ownBlock = some i) : v'.ownBlock ≠ some i := by
  obtain ⟨a, c, rfl, ho, hn⟩ := h
  exact ho.ne h' (by decide) hi
section
variable {P : Nat → Prop} {w w' : World} {tv xv : Value} {b : Nat} {S M : Option (List Ow)}
theorem Bo.grow (h : Bo P w tv xv b S M) {Q F : Nat → Prop} (k : Kept F w w') (hF : ∀ i, i < w.heap.size → F i → P i) (hq : ∀ i, Q i → P i ∨ (w.heap.size ≤ i ∧ i < w'.heap.size)) : Bo Q w' tv xv b S M := by
  rcases h with ⟨h1, h2, h3, h4, h5⟩ | ⟨tb, xb, L, N, D, v, R, h1, h2, h3, h4, h5⟩
  · exact .inl ⟨h1, h2, h3, h4, fun i hi => (hq i hi).elim (fun h => Nat.lt_of_lt_of_le (h5 i h) k.size) (fun h => h.2)⟩
  · exact .inr ⟨tb, xb, L, N, D, v, R, h1, h2, h3, h4, h5.grow k hF hq⟩
theorem Bo.same (h : Bo P w tv xv b S M) (k : Kept (fun _ => False) w w') : Bo P w' tv xv b S M := h.grow k (fun _ _ h => h.elim) (fun _ => .inl)
theorem Bo.lt (h : Bo P w tv xv b S M) {i : Nat} (hi : P i) : i < w.heap.size := by
  rcases h with ⟨h1, h2, h3, h4, h5⟩ | ⟨tb, xb, L, N, D, v, R, h1, h2, h3, h4, h5⟩
  · exact h5 i hi
  · exact (h5.a i hi).2.2.2
theorem Bo.more (h : Bo P w tv xv b S M) (k : Kept (fun _ => False) w w') {Q : Nat → Prop} (hq : ∀ i, Q i → w.heap.size ≤ i ∧ i < w'.heap.size) : Bo (fun i => P i ∨ Q i) w' tv xv b S M := h.grow k (fun _ _ h => h.elim) (fun i hi => hi.imp id (hq i))
theorem cnt_small {L : List Ow} {b : Nat} (h : Inv L) (hl : L.length ≤ b) (hb : b ≤ 1000) : cnt L ≤ 1000000 := by
  have := cnt_bound h.ok
  omega
theorem none_own {i : Nat} (h : (Value.slice none 0 0).ownBlock = some i) : False := by simp [Value.ownBlock] at h
theorem b_ask (h : Bo P w tv xv b S M) (hb : b ≤ 1000) {a : Option Addr} {c : Nat} {ws : List Wt} (hl : Lies (fun i => ¬ P i) w 2 (.slice a ws.length c) ws.length (wcells ws)) (t1 t2 t3 age : Int) :
    Calls Try.prog 11 #[tv, .agg #[.int .u8 t1, .int .u32 t2, .int .u32 t3], .int .u64 age, .slice a ws.length c] w fun e w' => ∃ v1 v2, e = .returned (.tuple #[v1, v2, .int .i64 (sX S (t1, t2, t3) age ws)]) ∧ Txs w w' v1 (gX S (t1, t2, t3) age ws) ∧ Txs w w' v2 (dX S (t1, t2, t3) age ws)
      ∧ Bo (fun i => P i ∨ (v1.ownBlock = some i ∨ v2.ownBlock = some i)) w' tv xv (b + 1) (pX S (t1, t2, t3) age ws) M ∧ Kept (fun i => ¬ P i) w w' := by
  rcases h with ⟨rfl, rfl, rfl, rfl, h5⟩ | ⟨tb, xb, L, N, D, v, R, rfl, rfl, rfl, rfl, h5⟩
  · refine (askN hl).mono ?_
    rintro e w' ⟨rfl, hk⟩
    refine ⟨_, _, rfl, Txs.nil _ _, Txs.nil _ _, .inl ⟨rfl, rfl, rfl, rfl, fun i hi => ?_⟩, hk.mono (fun _ _ h => h.elim)⟩
    rcases hi with hi | hi | hi
    · exact Nat.lt_of_lt_of_le (h5 i hi) hk.size
    · exact (none_own hi).elim
    · exact (none_own hi).elim
  · refine (ask_x h5.t (t1, t2, t3) age (hl.mono (fun g _ h hp => h (.inl hp))) (cnt_small h5.i h5.l hb) (by have := h5.l; omega)).mono ?_
    rintro e w' ⟨v1, v2, rfl, h1, h2, ht, hk⟩
    exact ⟨v1, v2, rfl, h1, h2, .inr ⟨tb, xb, _, N, D, v, R, rfl, rfl, rfl, rfl, h5.prog ht (fun i hi => hi.elim h1.lt h2.lt) hk (askP_inv h5.i _ _ _) (by have := askP_len L (t1, t2, t3) age ws; have := h5.l; omega) (by omega)⟩, hk.mono (fun i _ h hp => h (.inl hp))⟩
theorem b_dask (h : Bo P w tv xv b S M) (hb : b ≤ 1000) {a : Option Addr} {c : Nat} {ws : List Wt} (hl : Lies (fun i => ¬ P i) w 2 (.slice a ws.length c) ws.length (wcells ws)) (t1 t2 t3 age : Int) :
    Calls Try.prog 34 #[xv, .agg #[.int .u8 t1, .int .u32 t2, .int .u32 t3], .int .u64 age, .slice a ws.length c] w fun e w' => ∃ v1 v2, e = .returned (.tuple #[v1, v2, .int .i64 (sX M (t1, t2, t3) age ws)]) ∧ Txs w w' v1 (gX M (t1, t2, t3) age ws) ∧ Txs w w' v2 (dX M (t1, t2, t3) age ws)
      ∧ Bo (fun i => P i ∨ (v1.ownBlock = some i ∨ v2.ownBlock = some i)) w' tv xv (b + 1) S (pX M (t1, t2, t3) age ws) ∧ Kept (fun i => ¬ P i) w w' := by
  rcases h with ⟨rfl, rfl, rfl, rfl, h5⟩ | ⟨tb, xb, L, N, D, v, R, rfl, rfl, rfl, rfl, h5⟩
  · refine (daskN hl).mono ?_
    rintro e w' ⟨rfl, hk⟩
    refine ⟨_, _, rfl, Txs.nil _ _, Txs.nil _ _, .inl ⟨rfl, rfl, rfl, rfl, fun i hi => ?_⟩, hk.mono (fun _ _ h => h.elim)⟩
    rcases hi with hi | hi | hi
    · exact Nat.lt_of_lt_of_le (h5 i hi) hk.size
    · exact (none_own hi).elim
    · exact (none_own hi).elim
  · refine (dask_any h5.d (by have := h5.n; omega) h5.j.toInv0 (cnt_small h5.j h5.n hb) (hl.mono (fun g _ h hp => h.elim (h5.a g hp).2.1 (h5.a g hp).2.2.1)) t1 t2 t3 age).mono ?_
    rintro e w' ⟨v1, v2, D', v', R', rfl, h1, h2, hne, hg⟩
    refine ⟨v1, v2, rfl, h1, h2, .inr ⟨tb, xb, L, _, D', v', R', rfl, rfl, rfl, rfl, h5.doc hg (fun i hi => ?_) (askP_inv h5.j _ _ _) (by have := askP_len N (t1, t2, t3) age ws; have := h5.n; omega) (by omega)⟩, h5.kP hg⟩
    have h9 := hne i hi
    rcases hi with hi | hi
    · exact ⟨(h1.lt hi).1, (h1.lt hi).2, h9, h1.ne hg.t.row hi⟩
    · exact ⟨(h2.lt hi).1, (h2.lt hi).2, h9, h2.ne hg.t.row hi⟩
theorem b_hold (h : Bo P w tv xv b S M) (t1 t2 t3 : Int) :
    Calls Try.prog 15 #[tv, .agg #[.int .u8 t1, .int .u32 t2, .int .u32 t3]] w fun e w' => e = .returned (.int .i64 (hE S (t1, t2, t3))) ∧ Bo P w' tv xv b (hP S (t1, t2, t3)) M ∧ Kept (fun i => ¬ P i) w w' := by
  rcases h with ⟨rfl, rfl, rfl, rfl, h5⟩ | ⟨tb, xb, L, N, D, v, R, rfl, rfl, rfl, rfl, h5⟩
  · refine (hold_nil w t1 t2 t3).mono ?_
    rintro e w' ⟨rfl, hk⟩
    exact ⟨rfl, .inl ⟨rfl, rfl, rfl, rfl, fun i hi => Nat.lt_of_lt_of_le (h5 i hi) hk.size⟩, hk.mono (fun _ _ h => h.elim)⟩
  · refine (hold_x h5.t (t1, t2, t3)).mono ?_
    rintro e w' ⟨rfl, ht, hk⟩
    have h9 := h5.prog (Q := fun _ => False) (ht.mono (fun i hi => hi.elim id (fun h => h.elim))) (fun i hi => hi.elim) hk (holdP_inv h5.i (t1, t2, t3)) (by rw [holdP_len]; exact h5.l) (Nat.le_refl _)
    exact ⟨rfl, .inr ⟨tb, xb, _, N, D, v, R, rfl, rfl, rfl, rfl, h9.grow (Kept.refl (fun _ => False) _) (fun _ _ h => h.elim) (fun i hi => .inl (.inl hi))⟩, hk.mono (fun i _ h hp => h (.inl hp))⟩
theorem b_dhold (h : Bo P w tv xv b S M) (t1 t2 t3 : Int) :
    Calls Try.prog 35 #[xv, .agg #[.int .u8 t1, .int .u32 t2, .int .u32 t3]] w fun e w' => e = .returned (.int .i64 (hE M (t1, t2, t3))) ∧ Bo P w' tv xv b S (hP M (t1, t2, t3)) ∧ Kept (fun i => ¬ P i) w w' := by
  rcases h with ⟨rfl, rfl, rfl, rfl, h5⟩ | ⟨tb, xb, L, N, D, v, R, rfl, rfl, rfl, rfl, h5⟩
  · refine (dhold_nil w t1 t2 t3).mono ?_
    rintro e w' ⟨rfl, hk⟩
    exact ⟨rfl, .inl ⟨rfl, rfl, rfl, rfl, fun i hi => Nat.lt_of_lt_of_le (h5 i hi) hk.size⟩, hk.mono (fun _ _ h => h.elim)⟩
  · refine (dhold_any h5.d h5.j.nod t1 t2 t3).mono ?_
    rintro e w' ⟨rfl, hg⟩
    have h9 := h5.doc (Q := fun _ => False) hg (fun i hi => hi.elim) (holdP_inv h5.j (t1, t2, t3)) (by rw [holdP_len]; exact h5.n) (Nat.le_refl _)
    exact ⟨rfl, .inr ⟨tb, xb, L, _, D, v, R, rfl, rfl, rfl, rfl, h9.grow (Kept.refl (fun _ => False) _) (fun _ _ h => h.elim) (fun i hi => .inl (.inl hi))⟩, h5.kP hg⟩
theorem b_rel (h : Bo P w tv xv b S M) (hb : b ≤ 1000) (t1 t2 t3 : Int) :
    Calls Try.prog 16 #[tv, .agg #[.int .u8 t1, .int .u32 t2, .int .u32 t3]] w fun e w' => ∃ v1, e = .returned (.tuple #[v1, .int .i64 (rE S)]) ∧ Txs w w' v1 (rG S (t1, t2, t3)) ∧ Bo (fun i => P i ∨ v1.ownBlock = some i) w' tv xv b (rP S (t1, t2, t3)) M ∧ Kept (fun i => ¬ P i) w w' := by
  rcases h with ⟨rfl, rfl, rfl, rfl, h5⟩ | ⟨tb, xb, L, N, D, v, R, rfl, rfl, rfl, rfl, h5⟩
  · refine (rel_nil w t1 t2 t3).mono ?_
    rintro e w' ⟨rfl, hk⟩
    exact ⟨_, rfl, Txs.nil _ _, .inl ⟨rfl, rfl, rfl, rfl, fun i hi => hi.elim (fun hi => Nat.lt_of_lt_of_le (h5 i hi) hk.size) (fun hi => (none_own hi).elim)⟩, hk.mono (fun _ _ h => h.elim)⟩
  · refine (rel_x h5.t (t1, t2, t3) (by have := h5.l; omega)).mono ?_
    rintro e w' ⟨v1, rfl, h1, ht, hk⟩
    exact ⟨v1, rfl, h1, .inr ⟨tb, xb, _, N, D, v, R, rfl, rfl, rfl, rfl, h5.prog ht (fun i hi => h1.lt hi) hk (relP_inv h5.i _) (by have := relP_len L (t1, t2, t3); have := h5.l; omega) (Nat.le_refl _)⟩, hk.mono (fun i _ h hp => h (.inl hp))⟩
theorem b_drel (h : Bo P w tv xv b S M) (hb : b ≤ 1000) (t1 t2 t3 : Int) :
    Calls Try.prog 36 #[xv, .agg #[.int .u8 t1, .int .u32 t2, .int .u32 t3]] w fun e w' => ∃ v1, e = .returned (.tuple #[v1, .int .i64 (rE M)]) ∧ Txs w w' v1 (rG M (t1, t2, t3)) ∧ Bo (fun i => P i ∨ v1.ownBlock = some i) w' tv xv b S (rP M (t1, t2, t3)) ∧ Kept (fun i => ¬ P i) w w' := by
  rcases h with ⟨rfl, rfl, rfl, rfl, h5⟩ | ⟨tb, xb, L, N, D, v, R, rfl, rfl, rfl, rfl, h5⟩
  · refine (drel_nil w t1 t2 t3).mono ?_
    rintro e w' ⟨rfl, hk⟩
    exact ⟨_, rfl, Txs.nil _ _, .inl ⟨rfl, rfl, rfl, rfl, fun i hi => hi.elim (fun hi => Nat.lt_of_lt_of_le (h5 i hi) hk.size) (fun hi => (none_own hi).elim)⟩, hk.mono (fun _ _ h => h.elim)⟩
  · refine (drel_any h5.d (by have := h5.n; omega) h5.j.nod h5.j.ok t1 t2 t3).mono ?_
    rintro e w' ⟨v1, D', v', R', rfl, h1, hne, hg⟩
    exact ⟨v1, rfl, h1, .inr ⟨tb, xb, L, _, D', v', R', rfl, rfl, rfl, rfl, h5.doc hg (fun i hi => ⟨(h1.lt hi).1, (h1.lt hi).2, hne i hi, h1.ne hg.t.row hi⟩) (relP_inv h5.j _) (by have := relP_len N (t1, t2, t3); have := h5.n; omega) (Nat.le_refl _)⟩, h5.kP hg⟩
theorem b_locks (h : Bo P w tv xv b S M) (t1 t2 t3 : Int) :
    Calls Try.prog 20 #[tv, .agg #[.int .u8 t1, .int .u32 t2, .int .u32 t3]] w fun e w' => ∃ v1, e = .returned v1 ∧ Wts w w' v1 (lX S (t1, t2, t3)) ∧ Bo (fun i => P i ∨ v1.ownBlock = some i) w' tv xv b S M ∧ Kept (fun _ => False) w w' := by
  rcases h with ⟨rfl, rfl, rfl, rfl, h5⟩ | ⟨tb, xb, L, N, D, v, R, rfl, rfl, rfl, rfl, h5⟩
  · refine (locks_nil w t1 t2 t3).mono ?_
    rintro e w' ⟨rfl, hk⟩
    exact ⟨_, rfl, Wts.nil _ _, .inl ⟨rfl, rfl, rfl, rfl, fun i hi => hi.elim (fun hi => Nat.lt_of_lt_of_le (h5 i hi) hk.size) (fun hi => (none_own hi).elim)⟩, hk⟩
  · refine (locks_x h5.t (t1, t2, t3)).mono ?_
    rintro e w' ⟨v1, rfl, h1, ht, hk⟩
    exact ⟨v1, rfl, h1, .inr ⟨tb, xb, L, N, D, v, R, rfl, rfl, rfl, rfl, h5.prog ht (fun i hi => h1.lt hi) (hk.mono (fun _ _ h => h.elim)) h5.i h5.l (Nat.le_refl _)⟩, hk⟩
theorem b_dlocks (h : Bo P w tv xv b S M) (t1 t2 t3 : Int) :
    Calls Try.prog 37 #[xv, .agg #[.int .u8 t1, .int .u32 t2, .int .u32 t3]] w fun e w' => ∃ v1, e = .returned v1 ∧ LWts w' v1 (lX M (t1, t2, t3)) ∧ Kept (fun _ => False) w w' := by
  rcases h with ⟨rfl, rfl, rfl, rfl, h5⟩ | ⟨tb, xb, L, N, D, v, R, rfl, rfl, rfl, rfl, h5⟩
  · refine (dlocks_nil w t1 t2 t3).mono ?_
    rintro e w' ⟨rfl, hk⟩
    exact ⟨_, rfl, ⟨none, 0, rfl, Lies.nil _ _ _⟩, hk⟩
  · exact dlocks_any h5.d h5.j.nod t1 t2 t3
theorem b_wait (h : Bo P w tv xv b S M) (hb : b ≤ 1000) :
    Calls Try.prog 17 #[tv] w fun e w' => ∃ v1, e = .returned v1 ∧ Txs w w' v1 (wX S) ∧ Bo (fun i => P i ∨ v1.ownBlock = some i) w' tv xv b S M ∧ Kept (fun _ => False) w w' := by
  rcases h with ⟨rfl, rfl, rfl, rfl, h5⟩ | ⟨tb, xb, L, N, D, v, R, rfl, rfl, rfl, rfl, h5⟩
  · refine (waiting_nil w).mono ?_
    rintro e w' ⟨rfl, hk⟩
    exact ⟨_, rfl, Txs.nil _ _, .inl ⟨rfl, rfl, rfl, rfl, fun i hi => hi.elim (fun hi => Nat.lt_of_lt_of_le (h5 i hi) hk.size) (fun hi => (none_own hi).elim)⟩, hk⟩
  · refine (waiting_x h5.t (by have := h5.l; omega)).mono ?_
    rintro e w' ⟨v1, rfl, h1, ht, hk⟩
    exact ⟨v1, rfl, h1, .inr ⟨tb, xb, L, N, D, v, R, rfl, rfl, rfl, rfl, h5.prog ht (fun i hi => h1.lt hi) (hk.mono (fun _ _ h => h.elim)) h5.i h5.l (Nat.le_refl _)⟩, hk⟩
theorem b_dwait (h : Bo P w tv xv b S M) (hb : b ≤ 1000) :
    Calls Try.prog 38 #[xv] w fun e w' => ∃ v1, e = .returned v1 ∧ Txs w w' v1 (wX M) ∧ Kept (fun _ => False) w w' := by
  rcases h with ⟨rfl, rfl, rfl, rfl, h5⟩ | ⟨tb, xb, L, N, D, v, R, rfl, rfl, rfl, rfl, h5⟩
  · refine (dwaiting_nil w).mono ?_
    rintro e w' ⟨rfl, hk⟩
    exact ⟨_, rfl, Txs.nil _ _, hk⟩
  · exact dwaiting_any h5.d (by have := h5.n; omega)
theorem b_known (h : Bo P w tv xv b S M) (t1 t2 t3 : Int) :
    Calls Try.prog 18 #[tv, .agg #[.int .u8 t1, .int .u32 t2, .int .u32 t3]] w fun e w' => e = .returned (.bool (kX S (t1, t2, t3))) ∧ Kept (fun _ => False) w w' := by
  rcases h with ⟨rfl, rfl, rfl, rfl, h5⟩ | ⟨tb, xb, L, N, D, v, R, rfl, rfl, rfl, rfl, h5⟩
  · exact known_nil w t1 t2 t3
  · exact known_x h5.t (t1, t2, t3)
theorem b_find (h : Bo P w tv xv b S M) (t1 t2 t3 : Int) :
    Calls Try.prog 39 #[xv, .agg #[.int .u8 t1, .int .u32 t2, .int .u32 t3]] w fun e w' => e = .returned (.int .i64 (fX M (t1, t2, t3))) ∧ Kept (fun _ => False) w w' := by
  rcases h with ⟨rfl, rfl, rfl, rfl, h5⟩ | ⟨tb, xb, L, N, D, v, R, rfl, rfl, rfl, rfl, h5⟩
  · exact find_nil w t1 t2 t3
  · exact find_any h5.d t1 t2 t3
theorem b_count (h : Bo P w tv xv b S M) (hb : b ≤ 1000) :
    Calls Try.prog 13 #[tv] w fun e w' => e = .returned (.int .i64 (cX S)) ∧ Kept (fun _ => False) w w' := by
  rcases h with ⟨rfl, rfl, rfl, rfl, h5⟩ | ⟨tb, xb, L, N, D, v, R, rfl, rfl, rfl, rfl, h5⟩
  · exact count_nil w
  · exact count_x h5.t (cnt_small h5.i h5.l hb)
theorem b_dcount (h : Bo P w tv xv b S M) (hb : b ≤ 1000) :
    Calls Try.prog 40 #[xv] w fun e w' => e = .returned (.int .i64 (cX M)) ∧ Kept (fun _ => False) w w' := by
  rcases h with ⟨rfl, rfl, rfl, rfl, h5⟩ | ⟨tb, xb, L, N, D, v, R, rfl, rfl, rfl, rfl, h5⟩
  · exact dcount_nil w
  · exact dcount_any h5.d (cnt_small h5.j h5.n hb)
theorem fix_known (h : Bo P w tv xv b S M) (t : Tx) : decide (0 ≤ fX M t) = kX M t := by
  rcases h with ⟨rfl, rfl, rfl, rfl, h5⟩ | ⟨tb, xb, L, N, D, v, R, rfl, rfl, rfl, rfl, h5⟩
  · rfl
  · show decide (0 ≤ fixO N t) = (findO N t).isSome
    rcases fixO_find h5.j.nod t with ⟨h1, h2⟩ | ⟨k, o, _, h1, _, h2⟩
    · rw [h1, h2]; rfl
    · rw [h1, h2]; simp
end
end Go.Proofs.Ytpjhdpfaogdboaa
