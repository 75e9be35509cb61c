/- Texts of this claim, merged: F, H, I. -/
import Derived.LoopIn
import Derived.LoopNIn
import Derived.Maps.AppendAt
import Derived.RangeFuncBound
import Derived.RangeFuncBox
import Derived.RangeFuncCalls
import Derived.RangeFuncLeaves
import Derived.RangeFuncNested
import Derived.Shelf.Abstract
import Derived.Shelf.RegionOpen
import Derived.TacticsInMore
import Derived.Test.YtpjhdpfaogdboaaPm1
import Derived.Test.YtpjhdpfaogdboaaPm2
import Derived.Test.YtpjhdpfaogdboaaPm3
import Derived.Test.YtpjhdpfaogdboaaPm4
import Derived.Test.YtpjhdpfaogdboaaPm5
import Derived.Test.YtpjhdpfaogdboaaPm6
import Derived.Test.YtpjhdpfaogdboaaPm7
import Derived.Test.YtpjhdpfaogdboaaPm8
import Derived.Test.YtpjhdpfaogdboaaPm9
/- maps.Values of the table's map, collected: pointers of owners, in any order. -/
namespace Go.Proofs.Ytpjhdpfaogdboaa
set_option linter.unusedSimpArgs false
set_option linter.unusedVariables false
open Go.RowKit Go.Shelf
attribute [local go_sem] Oper.semAt_some
theorem perm_erase0 {α : Type} : ∀ (l : List α) (i : Nat) (x : α), l[i]? = some x → (x :: l.eraseIdx i).Perm l
  | [], _, _, h => by simp at h
  | y :: l, 0, x, h => by simp at h; subst h; simp
  | y :: l, i + 1, x, h => by
    have := perm_erase0 l i x (by simpa using h)
    simp only [List.eraseIdx_cons_succ]
    exact (List.Perm.swap _ _ _).trans (this.cons y)
def vprs (L : List (Tx × Nat)) : List (Value × Value) := L.map fun p => (txv p.1, ptr p.2)
set_option maxRecDepth 100000 in
set_option maxHeartbeats 1000000 in
theorem vals1_in (F : Fence) (n : Nat) (h10 : F.fn 62) (hro : F.round = none) (hn : 1 ≤ n) (l Bm b : Nat) (L : List (Tx × Nat)) (J Jx : List Nat → World → Prop)
    (hY : ∀ pre x W, J pre W → pre.length < L.length → YieldAt F (n - 1) Try.prog l #[ptr x] W fun e W' =>
      (e = .returned (.bool true) ∧ J (pre ++ [x]) W' ∧ KeepsWalks W W') ∨ (e = .returned (.bool false) ∧ Jx (pre ++ [x]) W'))
    (W : World) (hJ : AbidesFrom W.heap.size J) (hm : W.cell? ⟨Bm, 0, none⟩ = some (.map (some b))) (hE : MapOf W b (vprs L)) (h0 : J [] W) :
    CallsIn F n Try.prog 62 #[.func (.yield l) #[] #[], .pointer (some ⟨Bm, 0, none⟩)] W fun e W' => (∃ v, e = .returned v) ∧
      ((∃ ss : List Nat, ss.Perm (L.map (·.2)) ∧ J ss W') ∨ (∃ pre : List Nat, True ∧ Jx pre W')) := by
  refine callsIn_of_wp Try.func62 rfl h10 ?_ hro
  simp only [Try.ntmps62, List.size_toArray, List.length_cons, List.length_nil, Nat.reduceAdd, Nat.reduceSub, Array.replicate_succ, Array.replicate_zero, List.push_toArray, List.append_toArray, List.nil_append, List.cons_append]
  gi_wp2_with (gi_at_range; refine wpListIn_rng rfl _ 61 rfl 32 65 Try.underlying61 b _ rfl hE ?_; intro w0 hrg0 hk0 hz0)
  go_frame
  gi_loopw [4] (fun _ wr => ∃ (R : List (Tx × Nat)) (ss : List Nat), RngOf wr b W.heap.size (vprs L) (vprs R) ∧ (ss ++ R.map (·.2)).Perm (L.map (·.2)) ∧ J ss wr)
    (fun _ wr => rngLeft wr b W.heap.size)
  case atStart =>
    exact ⟨L, [], hrg0, by simp, hJ [] W w0 none h0 (Kept.grown0 hk0 none) (fun r e => by cases e)⟩
  case round =>
    obtain ⟨R, ss, hrg, hp, hJs⟩ := hrel
    have hlen : ss.length + R.length = L.length := by have := hp.length_eq; simpa using this
    gi_wp2_with (gi_at_next; refine wpListIn_nxt rfl _ rfl b W.heap.size _ _ rfl hrg ?_ ?_)
    · intro hR0
      have hR : R = [] := by simpa [vprs] using hR0
      subst hR
      gi_wp2
      go_end0
      exact ⟨⟨_, rfl⟩, .inl ⟨ss, by simpa using hp, hJs⟩⟩
    · intro i kv v w2 hi hrg2 hk2 hz2 hen
      obtain ⟨p, hpi, hpe⟩ : ∃ p, R[i]? = some p ∧ (txv p.1, ptr p.2) = (kv, v) := by
        simp only [vprs, List.getElem?_map, Option.map_eq_some_iff] at hi
        exact hi
      obtain ⟨tk, x⟩ := p
      simp only [Prod.mk.injEq] at hpe
      obtain ⟨rfl, rfl⟩ := hpe
      have hlt := (List.getElem?_eq_some_iff.1 hpi).1
      have hJ2 : J ss w2 := hJ ss wr w2 (some W.heap.size) hJs (Kept.grown1 hk2) (fun r e => by cases e; exact ⟨Nat.le_refl _, hrg.walk⟩)
      obtain ⟨fn, tmps, assign, body, hy, hR⟩ := hY ss x w2 hJ2 (by omega)
      have hrg2' : RngOf w2 b W.heap.size (vprs L) (vprs (R.eraseIdx i)) := by unfold vprs; rw [map_eraseIdx_of]; exact hrg2
      have hperm : (ss ++ [x] ++ (R.eraseIdx i).map (·.2)).Perm (L.map (·.2)) := by
        refine List.Perm.trans ?_ hp
        rw [List.append_assoc]
        refine List.Perm.append_left ss ?_
        rw [map_eraseIdx_of]
        have h1 : (R.map (·.2))[i]? = some x := by simp [hpi]
        exact perm_erase0 _ i x h1
      have hmz : rngLeft w2 b W.heap.size < rngLeft wr b W.heap.size := by
        rw [hrg2'.left, hrg.left]
        simp only [vprs, List.length_map, List.length_eraseIdx]
        split <;> omega
      clear hz2 hk2 hrg2 hi hpi
      gi_wp2
      refine hR.mono ?_
      rintro e W3 (⟨rfl, hJ3, hk3⟩ | ⟨rfl, hJx3⟩)
      · gi_wp2
        have hrg3 := hrg2'.of_walks hk3
        go_roundw
        case rel => exact ⟨_, ss ++ [x], hrg3, hperm, hJ3⟩
        case measure => rw [hrg3.left, ← hrg2'.left]; exact hmz
      · gi_wp2
        refine bodyPost_ret (results_none rfl _ _ _) rfl ?_
        exact ⟨⟨_, rfl⟩, .inr ⟨ss ++ [x], trivial, hJx3⟩⟩
set_option maxHeartbeats 1000000 in
/-- maps.Keys(m) -/
theorem vals_any (mb : Option Nat) (w : World) : Calls Try.prog 42 #[.map mb] w fun e w' => e = .returned (.func (.func 62) #[] #[.pointer (some ⟨w.heap.size, 0, none⟩)]) ∧ w' = w.alloc (.cells #[.map mb] 61) := by
  go_enter Try.func42, Try.ntmps42
  go_wp2
  go_ret
  exact ⟨rfl, rfl⟩
theorem vals_stops (F : Fence) (n : Nat) (h10 : F.fn 62) (hro : F.round = none) (hn : 1 ≤ n) (Bm b : Nat) (L : List (Tx × Nat)) (w : World) (hBm : Bm < w.heap.size) (hm : w.cell? ⟨Bm, 0, none⟩ = some (.map (some b))) (hE : MapOf w b (vprs L)) :
    SeqStopsK F n Try.prog 62 #[.pointer (some ⟨Bm, 0, none⟩)] (fun x : Nat => #[ptr x]) KeepsWalks (fun ss => ss.Perm (L.map (·.2))) (fun _ => True) L.length w := fun l J Jx W hW hJ _ hY h0 =>
  vals1_in F n h10 hro hn l Bm b L J Jx hY W hJ ((hW.cell (p := ⟨Bm, 0, none⟩) hBm).trans hm) (hE.of_block (hW.block b hE.lt)) h0
theorem infoPo : (Try.prog.info? 65).map (fun i => (i.zero, i.size, i.bytes)) = some (some (.pointer none), 1, 8) := by kernel_rfl
set_option maxRecDepth 100000 in
set_option maxHeartbeats 2000000 in
/-- slices.AppendSeq(nil, seq) -/
theorem appendV_in (F : Fence) (n : Nat) (h11 : F.fn 74) (hro : F.round = none) (hn : 2 ≤ n) (g : Nat) (lb : Array Value) (hFg : F.fn g) (eg : ∀ args w, (callFunc g args).run Try.prog w = .ok (.enter g args) w)
    (S Sp : List Nat → Prop) (N : Nat) (hN : N ≤ 1000000) (w : World) (hseq : SeqStopsK F (n - 1) Try.prog g lb (fun x : Nat => #[ptr x]) KeepsWalks S Sp N w) :
    CallsIn F n Try.prog 74 #[.slice none 0 0, .func (.func g) #[] lb] w fun e w' => ∃ (v : Value) (ss : List Nat), e = .returned v ∧ S ss ∧ w'.ownsRow w.heap.size 65 1 v ss.length (ss.map ptr) ∧ Below w.heap.size w w' := by
  have h1 : 1 ≤ n := by omega
  obtain ⟨i0, hi, hz0, hz1, hz2⟩ := info_parts infoPo
  refine callsIn_of_wp_marks Try.func74 rfl h11 ?_ hro
  simp only [Try.ntmps74, List.size_toArray, List.length_cons, List.length_nil, Nat.reduceAdd, Nat.reduceSub, Array.replicate_succ, Array.replicate_zero, List.push_toArray, List.append_toArray, List.nil_append, List.cons_append]
  gi_wp2
  have bO := Boxed.new w 69 (.slice none 0 0)
  have hB0 : Below w.heap.size w (w.alloc (.cells #[.slice none 0 0] 69)) := (Below.refl _ w).alloc (Nat.le_refl _) _
  refine wpIn_rangeFunc_ownG hro h1 (gf := g) (lb := lb) rfl hFg eg hseq walksK_t walksK_b hB0 (fun _ => rfl)
    (fun pre W => (∃ v, Boxed W w.heap.size 69 v ∧ W.ownsRow w.heap.size 65 1 v pre.length (pre.map ptr) ∧ True) ∧ Below w.heap.size w W)
    (fun _ _ _ => False)
    (OwnFrom.and (Own.from (holdsRow_own w.heap.size w.heap.size 69 65 1 (fun pre : List Nat => pre.length) (fun pre : List Nat => pre.map ptr) (fun _ _ => True)) _) (ownFrom_below (Nat.le_refl _) (by simp)))
    (fun _ _ _ _ _ hs _ _ => hs)
    ⟨⟨_, bO, World.ownsRow_nil _ _ _ _, trivial⟩, hB0⟩
    (fun x => { tmps := #[.slice none 0 0, .func (.func g) #[] lb, .pointer (some ⟨w.heap.size, 0, none⟩), undef, .slice none 0 0, ptr x, .func (.func g) #[] lb, ptr x, undef, undef, undef, undef, undef], defers := [] }) ?assign ?body ?done ?stop
  case assign =>
    intro l x W K hK
    gi_wp2
    exact hK
  case body =>
    rintro l pre x W ⟨⟨v, hv, hrow, _⟩, hB⟩ hlt
    have hc := hv.cell
    gi_wp2_with (gi_at_builtin; refine wpListIn_append_own _ rfl _ _ 69 rfl w.heap.size 65 i0 (.pointer none) 1 8 Try.underlying69 hi hz0 hz1 hz2 rfl (by decide) _ _ _ rfl (hrow.alloc _) ⟨W.heap.size, 0, none⟩ 1 1 [ptr x] rfl rfl (cell_one_new _ _ _) (by simp [Value.oneCell', ptr]) (by unfold maxLen; omega) (by omega) (by have := hB.size; simp; omega) ?_; intro v' w1 hown' hgrow _; obtain ⟨g', cap', rfl⟩ := ownsRow_succ hown'; obtain ⟨hv1, hv2, hr2, hk2, hb2⟩ := hv.appended (by decide) hrow hB.size (Nat.le_refl _) hown' hgrow; have hc1 := hv1.cell; have hf1 := hv1.frozen)
    exact ⟨hk2.from _, hk2.walks, ⟨_, hv2, by simpa using hr2, trivial⟩, hB.trans hb2⟩
  case done =>
    rintro D ys W hD hS ⟨⟨v, hv, hrow, _⟩, hB⟩ hK
    have hc := hv.cell
    gi_wp2
    refine ⟨by simp, .inl ⟨_, _, rfl, run_takeDeferred hK, ?_⟩⟩
    exact ⟨_, results_tmp rfl _ _ _, v, ys, rfl, hS, ownsRow_putObj hrow _ hK rfl, hB.trans (belowK_b (w := w) (Nat.le_refl _) W D _ _ (by simp at hD; omega) hK rfl rfl)⟩
  case stop =>
    rintro D c pre W _ _ h _
    exact h.elim
set_option maxHeartbeats 1000000 in
theorem collectV {w : World} {bm b : Nat} {L : List (Tx × Nat)} (hm : w.cell? ⟨bm, 0, none⟩ = some (.map (some b))) (hE : MapOf w b (vprs L)) (hL : L.length ≤ 1000000) :
    Calls Try.prog 60 #[.func (.func 62) #[] #[.pointer (some ⟨bm, 0, none⟩)]] w fun e w' => ∃ (v : Value) (ss : List Nat), e = .returned v ∧ ss.Perm (L.map (·.2)) ∧ w'.ownsRow w.heap.size 65 1 v ss.length (ss.map ptr) ∧ Below w.heap.size w w' := by
  have h := appendV_in Fence.wide 4 trivial rfl (by decide) 62 #[.pointer (some ⟨bm, 0, none⟩)] trivial (enters_of Try.func62 (by kernel_rfl) rfl) _ _ L.length hL w
    (vals_stops Fence.wide 3 trivial rfl (by decide) bm b L w (World.block_lt_of_cell? _ _ hm) hm hE)
  have h2 := hid (callsIn_wide.1 h)
  clear h hE
  go_enter Try.func60, Try.ntmps60
  go_wp2_with fail
  refine h2.out.mono ?_
  rintro e w' ⟨v, ss, rfl, hp, hr, hb⟩
  have HP := hid hp; have HR := hid hr; have HB := hid hb
  clear hp hr hb
  go_wp2
  go_ret
  exact ⟨v, ss, rfl, HP.out, HR.out, HB.out⟩
end Go.Proofs.Ytpjhdpfaogdboaa
/- check, New, Known, Count. -/
namespace Go.Proofs.Ytpjhdpfaogdboaa
set_option linter.unusedSimpArgs false
set_option linter.unusedVariables false
open Go.RowKit
theorem mlen_run {w : World} {b : Nat} {q : IntKind} {L : List (Int × Value)} (h : MapIs w b q L) {t k e : TypeId} (ht : Try.prog.underlying t = some (.map k e)) (ty : TypeId) : (Builtin.len_ #[t] ty #[.map (some b)]).run Try.prog w = .ok (.int .i64 L.length) w := by
  obtain ⟨es, clock, hb, he, _, _⟩ := h
  have hl : es.size = L.length := by have := congrArg List.length he; simpa using this
  simp [Builtin.len_, run_underlying ht, MapKept.run_getObj_map hb, Result.andThen, goInt, hl]
theorem wpList_mlen {w : World} {ops : Array Oper} {rest : List Oper} {o : Oper} {a : Act} {Q : Exit → Act → World → Prop} (hgd : o.guard = none) (x : Operand) (t k e : TypeId) (ho : o.op = .call { callee := .builtin .len, args := #[x], argTypes := #[t] }) (b : Nat) (hx : a.eval x = .map (some b)) (ht : Try.prog.underlying t = some (.map k e)) (q : IntKind) (L : List (Int × Value)) (hL : MapIs w b q L)
    (h : wpList Try.prog ops Q rest (a.put o.dst (.int .i64 L.length)) w) : wpList Try.prog ops Q (o :: rest) a w := by
  refine wpList_run (v := .int .i64 L.length) hgd ?_ h
  simp [execOp, ho, resolve, invoke, builtin, hx, mlen_run hL ht, Result.andThen]
section
variable {P : Program} {w : World} {ops : Array Oper} {rest : List Oper} {o : Oper} {a : Act} {Q : Exit → Act → World → Prop}
theorem wpList_skipK {w' : World} (hgd : o.guard = none) (hrun : (execOp a.eval o).run P w = .ok .skip w') (h : wpList P ops Q rest (a.put o.dst undef) w') : wpList P ops Q (o :: rest) a w := by
  refine wpList_plain hgd fun K hK => ?_
  unfold Oper.wp
  rw [hrun]
  exact hK _ _ h
/-- m[k] = v -/
theorem wpList_lay (hgd : o.guard = none) (t kt et : TypeId) (xm xk xv : Operand) (ho : o.op = .mapUpdate t xm xk xv) (b : Nat) (q : IntKind) (k : Int) (v : Value) (hm : a.eval xm = .map (some b)) (hk : a.eval xk = .int q k) (hv : a.eval xv = v)
    (ht : P.underlying t = some (.map kt et)) (hkt : P.underlying kt = some (.int q)) (L : List (Int × Value)) (hL : MapIs w b q L)
    (h : ∀ w', MapIs w' b q (lay L k v) → Kept (fun g => g = b) w w' → wpList P ops Q rest (a.put o.dst undef) w') : wpList P ops Q (o :: rest) a w := by
  obtain ⟨es, clock, hr, hM⟩ := hL.run_lay ht hkt k v
  refine wpList_skipK hgd ?_ (h _ hM ((Kept.refl _ _).setBlock _ (.inl rfl)))
  simp [execOp, ho, hm, hk, hv, hr, Result.andThen]
end

def badW (x : Wt) : Bool := decide (x.1 < 1) || decide (40 < x.1) || (decide (x.2 ≠ 1) && decide (x.2 ≠ 2))
/-- the error of wants -/
def chkW (ws : List Wt) : Int := if ws.any badW then 1 else if 40 < ws.length then 2 else if ws.length = 0 ∨ ¬ (ws.map (·.1)).Nodup then 3 else 0
theorem badW_false {x : Wt} (h : badW x = false) : 1 ≤ x.1 ∧ x.1 ≤ 40 ∧ (x.2 = 1 ∨ x.2 = 2) := by
  unfold badW at h
  simp only [Bool.or_eq_false_iff, Bool.and_eq_false_iff, decide_eq_false_iff_not] at h
  omega
theorem chkW_ok {ws : List Wt} (h : chkW ws = 0) : Fm ws ∧ ws.length ≤ 40 ∧ 0 < ws.length ∧ (ws.map (·.1)).Nodup := by
  unfold chkW at h
  by_cases h1 : ws.any badW = true
  · rw [if_pos h1] at h; omega
  · rw [if_neg h1] at h
    by_cases h2 : 40 < ws.length
    · rw [if_pos h2] at h; omega
    · rw [if_neg h2] at h
      by_cases h3 : ws.length = 0 ∨ ¬ (ws.map (·.1)).Nodup
      · rw [if_pos h3] at h; omega
      · rw [not_or, Classical.not_not] at h3
        refine ⟨fun x hx => badW_false ?_, by omega, by omega, h3.2⟩
        cases hb : badW x with
        | false => rfl
        | true => exact absurd (List.any_eq_true.2 ⟨x, hx, hb⟩) h1
/-- what has been seen -/
structure Seen (E : List (Int × Value)) (l : List Wt) : Prop where
  k : ∀ k, k ∈ E.map (·.1) ↔ k ∈ l.map (·.1)
  n : (E.map (·.1)).Nodup
  l : (E.length = l.length ∧ (l.map (·.1)).Nodup) ∨ (E.length < l.length ∧ ¬ (l.map (·.1)).Nodup)
theorem lay_length {k : Int} {v : Value} : ∀ (L : List (Int × Value)), (lay L k v).length = if k ∈ L.map (·.1) then L.length else L.length + 1
  | [] => by simp [lay]
  | (a, x) :: r => by
    unfold lay
    by_cases h : k = a
    · simp [h]
    · have ih := lay_length (k := k) (v := v) r
      rw [if_neg h, List.length_cons, ih]
      simp only [List.map_cons, List.mem_cons, h, false_or, List.length_cons]
      by_cases h2 : k ∈ r.map (·.1)
      · rw [if_pos h2, if_pos h2]
      · rw [if_neg h2, if_neg h2]
theorem Seen.lay {E : List (Int × Value)} {l : List Wt} (h : Seen E l) (x : Wt) (v : Value) : Seen (Go.Proofs.Ytpjhdpfaogdboaa.lay E x.1 v) (l ++ [x]) := by
  refine ⟨fun k => ?_, lay_nodup _ _ _ h.n, ?_⟩
  · rw [mem_lay, h.k, List.map_append, List.mem_append]
    simp only [List.map_cons, List.map_nil, List.mem_singleton]
    exact Or.comm
  · have hn : ((l ++ [x]).map (·.1)).Nodup ↔ (l.map (·.1)).Nodup ∧ x.1 ∉ l.map (·.1) := by
      rw [List.map_append, List.nodup_append]
      constructor
      · rintro ⟨h1, _, h2⟩
        exact ⟨h1, fun hm => h2 _ hm x.1 (by simp) rfl⟩
      · rintro ⟨h1, h2⟩
        exact ⟨h1, by simp, fun a ha b hb e => by simp at hb; rw [e, hb] at ha; exact h2 ha⟩
    rw [lay_length, hn]
    simp only [h.k, List.length_append, List.length_singleton]
    by_cases hm : x.1 ∈ l.map (·.1)
    · rw [if_pos hm]
      refine .inr ⟨?_, fun h2 => h2.2 hm⟩
      rcases h.l with ⟨h1, _⟩ | ⟨h1, _⟩ <;> omega
    · rw [if_neg hm]
      rcases h.l with ⟨h1, h2⟩ | ⟨h1, h2⟩
      · exact .inl ⟨by omega, h2, hm⟩
      · exact .inr ⟨by omega, fun h3 => h2 h3.1⟩
theorem Seen.nil : Seen [] [] := ⟨fun k => Iff.rfl, List.nodup_nil, .inl ⟨rfl, List.nodup_nil⟩⟩
set_option maxRecDepth 100000 in
set_option maxHeartbeats 2000000 in
theorem check_any {F : Nat → Prop} {w : World} {a : Option Addr} {c : Nat} {ws : List Wt} (hl : Lies F w 2 (.slice a ws.length c) ws.length (wcells ws)) :
    Calls Try.prog 25 #[.slice a ws.length c] w fun e w' => e = .returned (.int .i64 (chkW ws)) ∧ Kept (fun _ => False) w w' := by
  have HL := hid hl
  have hbig := lies_len hl
  have hmm := @run_makeMap Try.prog
  have k1 := (Kept.refl (fun _ => False) w).alloc (.map #[] 0)
  have m1 := MapIs.made w .u32
  obtain ⟨w1, hw1⟩ : ∃ w1, w.alloc (.map #[] 0) = w1 := ⟨_, rfl⟩
  obtain ⟨sb, hsb⟩ : ∃ sb, w.heap.size = sb := ⟨_, rfl⟩
  rw [hw1] at k1 m1
  rw [hsb] at m1
  have K1 := hid k1; have M1 := hid m1
  have HSB := hid (Nat.le_of_eq hsb)
  obtain ⟨lst, hlst⟩ : ∃ z : Int, (if 40 < ws.length then 2 else 0) = z := ⟨_, rfl⟩
  have HLST := hid hlst
  clear hl k1 m1
  by_cases h40 : 40 < ws.length
  all_goals
    have h40I : (40 : Int) < (ws.length : Int) ↔ 40 < ws.length := by omega
    first | (have h40J : (40 : Int) < (ws.length : Int) := by omega) | (have h40J : ¬ (40 : Int) < (ws.length : Int) := by omega)
    clear h40I
    first | (rw [if_pos h40] at hlst) | (rw [if_neg h40] at hlst)
    subst hlst
    go_enter Try.func25, Try.ntmps25
    go_wp2_with fail
    try rw [hw1, hsb]
    clear hmm hw1 hsb
    go_loopw [13] (fun i wr => ∃ (j : Nat) (E : List (Int × Value)), j ≤ ws.length ∧ i = .int .i64 j ∧ MapIs wr sb .u32 E ∧ Seen E (ws.take j) ∧ (ws.take j).any badW = false ∧ Kept (fun _ => False) w wr) (fun i _ => ws.length - (RowKit.intOf i).toNat)
    case atStart => exact ⟨0, [], Nat.zero_le _, rfl, M1.out, Seen.nil, rfl, K1.out⟩
    case round =>
      rename World => wr
      clear K1 M1
      obtain ⟨j, E, hj, rfl, hm, hs, hany, hkp⟩ := hrel
      have HM := hid hm; have HS := hid hs; have HA := hid hany; have KR := hid hkp
      clear hm hs hany hkp
      by_cases hlt : j < ws.length
      · have hltI : (j : Int) < (ws.length : Int) := by omega
        obtain ⟨x, hx⟩ : ∃ x, ws[j]? = some x := ⟨_, List.getElem?_eq_getElem hlt⟩
        obtain ⟨_, hcap, hc1, gb, off, rfl, c0, c1⟩ := lies_w (HL.out.same KR.out) hx
        have HX := hid hx
        clear hx hc1
        obtain ⟨v, m⟩ := x
        cases hq : badW (v, m) with
        | true =>
          have HR := hid (show chkW ws = 1 from by unfold chkW; rw [if_pos (any_hit HX.out badW hq)])
          have hk2 := KR.out.alloc (.cells #[.int .u32 v, .int .u8 m] 36)
          have K2 := hid hk2
          unfold badW at hq
          simp only [Bool.or_eq_true, Bool.and_eq_true, decide_eq_true_eq] at hq
          clear hk2
          by_cases b1 : v < 1
          · clear hq
            go_wp2
            go_ret
            exact ⟨ret_int HR.out.symm, K2.out⟩
          · by_cases b2 : 40 < v
            · clear hq
              go_wp2
              go_ret
              exact ⟨ret_int HR.out.symm, K2.out⟩
            · have b3 : (m != 1) = true := by simp; omega
              have b4 : (m != 2) = true := by simp; omega
              clear hq
              go_wp2
              go_ret
              exact ⟨ret_int HR.out.symm, K2.out⟩
        | false =>
          have hg := badW_false hq
          have HY := hid (show (ws.take (j + 1)).any badW = false from by rw [any_take HX.out, HA.out, hq]; rfl)
          have HS2 := hid (show Seen (lay E v (.agg #[])) (ws.take (j + 1)) from by
            have e : ws.take (j + 1) = ws.take j ++ [(v, m)] := by rw [List.take_add_one, HX.out]; rfl
            rw [e]; exact HS.out.lay (v, m) _)
          simp only at hg
          obtain ⟨g1, g2, g3⟩ := hg
          have b1 : ¬ v < 1 := by omega
          have b2 : ¬ 40 < v := by omega
          have K2 := hid (show Kept (fun _ => False) wr (wr.alloc (.cells #[.int .u32 v, .int .u8 m] 36)) from (Kept.refl _ wr).alloc _)
          have M2 := hid (HM.out.of_block (K2.out.block _ HM.out.lt id))
          clear hq
          rcases g3 with rfl | rfl
          all_goals
            go_wp2_with (refine wpList_lay rfl 87 26 88 _ _ _ rfl sb .u32 v (.agg #[]) (by rfl) (by rfl) (by rfl) Try.underlying87 Try.underlying26 E (by exact M2.out) ?_; intro w3 hm3 hk3; have M3 := hid hm3; have K3 := hid ((KR.out.trans K2.out).trans' hk3 (fun g e => .inr (by rw [e]; exact HSB.out))); clear hm3 hk3)
            go_roundw
            case rel => exact ⟨j + 1, _, by omega, by go_num, M3.out, HS2.out, HY.out, K3.out⟩
            case measure => (simp only [RowKit.intOf]; omega)
      · obtain rfl : j = ws.length := by omega
        have hs2 := HS.out
        rw [List.take_of_length_le (Nat.le_refl _)] at hs2
        have ha2 := HA.out
        rw [List.take_of_length_le (Nat.le_refl _)] at ha2
        have hml := fun ty => mlen_run HM.out Try.underlying87 ty
        have HR := hid (show chkW ws = if 40 < ws.length then 2 else if ws.length = 0 ∨ ¬ (ws.map (·.1)).Nodup then 3 else 0 from by unfold chkW; rw [if_neg (by rw [ha2]; decide)])
        obtain ⟨n, hn⟩ : ∃ n, E.length = n := ⟨_, rfl⟩
        obtain ⟨b0, hb0⟩ : ∃ b, ((ws.length : Int) == 0) = b := ⟨_, rfl⟩
        have hsl := hs2.l
        rw [hn] at hml hsl
        have HSL := hid hsl
        clear hn hs2 ha2 hsl hlt
        by_cases hlt : (n : Int) < (ws.length : Int)
        · have HE := hid (show chkW ws = if 40 < ws.length then 2 else 3 from by
            rw [HR.out]
            rcases HSL.out with ⟨h1, _⟩ | ⟨_, h2⟩
            · omega
            · have h3 : ws.length = 0 ∨ ¬ (ws.map (·.1)).Nodup := .inr h2
              rw [if_pos h3])
          cases b0
          all_goals
            go_wp2
            go_ret
            exact ⟨ret_int (by rw [HE.out]; simp [h40]), KR.out⟩
        · have HE := hid (show chkW ws = if 40 < ws.length then 2 else if ws.length = 0 then 3 else 0 from by
            rw [HR.out]
            rcases HSL.out with ⟨_, h2⟩ | ⟨h1, _⟩
            · simp [h2]
            · omega)
          cases b0
          all_goals
            have HB0 := hid hb0
            go_wp2
            go_ret
            refine ⟨ret_int ?_, KR.out⟩
            rw [HE.out]
            have := HB0.out
            simp at this
            first | (simp [h40, this]; done) | (exfalso; simp [this] at h40)
end Go.Proofs.Ytpjhdpfaogdboaa
/- New, Known, Count, Hold. -/
namespace Go.Proofs.Ytpjhdpfaogdboaa
set_option linter.unusedSimpArgs false
set_option linter.unusedVariables false
open Go.RowKit
theorem MapT.mapOf {w : World} {b : Nat} {L : List (Tx × Value)} (h : MapT w b L) : MapOf w b (L.map fun p => (txv p.1, p.2)) := by
  obtain ⟨es, clock, hb, he, _, hs⟩ := h
  exact ⟨es, clock, hb, hs, he⟩
def cnt (L : List Ow) : Nat := (L.map (·.lk.length)).sum
theorem cnt_cons (o : Ow) (L : List Ow) : cnt (o :: L) = o.lk.length + cnt L := by simp [cnt]
theorem cnt_perm {L M : List Ow} (h : L.Perm M) : cnt L = cnt M := by
  induction h with
  | nil => rfl
  | cons x _ ih => rw [cnt_cons, cnt_cons, ih]
  | swap x y l => simp only [cnt_cons]; omega
  | trans _ _ h1 h2 => rw [h1, h2]
theorem cnt_erase {L : List Ow} {i : Nat} {o : Ow} (h : L[i]? = some o) : o.lk.length + cnt (L.eraseIdx i) = cnt L := by
  have := cnt_perm (perm_erase0 L i o h)
  rwa [cnt_cons] at this
set_option maxHeartbeats 400000 in
theorem new_any (w : World) : Calls Try.prog 10 #[] w fun e w' => e = .returned (.pointer (some ⟨w.heap.size + 1, 0, none⟩)) ∧ Tab (fun _ => none) w.heap.size w' (w.heap.size + 1) w.heap.size [] (fun _ => ⟨0, 0, none, 0⟩) ∧ Kept (fun _ => False) w w' := by
  have hmm := @run_makeMap Try.prog
  have k1 := ((Kept.refl (fun _ => False) w).alloc (.map #[] 0)).alloc (.cells #[.map (some w.heap.size)] 63)
  have htw := two_new w (.map #[] 0) (.cells #[.map (some w.heap.size)] 63)
  have hT : Tab (fun _ => none) w.heap.size ((w.alloc (.map #[] 0)).alloc (.cells #[.map (some w.heap.size)] 63)) (w.heap.size + 1) w.heap.size [] (fun _ => ⟨0, 0, none, 0⟩) :=
    ⟨htw.2, ⟨[], ⟨#[], 0, htw.1, rfl, List.nodup_nil, MapKept.stamped_empty 0⟩, List.Perm.refl _⟩, (fun o ho => nomatch ho), ⟨rfl, rfl⟩, fun _ _ => rfl, ⟨Nat.le_succ _, Nat.le_refl _, fun i t h => by cases h⟩, List.Pairwise.nil, (fun o ho => nomatch ho)⟩
  have HT := hid hT; have K1 := hid k1
  clear hT k1 htw
  go_enter Try.func10, Try.ntmps10
  go_wp2
  go_ret
  exact ⟨rfl, HT.out, K1.out⟩
section
variable {own : Nat → Option Tx} {B : Nat} {w : World} {tb mb : Nat} {L : List Ow} {A : Tx → Ad}
theorem Tab.look1 (h : Tab own B w tb mb L A) {t1 t2 t3 : Int} {o : Ow} (hl : findO L (t1, t2, t3) = some o) (q : Nat) :
    (Instr.lookup 61 (.map (some mb)) (.agg #[.int .u8 t1, .int .u32 t2, .int .u32 t3]) false).run Try.prog (w.drewN q) = .ok (.pointer (some ⟨(A (t1, t2, t3)).ob, 0, none⟩)) (w.drewN q) := by
  obtain ⟨M, hm, he⟩ := (h.same (kept_drewN w q)).look t1 t2 t3
  rw [hl] at he
  exact hm.run_look_some Try.underlying61 (k := (t1, t2, t3)) he false
theorem Tab.look0 (h : Tab own B w tb mb L A) {t1 t2 t3 : Int} (hl : findO L (t1, t2, t3) = none) (q : Nat) :
    (Instr.lookup 61 (.map (some mb)) (.agg #[.int .u8 t1, .int .u32 t2, .int .u32 t3]) false).run Try.prog (w.drewN q) = .ok (.pointer none) (w.drewN q) := by
  obtain ⟨M, hm, he⟩ := (h.same (kept_drewN w q)).look t1 t2 t3
  rw [hl] at he
  exact hm.run_look_none Try.underlying61 (k := (t1, t2, t3)) (z := .pointer none) (by kernel_rfl) he false
theorem cells3 {w : World} {b T : Nat} {x0 x1 x2 : Value} (h : w.heap[b]? = some (.cells #[x0, x1, x2] T (0, 0))) : w.cell? ⟨b, 0, none⟩ = some x0 ∧ w.cell? ⟨b, 1, none⟩ = some x1 ∧ w.cell? ⟨b, 2, none⟩ = some x2 :=
  ⟨by rw [row_cell h]; rfl, by rw [row_cell h]; rfl, by rw [row_cell h]; rfl⟩
set_option maxRecDepth 100000 in
set_option maxHeartbeats 1000000 in
theorem known_yes {t1 t2 t3 : Int} {o : Ow} (hb : Tab own B w tb mb L A) (hl : findO L (t1, t2, t3) = some o) :
    Calls Try.prog 18 #[.pointer (some ⟨tb, 0, none⟩), .agg #[.int .u8 t1, .int .u32 t2, .int .u32 t3]] w fun e w' => e = .returned (.bool true) ∧ Kept (fun _ => False) w w' := by
  have hk1 := (Kept.refl (fun _ => False) w).alloc (.cells #[.int .u8 t1, .int .u32 t2, .int .u32 t3] 32)
  have hkb := row_new w (.cells #[.int .u8 t1, .int .u32 t2, .int .u32 t3] 32)
  obtain ⟨w1, hw1⟩ : ∃ w1, w.alloc (.cells #[.int .u8 t1, .int .u32 t2, .int .u32 t3] 32) = w1 := ⟨_, rfl⟩
  obtain ⟨kb, hkb'⟩ : ∃ kb, w.heap.size = kb := ⟨_, rfl⟩
  rw [hw1] at hk1 hkb
  rw [hkb'] at hkb
  have HB := hid (hb.same hk1); have HK := hid hkb; have K1 := hid hk1
  have c0 := HB.out.cell
  obtain ⟨d0, d1, d2⟩ := cells3 HK.out
  have HL := hid hl
  have HKB := hid (Nat.le_of_eq hkb')
  clear hb hk1 hkb hl
  have l0 := HB.out.look1 HL.out
  go_enter Try.func18, Try.ntmps18
  go_wp2_with fail
  try rw [hw1, hkb']
  clear hw1 hkb'
  go_quiet (fail)
  have K2 := hid (K1.out.trans (kept_drewN (F := fun _ => False) w1 nq))
  go_wp2
  go_ret
  exact ⟨rfl, K2.out⟩
set_option maxRecDepth 100000 in
set_option maxHeartbeats 1000000 in
theorem known_no {t1 t2 t3 : Int} (hb : Tab own B w tb mb L A) (hl : findO L (t1, t2, t3) = none) :
    Calls Try.prog 18 #[.pointer (some ⟨tb, 0, none⟩), .agg #[.int .u8 t1, .int .u32 t2, .int .u32 t3]] w fun e w' => e = .returned (.bool false) ∧ Kept (fun _ => False) w w' := by
  have hk1 := (Kept.refl (fun _ => False) w).alloc (.cells #[.int .u8 t1, .int .u32 t2, .int .u32 t3] 32)
  have hkb := row_new w (.cells #[.int .u8 t1, .int .u32 t2, .int .u32 t3] 32)
  obtain ⟨w1, hw1⟩ : ∃ w1, w.alloc (.cells #[.int .u8 t1, .int .u32 t2, .int .u32 t3] 32) = w1 := ⟨_, rfl⟩
  obtain ⟨kb, hkb'⟩ : ∃ kb, w.heap.size = kb := ⟨_, rfl⟩
  rw [hw1] at hk1 hkb
  rw [hkb'] at hkb
  have HB := hid (hb.same hk1); have HK := hid hkb; have K1 := hid hk1
  have c0 := HB.out.cell
  obtain ⟨d0, d1, d2⟩ := cells3 HK.out
  have HL := hid hl
  have HKB := hid (Nat.le_of_eq hkb')
  clear hb hk1 hkb hl
  have l0 := HB.out.look0 HL.out
  go_enter Try.func18, Try.ntmps18
  go_wp2_with fail
  try rw [hw1, hkb']
  clear hw1 hkb'
  go_quiet (fail)
  have K2 := hid (K1.out.trans (kept_drewN (F := fun _ => False) w1 nq))
  go_wp2
  go_ret
  exact ⟨rfl, K2.out⟩
def oent (A : Tx → Ad) (o : Ow) : Value × Value := (txv o.tx, ptr (A o.tx).ob)
set_option maxRecDepth 100000 in
set_option maxHeartbeats 1000000 in
theorem count_any (hb : Tab own B w tb mb L A) (hL : cnt L ≤ 1000000) :
    Calls Try.prog 13 #[.pointer (some ⟨tb, 0, none⟩)] w fun e w' => e = .returned (.int .i64 (cnt L)) ∧ Kept (fun _ => False) w w' := by
  have HB := hid hb
  have c0 := hb.cell
  obtain ⟨M, hmt, hp⟩ := hb.map
  have hmo : MapOf w mb (M.map (oent A)) := by
    have h := hmt.mapOf
    rw [List.map_map] at h
    exact h
  have HMO := hid hmo; have HP := hid hp
  have HCM := hid (cnt_perm hp)
  clear hb hmo hmt hp
  go_enter Try.func13, Try.ntmps13
  go_wp2_with (refine wpList_rng rfl _ 61 rfl 32 65 Try.underlying61 mb _ rfl HMO.out ?_; intro w1 hrg hk1 hz1; have RG := hid hrg; have K1 := hid hk1; clear hrg hk1)
  obtain ⟨it, hit⟩ : ∃ it, w.heap.size = it := ⟨_, rfl⟩
  rw [hit] at RG ⊢
  have HIT := hid (Nat.le_of_eq hit)
  clear hit hz1 c0
  go_frame
  go_loopw [3] (fun c wr => ∃ (R : List Ow) (n : Nat), c = .int .i64 n ∧ RngOf wr mb it (M.map (oent A)) (R.map (oent A)) ∧ n + cnt R = cnt L ∧ (∀ o ∈ R, o ∈ L) ∧ Kept (fun _ => False) w wr) (fun _ wr => rngLeft wr mb it)
  case atStart => exact ⟨M, 0, rfl, RG.out, by rw [HCM.out]; omega, fun o ho => HP.out.mem_iff.1 ho, K1.out⟩
  case round =>
    rename World => wr
    obtain ⟨R, n, rfl, hrg, hsum, hsub, hkp⟩ := hrel
    have RR := hid hrg; have HS := hid hsum; have HSU := hid hsub; have KR := hid hkp
    have MW := hid hrg.left
    obtain ⟨RV, hRV⟩ : ∃ RV, R.map (oent A) = RV := ⟨_, rfl⟩
    rw [hRV] at RR MW
    have HRV := hid hRV
    clear hrg hsum hsub hkp RG K1 hRV
    go_wp2_with (refine wpList_nxt rfl _ rfl mb it _ _ rfl RR.out ?_ ?_)
    · intro hR0
      have hn : n = cnt L := by
        have e := HRV.out
        rw [hR0] at e
        have e2 : R = [] := by simpa using e
        have := HS.out
        rw [e2] at this
        simpa [cnt] using this
      subst hn
      clear hR0
      go_wp2
      go_ret
      exact ⟨rfl, KR.out⟩
    · intro i kv v w2 hi hrg2 hk2 hz2 hen
      have hi2 := hi
      rw [← HRV.out, List.getElem?_map, Option.map_eq_some_iff] at hi2
      obtain ⟨o, ho, hoe⟩ := hi2
      simp only [oent, Prod.mk.injEq] at hoe
      obtain ⟨rfl, rfl⟩ := hoe
      have hmz : rngLeft w2 mb it < rngLeft wr mb it := by
        rw [hrg2.left, MW.out, List.length_eraseIdx]
        have := (List.getElem?_eq_some_iff.1 hi).1
        split <;> omega
      have HMZ := hid hmz
      have K2 := hid (KR.out.trans' hk2 (fun j e => .inr (by have := HIT.out; omega)))
      have hom := HSU.out o (List.mem_of_getElem? ho)
      have HOW := hid ((HB.out.same K2.out).ows o hom)
      obtain ⟨E, hme, hle⟩ := HOW.out.map
      obtain ⟨_, _, _, _, c4, _, _⟩ := cells7 HOW.out.obj
      have hml := fun ty => mlen_run hme Try.underlying66 ty
      obtain ⟨m, hm⟩ : ∃ m, o.lk.length = m := ⟨_, rfl⟩
      rw [hle.2, hm] at hml
      have hce := cnt_erase ho
      rw [hm] at hce
      have hsm := HS.out
      have hb1 : n + m ≤ 1000000 := by omega
      have HG2 := hid (show RngOf w2 mb it (M.map (oent A)) ((R.eraseIdx i).map (oent A)) from by
        have e : (R.eraseIdx i).map (oent A) = RV.eraseIdx i := by rw [← HRV.out]; exact map_eraseIdx_of _ _ _
        rw [e]; exact hrg2)
      have HSN := hid (show n + m + cnt (R.eraseIdx i) = cnt L by omega)
      have HSB := hid (fun o' (h' : o' ∈ R.eraseIdx i) => HSU.out o' (List.mem_of_mem_eraseIdx h'))
      clear hmz hrg2 hk2 hz2 hi ho hom hme hle hm hce hsm
      go_wp2
      go_roundw
      case rel => exact ⟨_, n + m, by go_num, HG2.out, HSN.out, HSB.out, K2.out⟩
      case measure => exact HMZ.out
end
end Go.Proofs.Ytpjhdpfaogdboaa
