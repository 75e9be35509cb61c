/- Texts of this claim, merged: Itr. -/
import Derived.LoopIn
import Derived.LoopNIn
import Derived.Maps.AppendAt
import Derived.RangeFuncBound
import Derived.RangeFuncBox
import Derived.RangeFuncCalls
import Derived.RangeFuncLeaves
import Derived.RangeFuncNested
import Derived.Shelf.Abstract
import Derived.Shelf.RegionOpen
import Derived.TacticsInMore
import Derived.Test.YtpjhdpfaogdboaaPm1
import Derived.Test.YtpjhdpfaogdboaaPm3
import Derived.Test.YtpjhdpfaogdboaaPm5
import Derived.Test.YtpjhdpfaogdboaaPm6
import Derived.Test.YtpjhdpfaogdboaaPm7
import Derived.Test.YtpjhdpfaogdboaaPm9
import Derived.Test.YtpjhdpfaogdboaaPm16
import Derived.Test.YtpjhdpfaogdboaaPm17
import Derived.Test.YtpjhdpfaogdboaaPm18
/- slices.Sorted(maps.Keys(m)). -/
namespace Go.Proofs.Ytpjhdpfaogdboaa
set_option linter.unusedSimpArgs false
set_option linter.unusedVariables false
open Go.RowKit Go.Shelf

attribute [local go_sem] Oper.semAt_some
theorem perm_erase {α : Type} : ∀ (l : List α) (i : Nat) (x : α), l[i]? = some x → (x :: l.eraseIdx i).Perm l
  | [], _, _, h => by simp at h
  | y :: l, 0, x, h => by simp at h; subst h; simp
  | y :: l, i + 1, x, h => by
    have := perm_erase l i x (by simpa using h)
    simp only [List.eraseIdx_cons_succ]
    exact (List.Perm.swap _ _ _).trans (this.cons y)
def prs (L : List (Int × Value)) : List (Value × Value) := L.map fun p => (Value.int .u32 p.1, p.2)
set_option maxRecDepth 100000 in
set_option maxHeartbeats 1000000 in
theorem keys1_in (F : Fence) (n : Nat) (h10 : F.fn 55) (hro : F.round = none) (hn : 1 ≤ n) (l Bm b : Nat) (L : List (Int × Value)) (J Jx : List Int → World → Prop)
    (hY : ∀ pre x W, J pre W → pre.length < L.length → YieldAt F (n - 1) Try.prog l #[.int .u32 x] W fun e W' =>
      (e = .returned (.bool true) ∧ J (pre ++ [x]) W' ∧ KeepsWalks W W') ∨ (e = .returned (.bool false) ∧ Jx (pre ++ [x]) W'))
    (W : World) (hJ : AbidesFrom W.heap.size J) (hm : W.cell? ⟨Bm, 0, none⟩ = some (.map (some b))) (hE : MapOf W b (prs L)) (h0 : J [] W) :
    CallsIn F n Try.prog 55 #[.func (.yield l) #[] #[], .pointer (some ⟨Bm, 0, none⟩)] W fun e W' => (∃ v, e = .returned v) ∧
      ((∃ ss : List Int, ss.Perm (L.map (·.1)) ∧ J ss W') ∨ (∃ pre : List Int, True ∧ Jx pre W')) := by
  refine callsIn_of_wp Try.func55 rfl h10 ?_ hro
  simp only [Try.ntmps55, List.size_toArray, List.length_cons, List.length_nil, Nat.reduceAdd, Nat.reduceSub, Array.replicate_succ, Array.replicate_zero, List.push_toArray, List.append_toArray, List.nil_append, List.cons_append]
  gi_wp2_with (gi_at_range; refine wpListIn_rng rfl _ 66 rfl 26 5 Try.underlying66 b _ rfl hE ?_; intro w0 hrg0 hk0 hz0)
  go_frame
  gi_loopw [3] (fun _ wr => ∃ (R : List (Int × Value)) (ss : List Int), RngOf wr b W.heap.size (prs L) (prs R) ∧ (ss ++ R.map (·.1)).Perm (L.map (·.1)) ∧ J ss wr)
    (fun _ wr => rngLeft wr b W.heap.size)
  case atStart =>
    exact ⟨L, [], hrg0, by simp, hJ [] W w0 none h0 (Kept.grown0 hk0 none) (fun r e => by cases e)⟩
  case round =>
    obtain ⟨R, ss, hrg, hp, hJs⟩ := hrel
    have hlen : ss.length + R.length = L.length := by have := hp.length_eq; simpa using this
    gi_wp2_with (gi_at_next; refine wpListIn_nxt rfl _ rfl b W.heap.size _ _ rfl hrg ?_ ?_)
    · intro hR0
      have hR : R = [] := by simpa [prs] using hR0
      subst hR
      gi_wp2
      go_end0
      exact ⟨⟨_, rfl⟩, .inl ⟨ss, by simpa using hp, hJs⟩⟩
    · intro i kv v w2 hi hrg2 hk2 hz2 hen
      obtain ⟨p, hpi, hpe⟩ : ∃ p, R[i]? = some p ∧ (Value.int .u32 p.1, p.2) = (kv, v) := by
        simp only [prs, List.getElem?_map, Option.map_eq_some_iff] at hi
        exact hi
      obtain ⟨x, v⟩ := p
      simp only [Prod.mk.injEq] at hpe
      obtain ⟨rfl, rfl⟩ := hpe
      have hlt := (List.getElem?_eq_some_iff.1 hpi).1
      have hJ2 : J ss w2 := hJ ss wr w2 (some W.heap.size) hJs (Kept.grown1 hk2) (fun r e => by cases e; exact ⟨Nat.le_refl _, hrg.walk⟩)
      obtain ⟨fn, tmps, assign, body, hy, hR⟩ := hY ss x w2 hJ2 (by omega)
      have hrg2' : RngOf w2 b W.heap.size (prs L) (prs (R.eraseIdx i)) := by unfold prs; rw [map_eraseIdx_of]; exact hrg2
      have hperm : (ss ++ [x] ++ (R.eraseIdx i).map (·.1)).Perm (L.map (·.1)) := by
        refine List.Perm.trans ?_ hp
        rw [List.append_assoc]
        refine List.Perm.append_left ss ?_
        rw [map_eraseIdx_of]
        have h1 : (R.map (·.1))[i]? = some x := by simp [hpi]
        exact perm_erase _ i x h1
      have hmz : rngLeft w2 b W.heap.size < rngLeft wr b W.heap.size := by
        rw [hrg2'.left, hrg.left]
        simp only [prs, List.length_map, List.length_eraseIdx]
        split <;> omega
      clear hz2 hk2 hrg2 hi hpi
      gi_wp2
      refine hR.mono ?_
      rintro e W3 (⟨rfl, hJ3, hk3⟩ | ⟨rfl, hJx3⟩)
      · gi_wp2
        have hrg3 := hrg2'.of_walks hk3
        go_roundw
        case rel => exact ⟨_, ss ++ [x], hrg3, hperm, hJ3⟩
        case measure => rw [hrg3.left, ← hrg2'.left]; exact hmz
      · gi_wp2
        refine bodyPost_ret (results_none rfl _ _ _) rfl ?_
        exact ⟨⟨_, rfl⟩, .inr ⟨ss ++ [x], trivial, hJx3⟩⟩
set_option maxHeartbeats 1000000 in
/-- maps.Keys(m) -/
theorem keys_any (mb : Option Nat) (w : World) : Calls Try.prog 33 #[.map mb] w fun e w' => e = .returned (.func (.func 55) #[] #[.pointer (some ⟨w.heap.size, 0, none⟩)]) ∧ w' = w.alloc (.cells #[.map mb] 66) := by
  go_enter Try.func33, Try.ntmps33
  go_wp2
  go_ret
  exact ⟨rfl, rfl⟩
theorem keys_stops (F : Fence) (n : Nat) (h10 : F.fn 55) (hro : F.round = none) (hn : 1 ≤ n) (Bm b : Nat) (L : List (Int × Value)) (w : World) (hBm : Bm < w.heap.size) (hm : w.cell? ⟨Bm, 0, none⟩ = some (.map (some b))) (hE : MapOf w b (prs L)) :
    SeqStopsK F n Try.prog 55 #[.pointer (some ⟨Bm, 0, none⟩)] (fun x : Int => #[Value.int .u32 x]) KeepsWalks (fun ss => ss.Perm (L.map (·.1))) (fun _ => True) L.length w := fun l J Jx W hW hJ _ hY h0 =>
  keys1_in F n h10 hro hn l Bm b L J Jx hY W hJ ((hW.cell (p := ⟨Bm, 0, none⟩) hBm).trans hm) (hE.of_block (hW.block b hE.lt)) h0
theorem infoE : (Try.prog.info? 26).map (fun i => (i.zero, i.size, i.bytes)) = some (some (.int .u32 0), 1, 4) := by kernel_rfl
set_option maxRecDepth 100000 in
set_option maxHeartbeats 2000000 in
/-- slices.AppendSeq(nil, seq) -/
theorem appendSeq_in (F : Fence) (n : Nat) (h11 : F.fn 70) (hro : F.round = none) (hn : 2 ≤ n) (g : Nat) (lb : Array Value) (hFg : F.fn g) (eg : ∀ args w, (callFunc g args).run Try.prog w = .ok (.enter g args) w)
    (S Sp : List Int → Prop) (N : Nat) (hN : N ≤ 1000000) (w : World) (hseq : SeqStopsK F (n - 1) Try.prog g lb (fun x : Int => #[Value.int .u32 x]) KeepsWalks S Sp N w) :
    CallsIn F n Try.prog 70 #[.slice none 0 0, .func (.func g) #[] lb] w fun e w' => ∃ (v : Value) (ss : List Int), e = .returned v ∧ S ss ∧ w'.ownsRow w.heap.size 26 1 v ss.length (ss.map (Value.int .u32)) ∧ Below w.heap.size w w' := by
  have h1 : 1 ≤ n := by omega
  obtain ⟨i0, hi, hz0, hz1, hz2⟩ := info_parts infoE
  refine callsIn_of_wp_marks Try.func70 rfl h11 ?_ hro
  simp only [Try.ntmps70, List.size_toArray, List.length_cons, List.length_nil, Nat.reduceAdd, Nat.reduceSub, Array.replicate_succ, Array.replicate_zero, List.push_toArray, List.append_toArray, List.nil_append, List.cons_append]
  gi_wp2
  have bO := Boxed.new w 74 (.slice none 0 0)
  have hB0 : Below w.heap.size w (w.alloc (.cells #[.slice none 0 0] 74)) := (Below.refl _ w).alloc (Nat.le_refl _) _
  refine wpIn_rangeFunc_ownG hro h1 (gf := g) (lb := lb) rfl hFg eg hseq walksK_t walksK_b hB0 (fun _ => rfl)
    (fun pre W => (∃ v, Boxed W w.heap.size 74 v ∧ W.ownsRow w.heap.size 26 1 v pre.length (pre.map (Value.int .u32)) ∧ True) ∧ Below w.heap.size w W)
    (fun _ _ _ => False)
    (OwnFrom.and (Own.from (holdsRow_own w.heap.size w.heap.size 74 26 1 (fun pre : List Int => pre.length) (fun pre : List Int => pre.map (Value.int .u32)) (fun _ _ => True)) _) (ownFrom_below (Nat.le_refl _) (by simp)))
    (fun _ _ _ _ _ hs _ _ => hs)
    ⟨⟨_, bO, World.ownsRow_nil _ _ _ _, trivial⟩, hB0⟩
    (fun x => { tmps := #[.slice none 0 0, .func (.func g) #[] lb, .pointer (some ⟨w.heap.size, 0, none⟩), undef, .slice none 0 0, .int .u32 x, .func (.func g) #[] lb, .int .u32 x, undef, undef, undef, undef, undef], defers := [] }) ?assign ?body ?done ?stop
  case assign =>
    intro l x W K hK
    gi_wp2
    exact hK
  case body =>
    rintro l pre x W ⟨⟨v, hv, hrow, _⟩, hB⟩ hlt
    have hc := hv.cell
    gi_wp2_with (gi_at_builtin; refine wpListIn_append_own _ rfl _ _ 74 rfl w.heap.size 26 i0 (.int .u32 0) 1 4 Try.underlying74 hi hz0 hz1 hz2 rfl (by decide) _ _ _ rfl (hrow.alloc _) ⟨W.heap.size, 0, none⟩ 1 1 [.int .u32 x] rfl rfl (cell_one_new _ _ _) (by simp [Value.oneCell']) (by unfold maxLen; omega) (by omega) (by have := hB.size; simp; omega) ?_; intro v' w1 hown' hgrow _; obtain ⟨g', cap', rfl⟩ := ownsRow_succ hown'; obtain ⟨hv1, hv2, hr2, hk2, hb2⟩ := hv.appended (by decide) hrow hB.size (Nat.le_refl _) hown' hgrow; have hc1 := hv1.cell; have hf1 := hv1.frozen)
    exact ⟨hk2.from _, hk2.walks, ⟨_, hv2, by simpa using hr2, trivial⟩, hB.trans hb2⟩
  case done =>
    rintro D ys W hD hS ⟨⟨v, hv, hrow, _⟩, hB⟩ hK
    have hc := hv.cell
    gi_wp2
    refine ⟨by simp, .inl ⟨_, _, rfl, run_takeDeferred hK, ?_⟩⟩
    exact ⟨_, results_tmp rfl _ _ _, v, ys, rfl, hS, ownsRow_putObj hrow _ hK rfl, hB.trans (belowK_b (w := w) (Nat.le_refl _) W D _ _ (by simp at hD; omega) hK rfl rfl)⟩
  case stop =>
    rintro D c pre W _ _ h _
    exact h.elim
end Go.Proofs.Ytpjhdpfaogdboaa
