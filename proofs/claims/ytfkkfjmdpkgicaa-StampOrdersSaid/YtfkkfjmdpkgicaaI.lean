/- slices.Collect at stamps. -/
import Derived.Test.YtfkkfjmdpkgicaaH
namespace Go.Proofs.Ytfkkfjmdpkgicaa
open Go.RowKit Go.Shelf
attribute [local go_sem] Oper.semAt_some
theorem values_stops (F : Fence) (n : Nat) (h10 : F.fn 34) (hro : F.round = none) (hn : 1 ≤ n) (Bm : Nat) (a : Option Addr) (N c : Nat) (L : List Sp) (hLN : L.length = N) (hN : N ≤ 1000000) (hc : N ≤ c ∧ c ≤ maxLen) (w : World) (hBm : Bm < w.heap.size) (hm : w.cell? ⟨Bm, 0, none⟩ = some (.slice a N c)) (hL : LiesB w.heap.size w a L) :
    SeqStopsK F n Try.prog 34 #[.pointer (some ⟨Bm, 0, none⟩)] (fun x : Sp => #[sv x]) (Below w.heap.size) (fun ss => ss = L) (fun _ => True) N w := fun l J Jx W hW hJ _ hY h0 =>
  values1_in F n h10 hro hn l Bm w.heap.size a N c L hLN hN hc J Jx hY W hW.size hJ ((hW.cell (p := ⟨Bm, 0, none⟩) hBm).trans hm) (fun i x hx => by
    obtain ⟨g, o, e, hg, e0, e1, e2, e3⟩ := hL i x hx
    exact ⟨g, o, e, hg, (hW.cell (p := ⟨g, o + i * 4, none⟩) hg).trans e0, (hW.cell (p := ⟨g, o + i * 4 + 1, none⟩) hg).trans e1, (hW.cell (p := ⟨g, o + i * 4 + 2, none⟩) hg).trans e2, (hW.cell (p := ⟨g, o + i * 4 + 3, none⟩) hg).trans e3⟩) h0
theorem cell_four_new (w : World) (x y z u : Value) (t : TypeId) : ∀ j v, [x, y, z, u][j]? = some v → (w.alloc (.cells #[x, y, z, u] t)).cell? ((⟨w.heap.size, 0, none⟩ : Addr).add j) = some v := by
  intro j v hj
  have e : (⟨w.heap.size, 0, none⟩ : Addr).add j = ⟨w.heap.size, j, none⟩ := by unfold Addr.add; split <;> simp_all
  rw [e, row_cell (row_new w _)]
  simpa using hj
theorem infoS : (Try.prog.info? 48).map (fun i => (i.zero, i.size, i.bytes)) = some (some (sv (0, 0, 0, 0)), 4, 24) := by kernel_rfl
set_option maxRecDepth 100000 in
set_option maxHeartbeats 2000000 in
/-- slices.AppendSeq(nil, seq) -/
theorem appendSeq_in (F : Fence) (n : Nat) (h11 : F.fn 35) (hro : F.round = none) (hn : 2 ≤ n) (g : Nat) (lb : Array Value) (hFg : F.fn g) (eg : ∀ args w, (callFunc g args).run Try.prog w = .ok (.enter g args) w)
    (S Sp' : List Sp → Prop) (N : Nat) (hN : N ≤ 1000000) (w : World) (hseq : SeqStopsK F (n - 1) Try.prog g lb (fun x : Sp => #[sv x]) (Below w.heap.size) S Sp' N w) :
    CallsIn F n Try.prog 35 #[.slice none 0 0, .func (.func g) #[] lb] w fun e w' => ∃ (v : Value) (ss : List Sp), e = .returned v ∧ S ss ∧ w'.ownsRow w.heap.size 48 4 v ss.length (ss.flatMap encS) ∧ Below w.heap.size w w' := by
  have h1 : 1 ≤ n := by omega
  obtain ⟨i0, hi, hz0, hz1, hz2⟩ := info_parts infoS
  refine callsIn_of_wp_marks Try.func35 rfl h11 ?_ hro
  simp only [Try.ntmps35, List.size_toArray, List.length_cons, List.length_nil, Nat.reduceAdd, Nat.reduceSub, Array.replicate_succ, Array.replicate_zero, List.push_toArray, List.append_toArray, List.nil_append, List.cons_append]
  gi_wp2
  have bO := Boxed.new w 50 (.slice none 0 0)
  have hB0 : Below w.heap.size w (w.alloc (.cells #[.slice none 0 0] 50)) := (Below.refl _ w).alloc (Nat.le_refl _) _
  have hIO := (OwnFrom.and (Own.from (holdsRow_own w.heap.size w.heap.size 50 48 4 (fun pre : List Sp => pre.length) (fun pre : List Sp => pre.flatMap encS) (fun _ _ => True)) (w.alloc (.cells #[.slice none 0 0] 50)).heap.size) (ownFrom_below (w₀ := w) (n₀ := w.heap.size) (Nat.le_refl _) (by simp)))
  refine wpIn_rangeFunc_ownH hro h1 (gf := g) (lb := lb) rfl hFg eg hseq (fun h k => belowK_t h k) (belowK_b (n₀ := w.heap.size) (by simp)) hB0 (fun _ => rfl)
    (fun pre W => (∃ v, Boxed W w.heap.size 50 v ∧ W.ownsRow w.heap.size 48 4 v pre.length (pre.flatMap encS) ∧ True) ∧ Below w.heap.size w W)
    (fun _ _ _ => False)
    hIO
    (fun _ _ _ _ _ hs _ _ => hs)
    ⟨⟨_, bO, World.ownsRow_nil _ _ _ _, trivial⟩, hB0⟩
    (fun x a' W => ∃ vb, a' = { tmps := #[.slice none 0 0, .func (.func g) #[] lb, .pointer (some ⟨w.heap.size, 0, none⟩), undef, .slice none 0 0, .pointer (some ⟨vb, 0, none⟩), .func (.func g) #[] lb, sv x, undef, undef, undef, undef, undef], defers := [] } ∧ W.heap[vb]? = some (.cells #[.int .u64 x.1, .int .u8 x.2.1, .int .u32 x.2.2.1, .int .u32 x.2.2.2] 48 (0, 0))) ?ax ?assign ?body ?done ?stop
  case ax =>
    rintro x a' _ W W' row ⟨vb, e, hv⟩ hg hr
    exact ⟨vb, e, (hg.block vb (row_lt hv) (fun er => by obtain ⟨_, o, ho, hc⟩ := hr vb er.symm; rw [hv] at ho; cases ho; cases hc)).trans hv⟩
  case assign =>
    intro l pre x W K hI hK
    have hBz := hI.2.size
    obtain ⟨x1, x2, x3, x4⟩ := x
    simp only [sv] at hK ⊢
    gi_wp2
    refine hK _ _ ((KeepsOthers.alloc W _).from _) ((Below.refl _ W).alloc hBz _) (hIO.alloc _ hI) ⟨_, rfl, row_new W _⟩
  case body =>
    rintro l pre x a' W hl _ ⟨⟨v, hv, hrow, _⟩, hB⟩ ⟨vb, rfl, hvb⟩ hlt
    have hc := hv.cell
    obtain ⟨x1, x2, x3, x4⟩ := x
    obtain ⟨q0, q1, q2, q3⟩ := cells4' hvb
    simp only [sv]
    gi_wp2_with (gi_at_builtin; refine wpListIn_append_own _ rfl _ _ 50 rfl w.heap.size 48 i0 (sv (0, 0, 0, 0)) 4 24 Try.underlying50 hi hz0 hz1 hz2 rfl (by decide) _ _ _ rfl (hrow.alloc _) ⟨W.heap.size, 0, none⟩ 1 1 [.int .u64 x1, .int .u8 x2, .int .u32 x3, .int .u32 x4] rfl rfl (cell_four_new _ _ _ _ _ _) (by simp [Value.oneCell']) (by unfold maxLen; omega) (by omega) (by have := hB.size; simp; omega) ?_; intro v' w1 hown' hgrow _; obtain ⟨g', cap', rfl⟩ := ownsRow_succ hown'; obtain ⟨hv1, hv2, hr2, hk2, hb2⟩ := hv.appended (by decide) hrow hB.size (Nat.le_refl _) hown' hgrow; have hc1 := hv1.cell; have hf1 := hv1.frozen)
    have hfm : (pre ++ [(x1, x2, x3, x4)]).flatMap encS = pre.flatMap encS ++ [.int .u64 x1, .int .u8 x2, .int .u32 x3, .int .u32 x4] := by simp [encS]
    refine ⟨hk2.from _, hb2, ⟨⟨_, hv2, ?_⟩, hB.trans hb2⟩⟩
    rw [hfm, List.length_append]
    exact hr2
  case done =>
    rintro D ys W hD hS ⟨⟨v, hv, hrow, _⟩, hB⟩ hK
    have hc := hv.cell
    gi_wp2
    refine ⟨by simp, .inl ⟨_, _, rfl, run_takeDeferred hK, ?_⟩⟩
    exact ⟨_, results_tmp rfl _ _ _, v, ys, rfl, hS, ownsRow_putObj hrow _ hK rfl, hB.trans (belowK_b (w := w) (Nat.le_refl _) W D _ _ (by simp at hD; omega) hK rfl rfl)⟩
  case stop =>
    rintro D c pre W _ _ h _
    exact h.elim
end Go.Proofs.Ytfkkfjmdpkgicaa
