/- The clocks of StampCauses, and what one of them sees. -/
import Derived.Test.YtfkkfjmdpkgicaaB
import Derived.Deep.OwnRows
namespace Go.Proofs.Ytfkkfjmdpkgicaa
open Go.RowKit

/-- Block t6 holds the slice of n pointers in the block arr; each leads to a clock that shows at most M. -/
structure Clks (B t6 arr n : Nat) (M : Int) (w : World) : Prop where
  slot : w.cell? ⟨t6, 0, none⟩ = some (.slice (some ⟨arr, 0, none⟩) n n)
  each : ∀ j, j < n → ∃ b c, w.cell? ⟨arr, j, none⟩ = some (.pointer (some ⟨b, 0, none⟩)) ∧ B ≤ b ∧ w.cell? ⟨b, 0, none⟩ = some (.int .u64 c) ∧ w.frozen? ⟨b, 0, none⟩ = false ∧ 0 ≤ c ∧ c ≤ M

/-- All but clocks is as it was. -/
structure Kp (B : Nat) (w w' : World) : Prop where
  below : Below B w w'
  cells : ∀ k o, k < w.heap.size → (∀ c, w.cell? ⟨k, 0, none⟩ ≠ some (.int .u64 c)) → w'.cell? ⟨k, o, none⟩ = w.cell? ⟨k, o, none⟩

theorem Kp.refl (B : Nat) (w : World) : Kp B w w := ⟨Below.refl _ _, fun _ _ _ _ => rfl⟩
theorem Kp.alloc {B : Nat} {w : World} (h : B ≤ w.heap.size) (o : Obj) : Kp B w (w.alloc o) := ⟨(Below.refl _ _).alloc h _, fun k _ hk _ => World.cell?_alloc_lt _ _ _ hk⟩
theorem Kp.trans {B : Nat} {a b c : World} (h : Kp B a b) (k : Kp B b c) : Kp B a c :=
  ⟨h.below.trans k.below, fun i o hi hn => (k.cells i o (Nat.lt_of_lt_of_le hi h.below.size) (fun c => by rw [h.cells i 0 hi hn]; exact hn c)).trans (h.cells i o hi hn)⟩
theorem Kp.setClock {B b : Nat} {c : Int} {w : World} (h : w.cell? ⟨b, 0, none⟩ = some (.int .u64 c)) (hb : B ≤ b) (v : Value) : Kp B w (w.setCell ⟨b, 0, none⟩ v) :=
  ⟨(Below.refl _ _).setCell hb _, fun k o _ hn => World.cell?_setCell_other _ _ _ _ (by rintro ⟨⟩; exact hn c h)⟩
theorem Kp.drew {B : Nat} {w w' : World} (h : Kp B w w') : Kp B w w'.drew := ⟨h.below.drew, h.cells⟩

theorem Clks.mono {B t6 arr n : Nat} {M M' : Int} {w : World} (h : Clks B t6 arr n M w) (hm : M ≤ M') : Clks B t6 arr n M' w :=
  ⟨h.slot, fun j hj => let ⟨b, c, q1, q2, q3, q4, q5, q6⟩ := h.each j hj; ⟨b, c, q1, q2, q3, q4, q5, Int.le_trans q6 hm⟩⟩
theorem Clks.alloc {B t6 arr n : Nat} {M : Int} {w : World} (h : Clks B t6 arr n M w) (o : Obj) : Clks B t6 arr n M (w.alloc o) := by
  refine ⟨?_, fun j hj => ?_⟩
  · rw [World.cell?_alloc_lt _ _ _ (World.block_lt_of_cell? _ _ h.slot)]; exact h.slot
  · obtain ⟨b, c, q1, q2, q3, q4, q5, q6⟩ := h.each j hj
    refine ⟨b, c, ?_, q2, ?_, ?_, q5, q6⟩
    · rw [World.cell?_alloc_lt _ _ _ (World.block_lt_of_cell? _ _ q1)]; exact q1
    · rw [World.cell?_alloc_lt _ _ _ (World.block_lt_of_cell? _ _ q3)]; exact q3
    · rw [World.frozen?_alloc_old _ _ _ (Nat.ne_of_lt (World.block_lt_of_cell? _ _ q3))]; exact q4
theorem Clks.drew {B t6 arr n : Nat} {M : Int} {w : World} (h : Clks B t6 arr n M w) : Clks B t6 arr n M w.drew := ⟨h.slot, h.each⟩
/-- A clock goes on. -/
theorem Clks.set {B t6 arr n b : Nat} {M M' c c' : Int} {w : World} (h : Clks B t6 arr n M w) (hc : w.cell? ⟨b, 0, none⟩ = some (.int .u64 c)) (h0 : 0 ≤ c') (h1 : c' ≤ M') (hm : M ≤ M') :
    Clks B t6 arr n M' (w.setCell ⟨b, 0, none⟩ (.int .u64 c')) := by
  have other : ∀ (a : Addr) (v : Value), w.cell? a = some v → (∀ x, v ≠ .int .u64 x) → (w.setCell ⟨b, 0, none⟩ (.int .u64 c')).cell? a = some v := by
    intro a v ha hv
    rw [World.cell?_setCell_other _ _ _ _ (by rintro rfl; rw [hc] at ha; cases ha; exact hv _ rfl)]
    exact ha
  refine ⟨other _ _ h.slot (by simp), fun j hj => ?_⟩
  obtain ⟨b2, c2, q1, q2, q3, q4, q5, q6⟩ := h.each j hj
  by_cases hb : b2 = b
  · subst hb
    exact ⟨b2, c', other _ _ q1 (by simp), q2, World.cell?_setCell_same _ _ _ hc, by rw [World.frozen?_setCell]; exact q4, h0, h1⟩
  · refine ⟨b2, c2, other _ _ q1 (by simp), q2, ?_, by rw [World.frozen?_setCell]; exact q4, q5, Int.le_trans q6 hm⟩
    rw [World.cell?_setCell_other _ _ _ _ (by rintro ⟨⟩; exact hb rfl)]
    exact q3

theorem Clks.old {B t6 arr n : Nat} {M : Int} {w w' : World} (h : Clks B t6 arr n M w) (hk : ∀ k, k < w.heap.size → w'.heap[k]? = w.heap[k]?) : Clks B t6 arr n M w' := by
  have cell : ∀ (a : Addr) (v : Value), w.cell? a = some v → w'.cell? a = some v := fun a v ha => (World.cell?_of_block (hk _ (World.block_lt_of_cell? _ _ ha))).trans ha
  refine ⟨cell _ _ h.slot, fun j hj => ?_⟩
  obtain ⟨b, c, q1, q2, q3, q4, q5, q6⟩ := h.each j hj
  exact ⟨b, c, cell _ _ q1, q2, cell _ _ q3, (World.frozen?_of_block (hk _ (World.block_lt_of_cell? _ _ q3))).trans q4, q5, q6⟩
theorem Kp.grown {B : Nat} {w w' : World} (h : w.grownBy w' none) (hB : B ≤ w.heap.size) : Kp B w w' :=
  ⟨(Below.refl _ _).grown h hB (by simp), fun k o hk _ => World.cell?_of_block (h.block k hk (by simp))⟩

/-- the messages that wait: none, or one -/
def Late (n : Nat) (M : Int) (w : World) (v : Value) : Prop :=
  ∃ ao ln cap, v = .slice ao ln cap ∧ ln ≤ 1 ∧ (0 < ln → ∃ (lb to : Nat) (m : Int), ao = some ⟨lb, 0, none⟩ ∧ w.cell? ⟨lb, 0, none⟩ = some (.int .i64 to) ∧ w.cell? ⟨lb, 1, none⟩ = some (.int .u64 m) ∧ to < n ∧ 0 ≤ m ∧ m ≤ M)
theorem Late.step {B n : Nat} {M M' : Int} {w w' : World} {v : Value} (h : Late n M w v) (k : Kp B w w') (hm : M ≤ M') : Late n M' w' v := by
  obtain ⟨ao, ln, cap, e, h1, h2⟩ := h
  refine ⟨ao, ln, cap, e, h1, fun h0 => ?_⟩
  obtain ⟨lb, to, m, q1, q2, q3, q4, q5, q6⟩ := h2 h0
  have hl := World.block_lt_of_cell? _ _ q2
  have hn : ∀ c, w.cell? ⟨lb, 0, none⟩ ≠ some (.int .u64 c) := fun c => by rw [q2]; simp
  exact ⟨lb, to, m, q1, (k.cells lb 0 hl hn).trans q2, (k.cells lb 1 hl hn).trans q3, q4, q5, by omega⟩

theorem late_of_owns {B n : Nat} {M : Int} {w : World} {v : Value} {to : Nat} {m : Int} (h : w.ownsRow B 36 2 v 1 [.int .i64 to, .int .u64 m]) (h1 : to < n) (h2 : 0 ≤ m) (h3 : m ≤ M) : Late n M w v := by
  rcases h.2 with ⟨_, h0⟩ | ⟨g, cap, cur, rfl, _⟩
  · cases h0
  · have hc := h.cells (g := g) rfl
    exact ⟨_, _, _, rfl, Nat.le_refl _, fun _ => ⟨g, to, m, rfl, by simpa [Addr.add] using hc 0 _ rfl, by simpa [Addr.add] using hc 1 _ rfl, h1, h2, h3⟩⟩

/-- What stands in a round. -/
structure St (W : World) (t6 arr n eb : Nat) (f : Int) (lt : Bool) (M : Int) (v : Value) (w : World) : Prop where
  cl : Clks W.heap.size t6 arr n M w
  late : Late n M w v
  below : Below W.heap.size W w
  ev : w.cell? ⟨eb, 0, none⟩ = some (.int .u8 f)
  flag : w.cell? ⟨eb, 2, none⟩ = some (.bool lt)
theorem St.step {W : World} {t6 arr n eb : Nat} {f : Int} {lt : Bool} {M M' : Int} {v : Value} {w w' : World} (h : St W t6 arr n eb f lt M v w) (k : Kp W.heap.size w w') (c : Clks W.heap.size t6 arr n M' w') (hm : M ≤ M') :
    St W t6 arr n eb f lt M' v w' := by
  have hl := World.block_lt_of_cell? _ _ h.ev
  have hn : ∀ c, w.cell? ⟨eb, 0, none⟩ ≠ some (.int .u64 c) := fun c => by rw [h.ev]; simp
  exact ⟨c, h.late.step k hm, h.below.trans k.below, (k.cells eb 0 hl hn).trans h.ev, (k.cells eb 2 hl hn).trans h.flag⟩

theorem nxt_lt {a b M : Int} (ha : 0 ≤ a) (hb : 0 ≤ b) (h1 : a ≤ M) (h2 : b ≤ M) (hM : M < 1000000) : a < nxt a b ∧ b < nxt a b ∧ nxt a b ≤ M + 1 ∧ 0 ≤ nxt a b := by
  unfold nxt; (repeat' split) <;> omega

set_option maxRecDepth 100000 in
set_option maxHeartbeats 1000000 in
/-- see: one clock sees a message's number. -/
theorem seem {B t6 arr n : Nat} {M : Int} {w : World} (h : Clks B t6 arr n M w) (to : Nat) (m : Int) (hto : to < n) (hn : n ≤ 5) (h0 : 0 ≤ m) (h1 : m ≤ M) (hM : M < 1000000) (hB : B ≤ w.heap.size) :
    Calls Try.prog 13 #[.agg #[.int .i64 to, .int .u64 m], .pointer (some ⟨t6, 0, none⟩)] w fun e w' => e = .returned (.bool true) ∧ Clks B t6 arr n (M + 1) w' ∧ Kp B w w' := by
  obtain ⟨b, c, q1, q2, q3, q4, q5, q6⟩ := h.each to hto
  have hs := h.slot
  have l1 := nxt_lt q5 h0 q6 h1 hM
  have ht : (to : Int) < (n : Int) := by omega
  have hsz : t6 < w.heap.size := World.block_lt_of_cell? _ _ hs
  have hsz1 : arr < w.heap.size := World.block_lt_of_cell? _ _ q1
  have hsz2 : b < w.heap.size := World.block_lt_of_cell? _ _ q3
  have H := hid h; clear h
  have HL := hid l1; clear l1
  have w1s : ∀ o, (w.alloc o).cell? ⟨t6, 0, none⟩ = some (.slice (some ⟨arr, 0, none⟩) n n) := fun o => by rw [World.cell?_alloc_lt _ _ _ hsz]; exact hs
  have w1a : ∀ o, (w.alloc o).cell? ⟨arr, to, none⟩ = some (.pointer (some ⟨b, 0, none⟩)) := fun o => by rw [World.cell?_alloc_lt _ _ _ hsz1]; exact q1
  have w1c : ∀ o, (w.alloc o).cell? ⟨b, 0, none⟩ = some (.int .u64 c) := fun o => by rw [World.cell?_alloc_lt _ _ _ hsz2]; exact q3
  have w1f : ∀ o, (w.alloc o).frozen? ⟨b, 0, none⟩ = false := fun o => by rw [World.frozen?_alloc_old _ _ _ (Nat.ne_of_lt hsz2)]; exact q4
  have Q3 := hid q3
  clear hs q1 q3 q4
  go_enter Try.func13, Try.ntmps13
  go_wp2_with fail
  refine (now_any _ c _ (w1c _)).mono ?_; rintro e w' ⟨rfl, rfl⟩
  go_wp2_with fail
  have ub : U64 c ∧ U64 m := ⟨⟨q5, by omega⟩, ⟨h0, by omega⟩⟩
  have UB := hid ub; clear ub
  refine wp_region_still_tail 7 (by kernel_rfl) (by kernel_rfl) ?_
  simp only [List.take_succ_cons, List.take_zero, List.drop_succ_cons, List.drop_zero, World.drew_eq]
  iterate 7 still_step
  refine wpStill_nil ?_
  change wpList _ _ _ _ _ (World.drew _)
  go_wp2_with fail
  refine (see_any b c m _ UB.out.1 UB.out.2 (by exact w1c _) (by exact w1f _)).mono ?_; rintro e w' ⟨rfl, rfl⟩
  obtain ⟨g1, g2, g3, g4⟩ := HL.out
  go_wp2
  go_ret
  refine ⟨rfl, ?_, ?_⟩
  · exact ((H.out.set Q3.out g4 g3 (by omega)).alloc _).drew
  · exact ((Kp.setClock Q3.out q2 _).trans (Kp.alloc (by simpa using hB) _)).drew
end Go.Proofs.Ytfkkfjmdpkgicaa
