/- The clock's functions, each by its contract. -/
import Derived.Test.YtfkkfjmdpkgicaaBase
import Derived.StillTailTactics

namespace Go.Proofs.Ytfkkfjmdpkgicaa
open Go.RowKit

/-- one more than the greater, as far as there is one -/
def nxt (a b : Int) : Int := if a < b then (if b = 18446744073709551615 then b else b + 1) else (if a = 18446744073709551615 then a else a + 1)

theorem set_set (w : World) (blk off : Nat) (v v' : Value) : (w.setCell ⟨blk, off, none⟩ v).setCell ⟨blk, off, none⟩ v' = w.setCell ⟨blk, off, none⟩ v' := by
  simp only [World.setCell]
  congr 1
  apply Array.ext_getElem?
  intro i
  simp only [Array.getElem?_modify]
  split
  · cases w.heap[i]? with
    | none => rfl
    | some o => cases o <;> simp
  · rfl

def U64 (x : Int) : Prop := 0 ≤ x ∧ x ≤ 18446744073709551615

theorem u64_of_wf {x : Int} (h : (Lit.int .u64 x).wf = true) : U64 x := by
  simp [Lit.wf, IntKind.min, IntKind.max, IntKind.signed, IntKind.bits] at h
  exact ⟨by omega, by omega⟩
theorem nxt_ge (a b : Int) (h : U64 a) : a ≤ nxt a b := by
  obtain ⟨h1, h2⟩ := h
  unfold nxt; (repeat' split) <;> omega
theorem nxt_u (a b : Int) (h : U64 a) (h' : U64 b) : U64 (nxt a b) := by
  obtain ⟨h1, h2⟩ := h; obtain ⟨h3, h4⟩ := h'
  unfold nxt U64; (repeat' split) <;> omega

set_option maxHeartbeats 400000 in
theorem new_any (w : World) :
    Calls Try.prog 8 #[] w fun e w' => e = .returned (.pointer (some ⟨w.heap.size, 0, none⟩)) ∧ w' = w.alloc (.cells #[.int .u64 0] 60) := by
  go_enter Try.func8, Try.ntmps8
  go_wp2
  go_ret
  exact ⟨rfl, rfl⟩


set_option maxHeartbeats 400000 in
theorem next_any (a b : Int) (w : World) (ha : U64 a) (hb : U64 b) :
    Calls Try.prog 9 #[.int .u64 a, .int .u64 b] w fun e w' => e = .returned (.int .u64 (nxt a b)) ∧ w = w' := by
  have HA := hid ha; clear ha
  have HB := hid hb; clear hb
  go_enter Try.func9, Try.ntmps9
  go_wp2
  all_goals (go_ret; refine ⟨ret_int ?_, rfl⟩; obtain ⟨a0, a1⟩ := HA.out; obtain ⟨b0, b1⟩ := HB.out; (simp only [nxt]; (try simp only [beq_iff_eq, beq_eq_false_iff_ne, bne_iff_ne, bne_eq_false_iff_eq, IntKind.wrap_u64, ne_eq] at *); (repeat' split at *) <;> omega))

set_option maxHeartbeats 400000 in
theorem see_any (b : Nat) (c n : Int) (w : World) (h0 : U64 c) (h1 : U64 n) (hc : w.cell? ⟨b, 0, none⟩ = some (.int .u64 c)) (hf : w.frozen? ⟨b, 0, none⟩ = false) :
    Calls Try.prog 11 #[.pointer (some ⟨b, 0, none⟩), .int .u64 n] w fun e w' => e = .returned (.int .u64 (nxt c n)) ∧ w' = w.setCell ⟨b, 0, none⟩ (.int .u64 (nxt c n)) := by
  have HA := hid h0; clear h0
  have HB := hid h1; clear h1
  go_enter Try.func11, Try.ntmps11
  go_wp2
  all_goals
    obtain ⟨a0, a1⟩ := HA.out
    obtain ⟨b0, b1⟩ := HB.out
    go_ret
    refine ⟨ret_int ?_, ?_⟩
    · (simp only [nxt]; (try simp only [beq_iff_eq, beq_eq_false_iff_ne, bne_iff_ne, bne_eq_false_iff_eq, IntKind.wrap_u64, ne_eq] at *); (repeat' split at *) <;> omega)
    · (try rw [set_set])
      congr 2; (simp only [nxt]; (try simp only [beq_iff_eq, beq_eq_false_iff_ne, bne_iff_ne, bne_eq_false_iff_eq, IntKind.wrap_u64, ne_eq] at *); (repeat' split at *) <;> omega)

set_option maxHeartbeats 400000 in
theorem see_nil (n : Int) (w : World) :
    Calls Try.prog 11 #[.pointer none, .int .u64 n] w fun e w' => e = .returned (.int .u64 0) ∧ w = w' := by
  go_enter Try.func11, Try.ntmps11
  go_wp2
  go_ret
  exact ⟨rfl, rfl⟩


set_option maxHeartbeats 400000 in
theorem tick_any (b : Nat) (c : Int) (w : World) (h0 : U64 c) (hc : w.cell? ⟨b, 0, none⟩ = some (.int .u64 c)) (hf : w.frozen? ⟨b, 0, none⟩ = false) :
    Calls Try.prog 10 #[.pointer (some ⟨b, 0, none⟩)] w fun e w' => e = .returned (.int .u64 (nxt c 0)) ∧ w' = w.setCell ⟨b, 0, none⟩ (.int .u64 (nxt c 0)) := by
  go_enter Try.func10, Try.ntmps10
  go_wp2_with (go_at_call 11; refine (see_any b c 0 _ h0 ⟨by omega, by omega⟩ hc hf).mono ?_; rintro e w' ⟨rfl, rfl⟩)
  go_ret
  exact ⟨rfl, rfl⟩

set_option maxHeartbeats 400000 in
theorem tick_nil (w : World) :
    Calls Try.prog 10 #[.pointer none] w fun e w' => e = .returned (.int .u64 0) ∧ w = w' := by
  go_enter Try.func10, Try.ntmps10
  go_wp2_with (go_at_call 11; refine (see_nil _ _).mono ?_; rintro e w' ⟨rfl, rfl⟩)
  go_ret
  exact ⟨rfl, rfl⟩

set_option maxHeartbeats 400000 in
theorem now_any (b : Nat) (c : Int) (w : World) (hc : w.cell? ⟨b, 0, none⟩ = some (.int .u64 c)) :
    Calls Try.prog 12 #[.pointer (some ⟨b, 0, none⟩)] w fun e w' => e = .returned (.int .u64 c) ∧ w = w' := by
  go_enter Try.func12, Try.ntmps12
  go_wp2
  go_ret
  exact ⟨rfl, rfl⟩

set_option maxHeartbeats 400000 in
theorem now_nil (w : World) :
    Calls Try.prog 12 #[.pointer none] w fun e w' => e = .returned (.int .u64 0) ∧ w = w' := by
  go_enter Try.func12, Try.ntmps12
  go_wp2
  go_ret
  exact ⟨rfl, rfl⟩

/-! ### cmp -/
def cmpv (a b : Int) : Int := if a < b then -1 else if b < a then 1 else 0

set_option maxHeartbeats 400000 in
theorem cmp64 (a b : Int) (w : World) : Calls Try.prog 23 #[.int .u64 a, .int .u64 b] w fun e w' => e = .returned (.int .i64 (cmpv a b)) ∧ w' = w := by
  go_enter Try.func23, Try.ntmps23
  go_wp2
  all_goals (go_ret; exact ⟨ret_int (by unfold cmpv; (repeat' split) <;> omega), rfl⟩)
set_option maxHeartbeats 400000 in
theorem cmp8 (a b : Int) (w : World) : Calls Try.prog 24 #[.int .u8 a, .int .u8 b] w fun e w' => e = .returned (.int .i64 (cmpv a b)) ∧ w' = w := by
  go_enter Try.func24, Try.ntmps24
  go_wp2
  all_goals (go_ret; exact ⟨ret_int (by unfold cmpv; (repeat' split) <;> omega), rfl⟩)
set_option maxHeartbeats 400000 in
theorem cmp32 (a b : Int) (w : World) : Calls Try.prog 25 #[.int .u32 a, .int .u32 b] w fun e w' => e = .returned (.int .i64 (cmpv a b)) ∧ w' = w := by
  go_enter Try.func25, Try.ntmps25
  go_wp2
  all_goals (go_ret; exact ⟨ret_int (by unfold cmpv; (repeat' split) <;> omega), rfl⟩)

def orv (a b c d : Int) : Int := if a ≠ 0 then a else if b ≠ 0 then b else if c ≠ 0 then c else d

set_option maxHeartbeats 400000 in
theorem or4 (c0 c1 c2 c3 : Int) (b : Nat) (w : World) (h0 : w.cell? ⟨b, 0, none⟩ = some (.int .i64 c0)) (h1 : w.cell? ⟨b, 1, none⟩ = some (.int .i64 c1)) (h2 : w.cell? ⟨b, 2, none⟩ = some (.int .i64 c2)) (h3 : w.cell? ⟨b, 3, none⟩ = some (.int .i64 c3)) :
    Calls Try.prog 22 #[.slice (some ⟨b, 0, none⟩) 4 4] w fun e w' => e = .returned (.int .i64 (orv c0 c1 c2 c3)) ∧ w' = w := by
  go_enter Try.func22, Try.ntmps22
  go_wp2
  go_rounds 5
  all_goals (go_ret; exact ⟨ret_int (by simp_all [orv]), rfl⟩)

/-! ### Order -/
structure Stp where
  n : Int
  node : Int
  inc : Int
  seq : Int
def Stp.val (s : Stp) : Value := .agg #[.int .u64 s.n, .int .u8 s.node, .int .u32 s.inc, .int .u32 s.seq]
def ord (a b : Stp) : Int := orv (cmpv a.n b.n) (cmpv a.node b.node) (cmpv a.inc b.inc) (cmpv a.seq b.seq)

set_option maxRecDepth 100000 in
set_option maxHeartbeats 1000000 in
theorem order_any (a b : Stp) (w : World) :
    Calls Try.prog 14 #[a.val, b.val] w fun e w' => e = .returned (.int .i64 (ord a b)) ∧ Below w.heap.size w w' := by
  obtain ⟨a0, a1, a2, a3⟩ := a
  obtain ⟨b0, b1, b2, b3⟩ := b
  simp only [Stp.val, ord]
  go_enter Try.func14, Try.ntmps14
  go_wp2
  refine wp_region_still_tail 26 (by kernel_rfl) (by kernel_rfl) ?_
  simp only [List.take_succ_cons, List.take_zero, List.drop_succ_cons, List.drop_zero, World.drew_eq]
  iterate 26 (first | still_call (cmp64 _ _ _) | still_call (cmp8 _ _ _) | still_call (cmp32 _ _ _) | still_step)
  refine wpStill_nil ?_
  change wpList _ _ _ _ _ (World.drew _)
  go_wp2_with fail
  refine (or4 (cmpv a0 b0) (cmpv a1 b1) (cmpv a2 b2) (cmpv a3 b3) _ _ ?_ ?_ ?_ ?_).mono ?_
  · go_cell
  · go_cell
  · go_cell
  · go_cell
  rintro e w' ⟨rfl, rfl⟩
  go_wp2
  go_ret
  exact ⟨rfl, by go_grown⟩

end Go.Proofs.Ytfkkfjmdpkgicaa
