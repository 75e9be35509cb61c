/- IndexNil: the walk. -/
import Derived.Test.YtfmohmlpcielnaaW
namespace Go.Proofs.Ytfmohmlpcielnaa
open Go.RowKit
set_option maxRecDepth 100000 in
set_option maxHeartbeats 400000 in
theorem get_nil (k : Int) (w : World) : Calls Try.prog 19 #[.pointer none, .int .u64 k] w fun e w' => e = .returned (.tuple #[.int .u64 0, .bool false]) ∧ Kept (fun _ => False) w w' := by
  go_enter Try.func19, Try.ntmps19
  go_wp2
  go_returns
  exact ⟨rfl, Kept.refl _ _⟩
set_option maxRecDepth 100000 in
set_option maxHeartbeats 400000 in
theorem put_nil (k v : Int) (w : World) : Calls Try.prog 10 #[.pointer none, .int .u64 k, .int .u64 v] w fun e w' => e = .returned (.int .i64 6) ∧ Kept (fun _ => False) w w' := by
  go_enter Try.func10, Try.ntmps10
  go_wp2
  go_returns
  exact ⟨rfl, Kept.refl _ _⟩
set_option maxRecDepth 100000 in
set_option maxHeartbeats 400000 in
theorem del_nil (k : Int) (w : World) : Calls Try.prog 17 #[.pointer none, .int .u64 k] w fun e w' => e = .returned (.int .i64 6) ∧ Kept (fun _ => False) w w' := by
  go_enter Try.func17, Try.ntmps17
  go_wp2
  go_returns
  exact ⟨rfl, Kept.refl _ _⟩
set_option maxRecDepth 100000 in
set_option maxHeartbeats 400000 in
theorem next_nil (k : Int) (w : World) : Calls Try.prog 13 #[.pointer none, .int .u64 k] w fun e w' => e = .returned (.tuple #[.agg #[.int .u64 0, .int .u64 0], .bool false]) ∧ Kept (fun _ => False) w w' := by
  go_enter Try.func13, Try.ntmps13
  go_wp2
  go_returns
  exact ⟨rfl, by first | exact Kept.refl _ _ | exact (Kept.refl _ _).alloc _⟩
set_option maxRecDepth 100000 in
set_option maxHeartbeats 400000 in
theorem range_nil (a b : Int) (w : World) : Calls Try.prog 11 #[.pointer none, .int .u64 a, .int .u64 b] w fun e w' => e = .returned (.slice none 0 0) ∧ Kept (fun _ => False) w w' := by
  go_enter Try.func11, Try.ntmps11
  go_wp2
  go_returns
  exact ⟨rfl, Kept.refl _ _⟩
set_option maxRecDepth 100000 in
set_option maxHeartbeats 400000 in
theorem pages_nil (w : World) : Calls Try.prog 16 #[.pointer none] w fun e w' => e = .returned (.slice none 0 0) ∧ Kept (fun _ => False) w w' := by
  go_enter Try.func16, Try.ntmps16
  go_wp2
  go_returns
  exact ⟨rfl, Kept.refl _ _⟩
set_option maxRecDepth 100000 in
set_option maxHeartbeats 400000 in
theorem len_nil (w : World) : Calls Try.prog 12 #[.pointer none] w fun e w' => e = .returned (.int .i64 0) ∧ Kept (fun _ => False) w w' := by
  go_enter Try.func12, Try.ntmps12
  go_wp2
  go_returns
  exact ⟨rfl, Kept.refl _ _⟩
def evens (v : Int) (n : Nat) : List It := (List.range n).map fun j : Nat => (2 * (j : Int), v)
theorem evens_succ (v : Int) (n : Nat) : evens v (n + 1) = evens v n ++ [(2 * (n : Int), v)] := by simp [evens, List.range_succ]
theorem evens_len (v : Int) (n : Nat) : (evens v n).length = n := by simp [evens]
theorem mem_evens {v : Int} {n : Nat} {x : It} : x ∈ evens v n ↔ ∃ j : Nat, j < n ∧ x = (2 * (j : Int), v) := by
  simp [evens, eq_comm]
theorem evens_put (v : Int) (n : Nat) (h : n < 4096) : putN (evens v n) (2 * (n : Int)) = 0 ∧ putM (evens v n) (2 * (n : Int)) v = evens v (n + 1) := by
  have hl : (evens v n).length < 4096 := by rw [evens_len]; exact h
  refine ⟨putN_ok hl _, ?_⟩
  rw [putM_ok hl, layL_end, evens_succ]
  intro x hx
  obtain ⟨j, hj, rfl⟩ := mem_evens.1 hx
  show 2 * (j : Int) < 2 * (n : Int)
  omega
set_option maxRecDepth 100000 in
set_option maxHeartbeats 1000000 in
theorem nil_walk (W : World) (args : Array Value) (h : RdAll Try.prog W Try.f6.params.toList args.toList) :
    Calls Try.prog 6 args W fun e W' => e = .returned (.bool true) ∧ Below W.heap.size W W' := by
  rw [Try.params6] at h
  obtain ⟨v0, v1, rfl⟩ : ∃ v0 v1, args = #[v0, v1] := by
    rcases args with ⟨_ | ⟨v0, _ | ⟨v1, _ | ⟨v2, l⟩⟩⟩⟩ <;> simp [RdAll] at h
    exact ⟨v0, v1, rfl⟩
  obtain ⟨r0, r1, _⟩ := h
  obtain ⟨k, rfl, wk⟩ := r0.int Try.underlying26
  obtain ⟨v, rfl, wv⟩ := r1.int Try.underlying26
  clear r0 r1 wk wv
  go_enter Try.func6, Try.ntmps6
  go_wp2_with fail
  refine (get_nil k _).mono ?_; rintro e w1 ⟨rfl, hk⟩
  have K1 := hid hk; clear hk
  go_wp2_with fail
  refine (next_nil k _).mono ?_; rintro e w2 ⟨rfl, hk⟩
  have K2 := hid ((K1.out.trans hk).alloc (.cells #[.int .u64 0, .int .u64 0] 33))
  have y0 : (w2.alloc (.cells #[.int .u64 0, .int .u64 0] 33)).cell? ⟨w2.heap.size, 0, none⟩ = some (.int .u64 0) := row_cell (row_new _ _) 0
  have y1 : (w2.alloc (.cells #[.int .u64 0, .int .u64 0] 33)).cell? ⟨w2.heap.size, 1, none⟩ = some (.int .u64 0) := row_cell (row_new _ _) 1
  clear hk
  go_wp2_with fail
  refine (awake_any _).mono ?_; rintro e w3 ⟨rfl, hk⟩
  have K3 := hid (K2.out.trans hk); replace y0 := hk.cell y0 (fun h => h); replace y1 := hk.cell y1 (fun h => h); clear hk
  go_wp2_with fail
  refine (put_nil k v _).mono ?_; rintro e w4 ⟨rfl, hk⟩
  have K4 := hid (K3.out.trans hk); replace y0 := hk.cell y0 (fun h => h); replace y1 := hk.cell y1 (fun h => h); clear hk
  go_wp2_with fail
  refine (del_nil k _).mono ?_; rintro e w5 ⟨rfl, hk⟩
  have K5 := hid (K4.out.trans hk); replace y0 := hk.cell y0 (fun h => h); replace y1 := hk.cell y1 (fun h => h); clear hk
  go_wp2_with fail
  refine (range_nil 0 k _).mono ?_; rintro e w6 ⟨rfl, hk⟩
  have K6 := hid (K5.out.trans hk); clear hk y0 y1
  go_wp2_with fail
  refine (pages_nil _).mono ?_; rintro e w7 ⟨rfl, hk⟩
  have K7 := hid (K6.out.trans hk); clear hk
  go_wp2_with fail
  refine (len_nil _).mono ?_; rintro e w8 ⟨rfl, hk⟩
  have K8 := hid (K7.out.trans hk); clear hk
  clear K1 K2 K3 K4 K5 K6 K7
  go_wp2_with fail
  refine (new_flat w8).mono ?_
  rintro e w9 ⟨rfl, hx, hk⟩
  obtain ⟨ab, hab⟩ : ∃ ab, ab = w8.heap.size := ⟨_, rfl⟩
  have K9 := hid (K8.out.trans hk); have z1 := K8.out.size
  rw [← hab] at hx z1 ⊢
  have X9 := hid hx
  clear hx hk hab
  go_wp2_with fail
  go_loopw [11, 73] (fun _ i wr => ∃ n : Nat, n ≤ 4096 ∧ i = .int .u64 n ∧ Ix (fun g => W.heap.size ≤ g) wr ab (evens v n) ∧ Kept (fun _ => False) W wr) (fun _ i _ => 4096 - (intOf i).toNat)
  case atStart => exact ⟨0, Nat.zero_le _, rfl, X9.out.mono (fun g hg => by omega), K9.out⟩
  case round =>
    rename World => wA
    obtain ⟨n, hn, rfl, hA, hK⟩ := hrel
    have XA := hid hA; have KA := hid hK
    clear hA hK
    by_cases hlt : n < 4096
    · have hltI : (n : Int) < 4096 := by omega
      have w1 : IntKind.u64.wrap (2 * (n : Int)) = 2 * (n : Int) := IntWalk.u64_in _ (by omega)
      have w2 : IntKind.u64.wrap ((n : Int) + 1) = (n : Int) + 1 := IntWalk.u64_in _ (by omega)
      obtain ⟨e1, e2⟩ := evens_put v n hlt
      have E1 := hid e1; have E2 := hid e2
      clear e1 e2
      go_wp2_with fail
      refine (put_flat (F := fun g => W.heap.size ≤ g) XA.out (fun g hg => by have := KA.out.size; omega) (2 * (n : Int)) v).mono ?_
      rintro e wB ⟨rfl, hA, hk⟩
      rw [E1.out]
      rw [E2.out] at hA
      have XB := hid hA; have KB := hid (KA.out.trans' hk (fun g hg => .inr hg))
      clear hA hk
      go_wp2
      go_roundw
      case rel => exact ⟨n + 1, by omega, by go_num, XB.out, KB.out⟩
      case measure => simp [intOf]; omega
    · obtain rfl : n = 4096 := by omega
      have ev : ∀ x ∈ evens v 4096, ∃ j : Nat, j < 4096 ∧ x.1 = 2 * (j : Int) := fun x hx => by
        obtain ⟨j, hj, rfl⟩ := mem_evens.1 hx
        exact ⟨j, hj, rfl⟩
      have g1 : getI (evens v 4096) 1 = none := getI_none fun x hx => by
        obtain ⟨j, _, e⟩ := ev x hx; omega
      have in4 : ∃ x ∈ evens v 4096, x.1 = 4 := ⟨(2 * ((2 : Nat) : Int), v), mem_evens.2 ⟨2, by omega, rfl⟩, by simp⟩
      have in0 : ∃ x ∈ evens v 4096, x.1 = 0 := ⟨(2 * ((0 : Nat) : Int), v), mem_evens.2 ⟨0, by omega, rfl⟩, by simp⟩
      have hl := evens_len v 4096
      obtain ⟨M, hM⟩ : ∃ M, evens v 4096 = M := ⟨_, rfl⟩
      rw [hM] at g1 in4 in0 hl XA
      have p1 : putN M 1 = 10 := by unfold putN; rw [g1, hl]; rfl
      have p2 : putM M 1 v = M := by unfold putM; rw [g1, hl]; rfl
      have p3 : putN M 4 = 0 := by unfold putN; rw [if_pos (getI_some.2 in4)]
      have p4 : putM M 4 7 = layL M 4 7 := by unfold putM; rw [if_pos (getI_some.2 in4)]
      have hu := XA.out.up
      have hl2 : (layL M 4 7).length = 4096 := by rw [layL_len_in hu in4, hl]
      have in02 : ∃ x ∈ layL M 4 7, x.1 = 0 := by
        obtain ⟨x, hx, e⟩ := in0
        exact ⟨x, mem_layL.2 (.inr ⟨hx, by omega⟩), e⟩
      have hl3 := dropL_len (layL_up hu 4 7) in02
      obtain ⟨M2, hM2⟩ : ∃ M2, layL M 4 7 = M2 := ⟨_, rfl⟩
      rw [hM2] at hl2 in02 hl3 p4
      have p5 : (getI M2 0).isSome = true := getI_some.2 in02
      have p6 : putN (dropL M2 0) 1 = 0 := putN_ok (by omega) _
      have P1 := hid p1; have P2 := hid p2; have P3 := hid p3; have P4 := hid p4; have P5 := hid p5; have P6 := hid p6; have HL2 := hid hl2
      clear ev g1 in4 in0 hl hM p1 p2 p3 p4 hu hl2 in02 hl3 hM2 p5 p6
      go_wp2_with fail
      refine (put_flat (F := fun g => W.heap.size ≤ g) XA.out (fun g hg => by have := KA.out.size; omega) 1 v).mono ?_
      rintro e wB ⟨rfl, hA, hk⟩
      rw [P1.out]
      rw [P2.out] at hA
      have XB := hid hA; have KB := hid (KA.out.trans' hk (fun g hg => .inr hg))
      clear hA hk
      go_wp2_with fail
      refine (put_flat (F := fun g => W.heap.size ≤ g) XB.out (fun g hg => by have := KB.out.size; omega) 4 7).mono ?_
      rintro e wC ⟨rfl, hA, hk⟩
      rw [P3.out]
      rw [P4.out] at hA
      have XC := hid hA; have KC := hid (KB.out.trans' hk (fun g hg => .inr hg))
      clear hA hk
      go_wp2_with fail
      refine (len_flat XC.out).mono ?_
      rintro e wD ⟨rfl, hk⟩
      rw [HL2.out]
      have KD := hid (KC.out.trans hk); have XD := hid (XC.out.same hk)
      clear hk
      go_wp2_with fail
      refine (del_flat (F := fun g => W.heap.size ≤ g) XD.out (fun g hg => by have := KD.out.size; omega) 0).mono ?_
      rintro e wE ⟨rfl, hA, hk⟩
      rw [P5.out]
      have XE := hid hA; have KE := hid (KD.out.trans' hk (fun g hg => .inr hg))
      clear hA hk
      go_wp2_with fail
      refine (put_flat (F := fun g => W.heap.size ≤ g) XE.out (fun g hg => by have := KE.out.size; omega) 1 v).mono ?_
      rintro e wF ⟨rfl, hA, hk⟩
      rw [P6.out]
      have KF := hid (KE.out.trans' hk (fun g hg => .inr hg))
      clear hA hk
      go_wp2
      go_ret
      exact ⟨rfl, KF.out.below (Nat.le_refl _) (fun _ h => h.elim)⟩
end Go.Proofs.Ytfmohmlpcielnaa
