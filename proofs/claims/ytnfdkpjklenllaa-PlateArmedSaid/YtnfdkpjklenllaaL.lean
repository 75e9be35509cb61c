/- PlateArmed's walk. -/
import Derived.Test.YtnfdkpjklenllaaK
namespace Go.Proofs.Ytnfdkpjklenllaa
open Go.RowKit

set_option maxHeartbeats 1000000 in
theorem write_off {F : Nat → Prop} {w : World} {b : Nat} {S : Plt} (h : PlAt F w b S) (hoff : S.off = true) (i : Int) (i0 : 0 ≤ i) (i1 : i < S.n) {a : Option Addr} {c n : Nat} (hn : n ≤ 64) :
    Calls Try.prog 10 #[.pointer (some ⟨b, 0, none⟩), .int .i64 i, .slice a n c] w fun e w' => e = .returned (.int .i64 11) ∧ Kept (fun _ => False) w w' := by
  obtain ⟨mb, ao, cap, hp⟩ := h
  obtain ⟨c0, c1, c2, c3, c4, c5⟩ := cells6 hp.r
  have H := hid hp; clear hp
  have HO := hid hoff; clear hoff c1 c2 c3 c4 c5
  have i0' : ¬ i < 0 := by omega
  have i1' : ¬ S.n ≤ i := by omega
  have l1' : ¬ (64 : Int) < (n : Int) := by omega
  go_enter Try.func10, Try.ntmps10
  go_wp2_with fail
  refine (check_any ⟨_, _, _, H.out⟩).mono ?_
  rintro e w1 ⟨rfl, hk1⟩
  have he : S.err = 11 := by simp [Plt.err, HO.out]
  rw [he]
  have HK1 := hid hk1
  clear hk1 he
  go_wp2
  go_ret
  exact ⟨rfl, HK1.out⟩

structure Arm (S : Plt) (N k : Nat) : Prop where
  n : S.n = 4
  off : S.off = decide (N + 1 ≤ k)
  armed : S.armed = ((N + 1 - k : Nat) : Int)
  ops : S.ops = ((min k (N + 1) : Nat) : Int)
  since : S.since.length ≤ k
theorem Arm.tick {S : Plt} {N k : Nat} (h : Arm S N k) (hk : k ≤ N) : Arm (tick S) N (k + 1) := by
  obtain ⟨h1, h2, h3, h4, h5⟩ := h
  refine ⟨h1, ?_, ?_, ?_, ?_⟩
  · simp only [Go.Proofs.Ytnfdkpjklenllaa.tick, h3]; rw [if_pos (by omega), decide_eq_decide]; omega
  · simp only [Go.Proofs.Ytnfdkpjklenllaa.tick, h3]; rw [if_pos (by omega)]; omega
  · simp only [Go.Proofs.Ytnfdkpjklenllaa.tick, h4]; omega
  · simp only [Go.Proofs.Ytnfdkpjklenllaa.tick]; omega
theorem Arm.add {S : Plt} {N k : Nat} (h : Arm S N k) (hk : k ≤ N) (i : Int) (l : List Int) : Arm (Go.Proofs.Ytnfdkpjklenllaa.tick (S.add i l)) N (k + 1) := by
  obtain ⟨h1, h2, h3, h4, h5⟩ := h
  refine ⟨h1, ?_, ?_, ?_, ?_⟩
  · simp only [Go.Proofs.Ytnfdkpjklenllaa.tick, Plt.add, h3]; rw [if_pos (by omega), decide_eq_decide]; omega
  · simp only [Go.Proofs.Ytnfdkpjklenllaa.tick, Plt.add, h3]; rw [if_pos (by omega)]; omega
  · simp only [Go.Proofs.Ytnfdkpjklenllaa.tick, Plt.add, h4]; omega
  · simp only [Go.Proofs.Ytnfdkpjklenllaa.tick, Plt.add, List.length_append, List.length_singleton]; omega
theorem Arm.flushed {S : Plt} {N k : Nat} (h : Arm S N k) : Arm S.flushed N k := ⟨h.n, h.off, h.armed, h.ops, by simp [Plt.flushed]⟩
theorem Arm.late {S : Plt} {N k : Nat} (h : Arm S N k) (hk : N < k) : Arm S N (k + 1) := by
  obtain ⟨h1, h2, h3, h4, h5⟩ := h
  refine ⟨h1, ?_, ?_, ?_, by omega⟩
  · rw [h2, decide_eq_decide]; omega
  · rw [h3]; omega
  · rw [h4]; omega
theorem Arm.small {S : Plt} {N k : Nat} (h : Arm S N k) (hN : N ≤ 20) : Small S := ⟨by rw [h.ops]; omega, by rw [h.armed]; omega⟩

theorem cellsBool : Try.prog.cellsOf 4 = 1 := by kernel_rfl
set_option maxRecDepth 100000 in
set_option maxHeartbeats 8000000 in
theorem armed_walk (W : World) (args : Array Value) (h : RdAll Try.prog W Try.f6.params.toList args.toList) :
    Calls Try.prog 6 args W fun e W' => e = .returned (.bool true) ∧ Below W.heap.size W W' := by
  rw [Try.params6] at h
  obtain ⟨v0, v1, rfl⟩ : ∃ v0 v1, args = #[v0, v1] := by
    rcases args with ⟨_ | ⟨v0, _ | ⟨v1, _ | ⟨v3, l⟩⟩⟩⟩ <;> simp [RdAll] at h
    exact ⟨v0, v1, rfl⟩
  obtain ⟨r0, r1, _⟩ := h
  obtain ⟨nn, rfl, wn⟩ := r0.int Try.underlying5
  have wn := wf8 wn
  obtain ⟨fa, flen, fcap, rfl, h0⟩ := r1.slice Try.underlying49
  obtain ⟨l0, m0, z0, _, c0⟩ := h0.row1 Try.underlying49 cellsBool
  unfold maxLen at m0
  have C0 := hid c0
  have hfl : flen ≤ 9223372036854775807 := by omega
  clear c0 h0 r0 r1 z0 m0
  obtain ⟨N, hN⟩ : ∃ N : Nat, (N : Int) = nn % 20 := ⟨(nn % 20).toNat, by omega⟩
  have hN19 : N ≤ 19 := by omega
  have t1 : nn.tmod 20 = (N : Int) := by rw [hN]; exact Int.tmod_eq_emod_of_nonneg wn.1
  have t2 : IntKind.u8.wrap (N : Int) = (N : Int) := by simp [IntKind.wrap, IntKind.signed, IntKind.bits]; omega
  have t3 : IntKind.i64.wrap (N : Int) = (N : Int) := IntWalk.i64_in _ (by omega)
  have t4 : IntKind.i64.wrap (1 + (N : Int)) = 1 + (N : Int) := IntWalk.i64_in _ (by omega)
  clear hN
  go_enter Try.func6, Try.ntmps6
  go_wp2_with fail
  refine (awake_any _).mono ?_; rintro e w1 ⟨rfl, hk1⟩
  have K1 := hid hk1; clear hk1
  go_wp2_with fail
  refine (new_ok w1 4 (by decide) (by decide)).mono ?_
  rintro e w2 ⟨b, rfl, hp, hk, hb⟩
  have K2 := hid (K1.out.trans hk); have P2 := hid hp.bound; have KS := hid K1.out.size; clear hp hk hb K1
  go_wp2_with fail
  obtain ⟨mb, ao, cap, hpl⟩ := P2.out
  refine (arm_ok hpl rfl (1 + (N : Int)) (by omega)).mono ?_
  rintro e w3 ⟨rfl, hp, hk⟩
  have P3 := hid (show PlAt (fun g => W.heap.size ≤ g) w3 b { newP 4 with armed := 1 + (N : Int) } from ⟨_, _, _, (hp.mono (G := fun g => W.heap.size ≤ g) (fun g hg => by have := KS.out; have := hg.1; omega))⟩)
  have K3 := hid (K2.out.trans' hk (fun g hg => by subst hg; have := hpl.m.1; have := KS.out; exact .inr (by omega)))
  have A3 := hid (show Arm { newP 4 with armed := 1 + (N : Int) } N 0 from ⟨rfl, by simp [newP], by simp; omega, by simp [newP], by simp [newP]⟩)
  clear hpl hp hk P2 K2 KS
  go_wp2_with fail
  go_loopw [26] (fun i wr => ∃ (k : Nat) (S : Plt), k ≤ 40 ∧ i = .int .i64 k ∧ PlAt (fun g => W.heap.size ≤ g) wr b S ∧ Arm S N k ∧ Kept (fun _ => False) W wr) (fun i _ => 40 - (intOf i).toNat)
  case atStart => exact ⟨0, _, by decide, rfl, P3.out, A3.out, K3.out⟩
  case round =>
    clear P3 A3 K3
    obtain ⟨k, S, hk, rfl, hp, ha, hkp⟩ := hrel
    have HP := hid hp; have HA := hid ha; have HK := hid hkp; clear hp ha hkp
    by_cases hlt : k < 40
    · obtain ⟨q, hq⟩ : ∃ q, q = (k : Int) % 4 := ⟨_, rfl⟩
      have q0 : 0 ≤ q := by omega
      have q4 : q < 4 := by omega
      have s1 : (k : Int).tmod 4 = q := by rw [hq]; exact Int.tmod_eq_emod_of_nonneg (by omega)
      have s2 : IntKind.i64.wrap q = q := IntWalk.i64_in _ (by omega)
      have s3 : IntKind.u8.wrap (k : Int) = (k : Int) := by simp [IntKind.wrap, IntKind.signed, IntKind.bits]; omega
      have s4 : IntKind.i64.wrap ((k : Int) + 1) = (k : Int) + 1 := IntWalk.i64_in _ (by omega)
      clear hq
      have hways : (∃ fb off, fa = some ⟨fb, off, none⟩ ∧ k < flen ∧ wr.cell? ⟨fb, off + k, none⟩ = some (.bool true)) ∨ (∃ fb off, fa = some ⟨fb, off, none⟩ ∧ k < flen ∧ wr.cell? ⟨fb, off + k, none⟩ = some (.bool false)) ∨ flen ≤ k := by
        by_cases hkl : k < flen
        · obtain ⟨fb, off, v, rfl, _, hc, hr⟩ := C0.out k (by omega)
          obtain ⟨z, hz⟩ := hr.bool Try.underlying4
          simp only [List.cons.injEq, and_true] at hz
          subst hz
          have := HK.out.cell hc (fun h => h)
          cases z
          · exact .inr (.inl ⟨fb, off, rfl, hkl, this⟩)
          · exact .inl ⟨fb, off, rfl, hkl, this⟩
        · exact .inr (.inr (by omega))
      have hpos : (k : Int) < (N : Int) ∨ ((k : Int) ≤ (N : Int) ∧ (N : Int) ≤ (k : Int)) ∨ (N : Int) < (k : Int) := by omega
      rcases hways with ⟨fb, off, rfl, hkl, hcell⟩ | ⟨fb, off, rfl, hkl, hcell⟩ | hkl
      · rcases hpos with hpos | ⟨hpos, hpos2⟩ | hpos
        · obtain ⟨mb, ao, cap, hpl⟩ := HP.out.bound
          go_wp2_with fail
          refine (flush_ok hpl (HA.out.small (by omega)) (by rw [HA.out.off]; simp; omega) (by have := HA.out.since; omega) (by rw [(HA.out.tick (by omega)).off]; simp; omega)).mono ?_
          rintro e w4 ⟨rfl, hp, hk4⟩
          have HP2 := hid (hp.mono (G := fun g => W.heap.size ≤ g) (fun g hg => hg.1)); have HK2 := hid (HK.out.trans' hk4 (fun g hg => .inr hg.1)); have HA2 := hid (HA.out.tick (by omega)).flushed
          clear hpl hp hk4
          have HQ := hid HA2.out.ops
          go_wp2_with fail
          refine (ops_any HP2.out).mono ?_
          rintro e w9 ⟨rfl, rfl⟩
          rw [show (tick S).flushed.ops = (k : Int) + 1 by rw [HQ.out]; omega]
          go_wp2
          go_roundw
          case rel => exact ⟨k + 1, _, by omega, by go_num, HP2.out, HA2.out, HK2.out⟩
          case measure => simp [intOf]; omega
        · obtain ⟨mb, ao, cap, hpl⟩ := HP.out.bound
          go_wp2_with fail
          refine (flush_dead hpl (HA.out.small (by omega)) (by rw [HA.out.off]; simp; omega) (by rw [(HA.out.tick (by omega)).off]; simp; omega)).mono ?_
          rintro e w4 ⟨rfl, hp, hk4⟩
          have HP2 := hid (hp.mono (G := fun g => W.heap.size ≤ g) (fun g hg => hg.1)); have HK2 := hid (HK.out.trans' hk4 (fun g hg => .inr hg.1)); have HA2 := hid (HA.out.tick (by omega))
          clear hpl hp hk4
          have HQ := hid HA2.out.ops
          go_wp2_with fail
          refine (ops_any HP2.out).mono ?_
          rintro e w9 ⟨rfl, rfl⟩
          rw [show (tick S).ops = (k : Int) + 1 by rw [HQ.out]; omega]
          go_wp2
          go_roundw
          case rel => exact ⟨k + 1, _, by omega, by go_num, HP2.out, HA2.out, HK2.out⟩
          case measure => simp [intOf]; omega
        · go_wp2_with fail
          refine (flush_off HP.out (by rw [HA.out.off]; simp; omega)).mono ?_
          rintro e w4 ⟨rfl, hk4⟩
          have HP2 := hid (HP.out.same hk4); have HK2 := hid (HK.out.trans hk4); have HA2 := hid (HA.out.late (by omega))
          clear hk4
          have HQ := hid HA2.out.ops
          go_wp2_with fail
          refine (ops_any HP2.out).mono ?_
          rintro e w9 ⟨rfl, rfl⟩
          rw [show S.ops = 1 + (N : Int) by rw [HQ.out]; omega]
          go_wp2
          go_roundw
          case rel => exact ⟨k + 1, _, by omega, by go_num, HP2.out, HA2.out, HK2.out⟩
          case measure => simp [intOf]; omega
      · rcases hpos with hpos | ⟨hpos, hpos2⟩ | hpos
        · go_wp2_with fail
          obtain ⟨mb, ao, cap, hpl⟩ := (HP.out.bound.same ((Kept.refl (fun _ => False) wr).alloc (.cells #[.int .u8 k] 5)))
          refine (write_ok hpl (HA.out.small (by omega)) (by rw [HA.out.off]; simp; omega) (by have := HA.out.since; omega) q q0 (by rw [HA.out.n]; exact q4) (byt_one wr k) (by simp)).mono ?_
          rintro e w4 ⟨rfl, ⟨F', hp, hf⟩, hk4⟩
          have HP2 := hid (hp.mono (G := fun g => W.heap.size ≤ g) (fun g hg => by rcases hf g hg with h | h; exact h.1; have := HK.out.size; simp at h; omega)); have HK2 := hid ((HK.out.alloc _).trans' hk4 (fun g hg => .inr hg.1)); have HA2 := hid (HA.out.add (by omega) q [(k : Int)])
          have hdn : (tick (S.add q [(k : Int)])).down = 0 := by simp only [Plt.down, HA2.out.off]; simp; omega
          rw [hdn]
          clear hpl hp hk4 hf hdn
          have HQ := hid HA2.out.ops
          go_wp2_with fail
          refine (ops_any HP2.out).mono ?_
          rintro e w9 ⟨rfl, rfl⟩
          rw [show (tick (S.add q [(k : Int)])).ops = (k : Int) + 1 by rw [HQ.out]; omega]
          go_wp2
          go_roundw
          case rel => exact ⟨k + 1, _, by omega, by go_num, HP2.out, HA2.out, HK2.out⟩
          case measure => simp [intOf]; omega
        · go_wp2_with fail
          obtain ⟨mb, ao, cap, hpl⟩ := (HP.out.bound.same ((Kept.refl (fun _ => False) wr).alloc (.cells #[.int .u8 k] 5)))
          refine (write_ok hpl (HA.out.small (by omega)) (by rw [HA.out.off]; simp; omega) (by have := HA.out.since; omega) q q0 (by rw [HA.out.n]; exact q4) (byt_one wr k) (by simp)).mono ?_
          rintro e w4 ⟨rfl, ⟨F', hp, hf⟩, hk4⟩
          have HP2 := hid (hp.mono (G := fun g => W.heap.size ≤ g) (fun g hg => by rcases hf g hg with h | h; exact h.1; have := HK.out.size; simp at h; omega)); have HK2 := hid ((HK.out.alloc _).trans' hk4 (fun g hg => .inr hg.1)); have HA2 := hid (HA.out.add (by omega) q [(k : Int)])
          have hdn : (tick (S.add q [(k : Int)])).down = 11 := by simp only [Plt.down, HA2.out.off]; simp; omega
          rw [hdn]
          clear hpl hp hk4 hf hdn
          have HQ := hid HA2.out.ops
          go_wp2_with fail
          refine (ops_any HP2.out).mono ?_
          rintro e w9 ⟨rfl, rfl⟩
          rw [show (tick (S.add q [(k : Int)])).ops = (k : Int) + 1 by rw [HQ.out]; omega]
          go_wp2
          go_roundw
          case rel => exact ⟨k + 1, _, by omega, by go_num, HP2.out, HA2.out, HK2.out⟩
          case measure => simp [intOf]; omega
        · go_wp2_with fail
          refine (write_off (HP.out.same ((Kept.refl (fun _ => False) wr).alloc (.cells #[.int .u8 k] 5))) (by rw [HA.out.off]; simp; omega) q q0 (by rw [HA.out.n]; exact q4) (by decide)).mono ?_
          rintro e w4 ⟨rfl, hk4⟩
          have HP2 := hid ((HP.out.same ((Kept.refl (fun _ => False) wr).alloc _)).same hk4); have HK2 := hid ((HK.out.alloc _).trans hk4); have HA2 := hid (HA.out.late (by omega))
          clear hk4
          have HQ := hid HA2.out.ops
          go_wp2_with fail
          refine (ops_any HP2.out).mono ?_
          rintro e w9 ⟨rfl, rfl⟩
          rw [show S.ops = 1 + (N : Int) by rw [HQ.out]; omega]
          go_wp2
          go_roundw
          case rel => exact ⟨k + 1, _, by omega, by go_num, HP2.out, HA2.out, HK2.out⟩
          case measure => simp [intOf]; omega
      · rcases hpos with hpos | ⟨hpos, hpos2⟩ | hpos
        · go_wp2_with fail
          obtain ⟨mb, ao, cap, hpl⟩ := (HP.out.bound.same ((Kept.refl (fun _ => False) wr).alloc (.cells #[.int .u8 k] 5)))
          refine (write_ok hpl (HA.out.small (by omega)) (by rw [HA.out.off]; simp; omega) (by have := HA.out.since; omega) q q0 (by rw [HA.out.n]; exact q4) (byt_one wr k) (by simp)).mono ?_
          rintro e w4 ⟨rfl, ⟨F', hp, hf⟩, hk4⟩
          have HP2 := hid (hp.mono (G := fun g => W.heap.size ≤ g) (fun g hg => by rcases hf g hg with h | h; exact h.1; have := HK.out.size; simp at h; omega)); have HK2 := hid ((HK.out.alloc _).trans' hk4 (fun g hg => .inr hg.1)); have HA2 := hid (HA.out.add (by omega) q [(k : Int)])
          have hdn : (tick (S.add q [(k : Int)])).down = 0 := by simp only [Plt.down, HA2.out.off]; simp; omega
          rw [hdn]
          clear hpl hp hk4 hf hdn
          have HQ := hid HA2.out.ops
          go_wp2_with fail
          refine (ops_any HP2.out).mono ?_
          rintro e w9 ⟨rfl, rfl⟩
          rw [show (tick (S.add q [(k : Int)])).ops = (k : Int) + 1 by rw [HQ.out]; omega]
          go_wp2
          go_roundw
          case rel => exact ⟨k + 1, _, by omega, by go_num, HP2.out, HA2.out, HK2.out⟩
          case measure => simp [intOf]; omega
        · go_wp2_with fail
          obtain ⟨mb, ao, cap, hpl⟩ := (HP.out.bound.same ((Kept.refl (fun _ => False) wr).alloc (.cells #[.int .u8 k] 5)))
          refine (write_ok hpl (HA.out.small (by omega)) (by rw [HA.out.off]; simp; omega) (by have := HA.out.since; omega) q q0 (by rw [HA.out.n]; exact q4) (byt_one wr k) (by simp)).mono ?_
          rintro e w4 ⟨rfl, ⟨F', hp, hf⟩, hk4⟩
          have HP2 := hid (hp.mono (G := fun g => W.heap.size ≤ g) (fun g hg => by rcases hf g hg with h | h; exact h.1; have := HK.out.size; simp at h; omega)); have HK2 := hid ((HK.out.alloc _).trans' hk4 (fun g hg => .inr hg.1)); have HA2 := hid (HA.out.add (by omega) q [(k : Int)])
          have hdn : (tick (S.add q [(k : Int)])).down = 11 := by simp only [Plt.down, HA2.out.off]; simp; omega
          rw [hdn]
          clear hpl hp hk4 hf hdn
          have HQ := hid HA2.out.ops
          go_wp2_with fail
          refine (ops_any HP2.out).mono ?_
          rintro e w9 ⟨rfl, rfl⟩
          rw [show (tick (S.add q [(k : Int)])).ops = (k : Int) + 1 by rw [HQ.out]; omega]
          go_wp2
          go_roundw
          case rel => exact ⟨k + 1, _, by omega, by go_num, HP2.out, HA2.out, HK2.out⟩
          case measure => simp [intOf]; omega
        · go_wp2_with fail
          refine (write_off (HP.out.same ((Kept.refl (fun _ => False) wr).alloc (.cells #[.int .u8 k] 5))) (by rw [HA.out.off]; simp; omega) q q0 (by rw [HA.out.n]; exact q4) (by decide)).mono ?_
          rintro e w4 ⟨rfl, hk4⟩
          have HP2 := hid ((HP.out.same ((Kept.refl (fun _ => False) wr).alloc _)).same hk4); have HK2 := hid ((HK.out.alloc _).trans hk4); have HA2 := hid (HA.out.late (by omega))
          clear hk4
          have HQ := hid HA2.out.ops
          go_wp2_with fail
          refine (ops_any HP2.out).mono ?_
          rintro e w9 ⟨rfl, rfl⟩
          rw [show S.ops = 1 + (N : Int) by rw [HQ.out]; omega]
          go_wp2
          go_roundw
          case rel => exact ⟨k + 1, _, by omega, by go_num, HP2.out, HA2.out, HK2.out⟩
          case measure => simp [intOf]; omega
    · obtain rfl : k = 40 := by omega
      have HO := hid (show S.off = true by rw [HA.out.off]; simp; omega)
      go_wp2_with fail
      refine (on_any HP.out).mono ?_
      rintro e w4 ⟨rfl, rfl⟩
      rw [HO.out]
      go_wp2_with fail
      refine (arm_off HP.out HO.out 1 (by decide)).mono ?_
      rintro e w5 ⟨rfl, hk5⟩
      have K5 := hid (HK.out.trans hk5); clear hk5
      go_wp2
      go_ret
      exact ⟨rfl, K5.out.below (Nat.le_refl _) (fun _ h => h.elim)⟩
end Go.Proofs.Ytnfdkpjklenllaa
