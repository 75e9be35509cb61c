/- The law StampCauses. -/
import Derived.Test.YtfkkfjmdpkgicaaC
import Derived.Deep.RegionHeld3
namespace Go.Proofs.Ytfkkfjmdpkgicaa
open Go.RowKit


theorem info25 : (Try.prog.info? 25).map (fun i => (i.zero, i.size, i.bytes)) = some (some (.pointer none), 1, 8) := by kernel_rfl
theorem cells39 : Try.prog.cellsOf 39 = 3 := by kernel_rfl

theorem info36 : (Try.prog.info? 36).map (fun i => (i.zero, i.size, i.bytes)) = some (some (.agg #[.int .i64 0, .int .u64 0]), 2, 16) := by kernel_rfl
theorem cells5 : Try.prog.cellsOf 5 = 1 := by kernel_rfl
theorem ev_read {w : World} {es : List Value} (h : Rd Try.prog w 39 es) (hl : es.length = 3) : ∃ f t b, es = [.int .u8 f, .int .u8 t, .bool b] ∧ (0 ≤ f ∧ f ≤ 255) ∧ (0 ≤ t ∧ t ≤ 255) := by
  match es, hl with
  | [x0, x1, x2], _ =>
    have h0 : Rd Try.prog w 5 [x0] := h.field Try.underlying39 0 5 0 1 rfl cells5
    have h1 : Rd Try.prog w 5 [x1] := h.field Try.underlying39 1 5 1 1 rfl cells5
    have h2 : Rd Try.prog w 4 [x2] := h.field Try.underlying39 2 4 2 1 rfl cells4
    obtain ⟨f, e0, w0⟩ := h0.int Try.underlying5
    obtain ⟨t, e1, w1⟩ := h1.int Try.underlying5
    obtain ⟨b, e2⟩ := h2.bool Try.underlying4
    simp only [List.cons.injEq, and_true] at e0 e1 e2
    subst e0 e1 e2
    simp [Lit.wf, IntKind.min, IntKind.max, IntKind.signed, IntKind.bits] at w0 w1
    exact ⟨f, t, b, rfl, by omega, by omega⟩

set_option maxRecDepth 100000 in
set_option maxHeartbeats 2000000 in
theorem causes_walk (W : World) (args : Array Value) (h : RdAll Try.prog W Try.f4.params.toList args.toList) :
    Calls Try.prog 4 args W fun e W' => e = .returned (.bool true) ∧ Below W.heap.size W W' := by
  rw [Try.params4] at h
  obtain ⟨v0, v1, rfl⟩ : ∃ v0 v1, args = #[v0, v1] := by
    rcases args with ⟨_ | ⟨v0, _ | ⟨v1, _ | ⟨v2, l⟩⟩⟩⟩ <;> simp [RdAll] at h
    exact ⟨v0, v1, rfl⟩
  obtain ⟨r0, r1, _⟩ := h
  obtain ⟨cnt, rfl, wf0⟩ := r0.int Try.underlying5
  obtain ⟨a1, len1, cap1, rfl, h1⟩ := r1.slice Try.underlying32
  obtain ⟨l1, m1, z1, _, c1⟩ := h1.row Try.underlying32 cells39 (by decide)
  unfold maxLen at m1
  have C1 := hid c1; clear c1 h1 r0 r1 z1
  obtain ⟨n, hn⟩ : ∃ n : Nat, 1 + cnt % 5 = (n : Int) := ⟨(1 + cnt % 5).toNat, by omega⟩
  have hn1 : 1 ≤ n := by omega
  have hn5 : n ≤ 5 := by omega
  have hc0 : 0 ≤ cnt ∧ cnt ≤ 255 := by simp [Lit.wf, IntKind.min, IntKind.max, IntKind.signed, IntKind.bits] at wf0; omega
  obtain ⟨hc0, hc1⟩ := hc0
  have hmk := run_make_row' (P := Try.prog) 33 25 (.pointer none) 8 Try.underlying33 info25 rfl .i64 .i64 n (by omega) (by omega)
  clear wf0
  go_enter Try.func4, Try.ntmps4
  go_wp2_with fail
  refine (awake_any _).mono ?_; rintro e w1 ⟨rfl, hb1⟩
  go_wp2_with fail
  have hB : W.heap.size ≤ w1.heap.size := hb1.size
  have HB1 := hid hb1; clear hb1
  go_loopw [30] (fun i wr => ∃ (k : Nat) (f : Nat → Value), k ≤ n ∧ i = .int .i64 k ∧ wr.cell? ⟨w1.heap.size + 1, 0, none⟩ = some (.slice (some ⟨w1.heap.size, 0, none⟩) n n) ∧ wr.rowIs w1.heap.size 25 n f ∧ w1.heap.size + 1 < wr.heap.size ∧
      (∀ j, j < k → ∃ b, f j = .pointer (some ⟨b, 0, none⟩) ∧ w1.heap.size + 1 < b ∧ wr.cell? ⟨b, 0, none⟩ = some (.int .u64 0) ∧ wr.frozen? ⟨b, 0, none⟩ = false) ∧ Below W.heap.size W wr)
    (fun i _ => n - (intOf i).toNat)
  case atStart =>
    refine ⟨0, fun _ => .pointer none, Nat.zero_le _, rfl, by go_cell, (World.rowIs_made _ _ _ _).alloc _, by simp, fun j hj => by omega, ?_⟩
    exact (HB1.out.alloc hB _).alloc (by simp; omega) _
  case round =>
    obtain ⟨k, f, hk, rfl, hslot, hrow, hsz, hf, hbel⟩ := hrel
    have HB := hid hbel; clear hbel
    have HF := hid hf; clear hf
    have HR := hid hrow
    by_cases hlt : k < n
    · have hlt' : (k : Int) < (n : Int) := by omega
      have hck := hrow.cell hlt
      have hfk := hrow.frozen k
      have l1 := hrow.lt
      have nA : ∀ o, (wr.alloc o).cell? ⟨w1.heap.size + 1, 0, none⟩ = some (.slice (some ⟨w1.heap.size, 0, none⟩) n n) := fun o => by rw [World.cell?_alloc_lt _ _ _ hsz]; exact hslot
      have nB : ∀ o, (wr.alloc o).cell? ⟨w1.heap.size, k, none⟩ = some (f k) := fun o => by rw [World.cell?_alloc_lt _ _ _ l1]; exact hck
      have nC : ∀ o, (wr.alloc o).frozen? ⟨w1.heap.size, k, none⟩ = false := fun o => by rw [World.frozen?_alloc_old _ _ _ (Nat.ne_of_lt l1)]; exact hfk
      have nD : ∀ v o, ((wr.setCell ⟨w1.heap.size, k, none⟩ v).alloc o).cell? ⟨w1.heap.size + 1, 0, none⟩ = some (.slice (some ⟨w1.heap.size, 0, none⟩) n n) := fun v o => by
        rw [World.cell?_alloc_lt _ _ _ (by simpa using hsz), World.cell?_setCell_other _ _ _ _ (by simp)]; exact hslot
      clear hrow
      go_wp2_with fail
      go_region_held3 (fun w' => w'.cell? ⟨w1.heap.size + 1, 0, none⟩ = some (.slice (some ⟨w1.heap.size, 0, none⟩) n n)) (first | exact hslot | exact nA _ | exact nD _ _)
        (first
          | (go_at_call 8; refine (new_any _).mono ?_; rintro e w' ⟨rfl, rfl⟩))
      go_wp2
      go_roundw
      case rel =>
        refine ⟨k + 1, _, by omega, by go_num, nD _ _, (HR.out.set k (.pointer (some ⟨wr.heap.size, 0, none⟩))).alloc _, by simp; omega, fun j hj => ?_, ?_⟩
        · by_cases hjk : j = k
          · subst hjk
            refine ⟨wr.heap.size, by simp, hsz, ?_, ?_⟩
            · simp [go_sem]
            · simp [go_sem]
          · obtain ⟨b, q1, q2, q3, q4⟩ := HF.out j (by omega)
            have hbs : b < wr.heap.size := World.block_lt_of_cell? _ _ q3
            refine ⟨b, by simp [hjk, q1], q2, ?_, ?_⟩
            · rw [World.cell?_drew, World.cell?_alloc_lt _ _ _ (by simpa using hbs), World.cell?_setCell_other _ _ _ _ (by rintro ⟨⟩; omega)]; exact q3
            · rw [World.frozen?_drew, World.frozen?_alloc_old _ _ _ (by simp; omega), World.frozen?_setCell]; exact q4
        · exact ((HB.out.setCell hB _).alloc (by have := HB.out.size; simpa using this) _).drew
      case measure => simp [intOf]; omega
    · have hkn : k = n := by omega
      subst hkn
      have hcl : Clks W.heap.size (w1.heap.size + 1) w1.heap.size k 0 wr := ⟨hslot, fun j hj => by
        obtain ⟨b, q1, q2, q3, q4⟩ := HF.out j hj
        exact ⟨b, 0, by rw [← q1]; exact hrow.cell hj, by omega, q3, q4, by omega, by omega⟩⟩
      have HC := hid hcl
      clear hcl hslot hrow HR HF hmk hk hlt
      go_wp2_with fail
      have hw1 := hid HB.out
      go_loopw [8, 41] (fun v i wq => ∃ (q : Nat), q ≤ len1 ∧ q ≤ 150 ∧ i = .int .i64 q ∧ Clks W.heap.size (w1.heap.size + 1) w1.heap.size k (3 * q) wq ∧ Late k (3 * q) wq v ∧ Below W.heap.size W wq)
        (fun _ i _ => len1 - (intOf i).toNat)
      case atStart => exact ⟨0, Nat.zero_le _, by omega, rfl, HC.out, ⟨none, 0, 0, rfl, by omega, fun h => by omega⟩, HB.out⟩
      case round =>
        clear hsz HC
        obtain ⟨q, hq, hq150, rfl, hcl, ⟨ao, ln, lcap, rfl, hln, hlate⟩, hbel⟩ := hrel
        have HC := hid hcl
        have HL := hid hlate
        have HQ := hid hbel
        clear hcl hlate hbel
        by_cases hlt : q < len1
        · obtain ⟨b, off, es, rfl, hbl, hes, hcv, hr⟩ := C1.out q (by omega)
          obtain ⟨f, t, lt, rfl, ⟨f0, f1⟩, ⟨t0, t1⟩⟩ := ev_read hr hes
          have k0 := (HQ.out.cell (p := ⟨b, off + q * 3 + 0, none⟩) hbl).trans (hcv 0 (by omega))
          have k1 := (HQ.out.cell (p := ⟨b, off + q * 3 + 1, none⟩) hbl).trans (hcv 1 (by omega))
          have k2 := (HQ.out.cell (p := ⟨b, off + q * 3 + 2, none⟩) hbl).trans (hcv 2 (by omega))
          simp only [List.getElem?_cons_zero, List.getElem?_cons_succ, Nat.add_zero] at k0 k1 k2
          clear hcv hr hes
          by_cases h150 : (150 : Int) ≤ (q : Int)
          · go_wp2
            go_ret
            exact ⟨rfl, HQ.out.alloc (HQ.out.size) _⟩
          · have hk0 : (k : Int) ≠ 0 := by omega
            have hkb : ((k : Int) == 0) = false := by simp; omega
            have hkn : ¬ k = 0 := by omega
            obtain ⟨fn, hfn, hfk⟩ : ∃ fn : Nat, (IntKind.i64.wrap f).tmod (k : Int) = (fn : Int) ∧ fn < k := by
              rw [IntWalk.i64_in f (by omega), Int.tmod_eq_emod_of_nonneg f0]
              have h1 := Int.emod_nonneg f hk0
              have h2 := Int.emod_lt_of_pos f (show (0 : Int) < k by omega)
              exact ⟨(f % (k : Int)).toNat, by omega, by omega⟩
            obtain ⟨tn, htn, htk⟩ : ∃ tn : Nat, (IntKind.i64.wrap t).tmod (k : Int) = (tn : Int) ∧ tn < k := by
              rw [IntWalk.i64_in t (by omega), Int.tmod_eq_emod_of_nonneg t0]
              have h1 := Int.emod_nonneg t hk0
              have h2 := Int.emod_lt_of_pos t (show (0 : Int) < k by omega)
              exact ⟨(t % (k : Int)).toNat, by omega, by omega⟩
            go_wp2_with fail
            refine wp_region_still_lit (by kernel_rfl) (by kernel_rfl) ?_
            simp only [World.drew_eq]
            iterate 12 still_step
            refine wpStill_nil ?_
            obtain ⟨w2, hw2⟩ : ∃ w2, w2 = (wr.alloc (.cells #[.int .u8 f, .int .u8 t, .bool lt] 39)).drew := ⟨_, rfl⟩
            rw [← hw2]
            have hkp : Kp W.heap.size wr w2 := by rw [hw2]; exact (Kp.alloc HQ.out.size _).drew
            have hst : St W (w1.heap.size + 1) w1.heap.size k wr.heap.size f lt (3 * q) (.slice ao ln lcap) w2 :=
              ⟨by rw [hw2]; exact (HC.out.alloc _).drew, Late.step ⟨ao, ln, lcap, rfl, hln, HL.out⟩ hkp (Int.le_refl _), HQ.out.trans hkp.below, by rw [hw2]; simp [go_sem], by rw [hw2]; simp [go_sem]⟩
            clear hw2 hkp k0 k1 k2
            obtain ⟨bf, c, q1, q2, q3, q4, q5, q6⟩ := hst.cl.each fn hfk
            have s6 := hst.cl.slot
            have hev := hst.flag
            have ST := hid hst
            clear hst
            have hfk' : (fn : Int) < (k : Int) := by omega
            go_wp2_with fail
            refine (now_any _ c _ q3).mono ?_; rintro e w' ⟨rfl, rfl⟩
            go_wp2_with fail
            refine (tick_any _ c _ ⟨q5, by omega⟩ q3 q4).mono ?_; rintro e w' ⟨rfl, rfl⟩
            obtain ⟨g1, _, g3, g4⟩ := nxt_lt (b := 0) q5 (Int.le_refl 0) q6 (by omega) (by omega)
            have hkp : Kp W.heap.size w2 (w2.setCell ⟨bf, 0, none⟩ (.int .u64 (nxt c 0))) := Kp.setClock q3 q2 _
            have hst := ST.out.step hkp (ST.out.cl.set q3 g4 g3 (by omega)) (by omega)
            obtain ⟨w3, hw3⟩ : ∃ w3, w3 = w2.setCell ⟨bf, 0, none⟩ (.int .u64 (nxt c 0)) := ⟨_, rfl⟩
            rw [← hw3] at hst ⊢
            clear hw3 hkp q1 q3 q4 s6 hev ST
            have s6 := hst.cl.slot
            have hev := hst.flag
            have ST := hid hst
            clear hst
            have hevl : wr.heap.size < w3.heap.size := World.block_lt_of_cell? _ _ hev
            by_cases hft : fn = tn
            · subst hft
              have hst := ST.out.step (Kp.refl _ _) (ST.out.cl.mono (show (3 * (q : Int) + 1) ≤ 3 * q + 2 by omega)) (by omega)
              clear ST
              have ST := hid hst; clear hst
              have L8 : Hid (Late k (3 * q + 2) w3 (.slice none 0 0)) := hid ⟨none, 0, 0, rfl, by omega, fun h => by omega⟩
              go_wp2_with fail
              go_loopw [90] (fun j wz => ∃ jj : Nat, jj ≤ ln ∧ j = .int .i64 jj ∧ St W (w1.heap.size + 1) w1.heap.size k wr.heap.size f lt (3 * q + 2 + jj) (.slice ao ln lcap) wz ∧ Late k (3 * q + 2 + jj) wz (.slice none 0 0))
                (fun j _ => ln - (intOf j).toNat)
              case atStart => exact ⟨0, Nat.zero_le _, rfl, by simpa using ST.out, by simpa using L8.out⟩
              case round =>
                clear ST L8
                obtain ⟨jj, hjj, rfl, hst, hl8⟩ := hrel
                have ST := hid hst
                have L8 := hid hl8
                clear hst hl8
                by_cases hjl : jj < ln
                · obtain ⟨ao', ln', cap', e8, _, h8⟩ := ST.out.late
                  cases e8
                  obtain ⟨lb, to, m, rfl, p1, p2, p3, p4, p5⟩ := h8 (by omega)
                  obtain rfl : jj = 0 := by omega
                  have hB2 := hid ST.out.below.size
                  go_wp2_with fail
                  refine (seem (M := 3 * q + 2) (B := W.heap.size) (arr := w1.heap.size) (n := k) (by exact (ST.out.cl.mono (by omega)).alloc _) to m p3 hn5 p4 (by omega) (by omega) (by exact Nat.le_trans hB2.out (by simp))).mono ?_
                  rintro e w5 ⟨rfl, c5, k5⟩
                  have kk := (Kp.alloc (B := W.heap.size) hB2.out (.cells #[.int .i64 to, .int .u64 m] 36)).trans k5
                  have KK := hid kk; clear kk k5
                  have C5 := hid c5; clear c5
                  go_wp2
                  go_roundw
                  case rel => exact ⟨1, by omega, rfl, ST.out.step KK.out (C5.out.mono (by omega)) (by omega), L8.out.step KK.out (by omega)⟩
                  case measure => simp [intOf]; omega
                · go_wp2
                  go_roundw
                  case rel => exact ⟨q + 1, by omega, by omega, by go_num, ST.out.cl.mono (by omega), L8.out.step (Kp.refl W.heap.size _) (by omega), ST.out.below⟩
                  case measure => simp [intOf]; omega
            · have hb1 : ((fn : Int) != (tn : Int)) = true := by simp; omega
              have hB2 := hid ST.out.below.size
              cases lt
              · go_wp2_with fail
                refine (seem (M := 3 * q + 1) (B := W.heap.size) (arr := w1.heap.size) (n := k) (by exact ST.out.cl.alloc _) tn (nxt c 0) htk hn5 g4 (by omega) (by omega) (by exact Nat.le_trans hB2.out (by simp))).mono ?_
                rintro e w5 ⟨rfl, c5, k5⟩
                have hst := ST.out.step ((Kp.alloc (B := W.heap.size) hB2.out (.cells #[.int .i64 tn, .int .u64 (nxt c 0)] 36)).trans k5) (c5.mono (show (3 * (q : Int) + 1 + 1) ≤ 3 * q + 2 by omega)) (by omega)
                clear ST c5 k5 s6 hev hevl
                have ST := hid hst; clear hst
                have L8 : Hid (Late k (3 * q + 2) w5 (.slice none 0 0)) := hid ⟨none, 0, 0, rfl, by omega, fun h => by omega⟩
                go_wp2_with fail
                go_loopw [90] (fun j wz => ∃ jj : Nat, jj ≤ ln ∧ j = .int .i64 jj ∧ St W (w1.heap.size + 1) w1.heap.size k wr.heap.size f false (3 * q + 2 + jj) (.slice ao ln lcap) wz ∧ Late k (3 * q + 2 + jj) wz (.slice none 0 0))
                  (fun j _ => ln - (intOf j).toNat)
                case atStart => exact ⟨0, Nat.zero_le _, rfl, by simpa using ST.out, by simpa using L8.out⟩
                case round =>
                  clear ST L8
                  obtain ⟨jj, hjj, rfl, hst, hl8⟩ := hrel
                  have ST := hid hst
                  have L8 := hid hl8
                  clear hst hl8
                  by_cases hjl : jj < ln
                  · obtain ⟨ao', ln', cap', e8, _, h8⟩ := ST.out.late
                    cases e8
                    obtain ⟨lb, to, m, rfl, p1, p2, p3, p4, p5⟩ := h8 (by omega)
                    obtain rfl : jj = 0 := by omega
                    have hB2 := hid ST.out.below.size
                    go_wp2_with fail
                    refine (seem (M := 3 * q + 2) (B := W.heap.size) (arr := w1.heap.size) (n := k) (by exact (ST.out.cl.mono (by omega)).alloc _) to m p3 hn5 p4 (by omega) (by omega) (by exact Nat.le_trans hB2.out (by simp))).mono ?_
                    rintro e w5 ⟨rfl, c5, k5⟩
                    have kk := (Kp.alloc (B := W.heap.size) hB2.out (.cells #[.int .i64 to, .int .u64 m] 36)).trans k5
                    have KK := hid kk; clear kk k5
                    have C5 := hid c5; clear c5
                    go_wp2
                    go_roundw
                    case rel => exact ⟨1, by omega, rfl, ST.out.step KK.out (C5.out.mono (by omega)) (by omega), L8.out.step KK.out (by omega)⟩
                    case measure => simp [intOf]; omega
                  · go_wp2
                    go_roundw
                    case rel => exact ⟨q + 1, by omega, by omega, by go_num, ST.out.cl.mono (by omega), L8.out.step (Kp.refl W.heap.size _) (by omega), ST.out.below⟩
                    case measure => simp [intOf]; omega
              · obtain ⟨i0, hi, hz0, hz1, hz2⟩ := info_parts info36
                go_wp2_with (at_builtin; refine wpList_append_own _ rfl _ _ 34 rfl W.heap.size 36 i0 (.agg #[.int .i64 0, .int .u64 0]) 2 16 Try.underlying34 hi hz0 hz1 hz2 rfl (by decide) _ _ _ rfl (World.ownsRow_nil _ _ _ _) ⟨w3.heap.size + 1, 0, none⟩ 1 1 [.int .i64 tn, .int .u64 (nxt c 0)] rfl rfl ?c1 ?c2 ?c3 ?c4 ?c5 ?_)
                case c1 =>
                  intro j u hj
                  match j, hj with
                  | 0, hj => simp at hj; subst hj; simp [Addr.add, go_sem]
                  | 1, hj => simp at hj; subst hj; simp [Addr.add, go_sem]
                case c2 => intro u hu; simp at hu; rcases hu with rfl | rfl <;> rfl
                case c3 => unfold maxLen; omega
                case c4 => omega
                case c5 => exact Nat.le_trans hB2.out (by simp; omega)
                · intro v8 w4 hown hgrow _
                  have kp := ((Kp.alloc (B := W.heap.size) hB2.out (.cells #[.int .i64 tn, .int .u64 (nxt c 0)] 36)).trans (Kp.alloc (by have := hB2.out; simp; omega) (.cells #[.int .i64 tn, .int .u64 (nxt c 0)] 36))).trans (Kp.grown hgrow (by have := hB2.out; simp; omega))
                  have hst := ST.out.step kp (((ST.out.cl.mono (show (3 * (q : Int) + 1) ≤ 3 * q + 2 by omega)).alloc _).alloc _ |>.old (fun k hk => hgrow.block k hk (by simp [Value.ownBlock]))) (by omega)
                  have hl8 := late_of_owns (n := k) (M := 3 * q + 2) hown htk g4 (by omega)
                  clear ST kp hown hgrow s6 hev hevl hi hz0 hz1 hz2
                  have ST := hid hst; clear hst
                  have L8 := hid hl8; clear hl8
                  go_wp2_with fail
                  go_loopw [90] (fun j wz => ∃ jj : Nat, jj ≤ ln ∧ j = .int .i64 jj ∧ St W (w1.heap.size + 1) w1.heap.size k wr.heap.size f true (3 * q + 2 + jj) (.slice ao ln lcap) wz ∧ Late k (3 * q + 2 + jj) wz (v8))
                    (fun j _ => ln - (intOf j).toNat)
                  case atStart => exact ⟨0, Nat.zero_le _, rfl, by simpa using ST.out, by simpa using L8.out⟩
                  case round =>
                    clear ST L8
                    obtain ⟨jj, hjj, rfl, hst, hl8⟩ := hrel
                    have ST := hid hst
                    have L8 := hid hl8
                    clear hst hl8
                    by_cases hjl : jj < ln
                    · obtain ⟨ao', ln', cap', e8, _, h8⟩ := ST.out.late
                      cases e8
                      obtain ⟨lb, to, m, rfl, p1, p2, p3, p4, p5⟩ := h8 (by omega)
                      obtain rfl : jj = 0 := by omega
                      have hB2 := hid ST.out.below.size
                      go_wp2_with fail
                      refine (seem (M := 3 * q + 2) (B := W.heap.size) (arr := w1.heap.size) (n := k) (by exact (ST.out.cl.mono (by omega)).alloc _) to m p3 hn5 p4 (by omega) (by omega) (by exact Nat.le_trans hB2.out (by simp))).mono ?_
                      rintro e w5 ⟨rfl, c5, k5⟩
                      have kk := (Kp.alloc (B := W.heap.size) hB2.out (.cells #[.int .i64 to, .int .u64 m] 36)).trans k5
                      have KK := hid kk; clear kk k5
                      have C5 := hid c5; clear c5
                      go_wp2
                      go_roundw
                      case rel => exact ⟨1, by omega, rfl, ST.out.step KK.out (C5.out.mono (by omega)) (by omega), L8.out.step KK.out (by omega)⟩
                      case measure => simp [intOf]; omega
                    · go_wp2
                      go_roundw
                      case rel => exact ⟨q + 1, by omega, by omega, by go_num, ST.out.cl.mono (by omega), L8.out.step (Kp.refl W.heap.size _) (by omega), ST.out.below⟩
                      case measure => simp [intOf]; omega
        · go_wp2
          go_ret
          exact ⟨rfl, HQ.out⟩
end Go.Proofs.Ytfkkfjmdpkgicaa
