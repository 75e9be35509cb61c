/- How a request reads; the walk of ClientCounts. -/
import Derived.Test.YtnlbdlbinoebgaaG
namespace Go.Proofs.Ytnlbdlbinoebgaa
open Go.RowKit

theorem enc_at {α : Type} (enc : α → List Value) (n : Nat) (hn : ∀ x, (enc x).length = n) (h0 : 0 < n) : ∀ (l : List α) (j : Nat) (u : Value), (l.flatMap enc)[j]? = some u → ∃ i x r, l[i]? = some x ∧ r < n ∧ j = i * n + r ∧ (enc x)[r]? = some u
  | [], j, u, h => by simp at h
  | y :: l, j, u, h => by
    rw [List.flatMap_cons] at h
    by_cases hj : j < n
    · rw [List.getElem?_append_left (by rw [hn]; exact hj)] at h
      exact ⟨0, y, j, by simp, hj, by omega, h⟩
    · rw [List.getElem?_append_right (by rw [hn]; omega), hn] at h
      obtain ⟨i, x, r, h1, h2, h3, h4⟩ := enc_at enc n hn h0 l _ u h
      refine ⟨i + 1, x, r, by simpa using h1, h2, ?_, h4⟩
      rw [Nat.succ_mul]; omega

/-- A slice of an argument whose elements read as x's. -/
theorem lies_of {α : Type} (enc : α → List Value) (n : Nat) (hn : ∀ x, (enc x).length = n) (h0 : 0 < n) (h1 : ∀ x, ∀ u ∈ enc x, u.oneCell' = true) (x0 : α) {w : World} {t e : TypeId} (hu : Try.prog.underlying t = some (.slice e)) (hc : Try.prog.cellsOf e = n)
    (Q : α → Prop) (hread : ∀ es, es.length = n → Rd Try.prog w e es → ∃ x, es = enc x ∧ Q x) {a : Option Addr} {len cap : Nat} (h : Rd Try.prog w t [.slice a len cap]) :
    ∃ l : List α, l.length = len ∧ Lies (fun g => w.heap.size ≤ g) w n (.slice a len cap) len (l.flatMap enc) ∧ len * Try.prog.bytesOf e ≤ reachBytes ∧ ∀ x ∈ l, Q x := by
  obtain ⟨q1, q2, q3, q4, q5⟩ := h.row hu hc h0
  have hex : ∀ i, ∃ x : α, i < len → Q x ∧ ∃ b off, a = some ⟨b, off, none⟩ ∧ b < w.heap.size ∧ ∀ j u, (enc x)[j]? = some u → w.cell? ⟨b, off + (i * n + j), none⟩ = some u := by
    intro i
    by_cases hi : i < len
    · obtain ⟨b, off, es, e1, e2, e3, e4, e5⟩ := q5 i (by omega)
      obtain ⟨x, rfl, hQ⟩ := hread es e3 e5
      refine ⟨x, fun _ => ⟨hQ, b, off, e1, e2, fun j u hj => ?_⟩⟩
      have hjn : j < n := by have := (List.getElem?_eq_some_iff.1 hj).1; omega
      rw [← Nat.add_assoc, e4 j hjn, hj]
    · exact ⟨x0, fun h => absurd h hi⟩
  obtain ⟨g, hg⟩ : ∃ g : Nat → α, ∀ i, i < len → Q (g i) ∧ ∃ b off, a = some ⟨b, off, none⟩ ∧ b < w.heap.size ∧ ∀ j u, (enc (g i))[j]? = some u → w.cell? ⟨b, off + (i * n + j), none⟩ = some u := ⟨fun i => (hex i).choose, fun i => (hex i).choose_spec⟩
  refine ⟨(List.range len).map g, by simp, ⟨a, cap, rfl, q1, q2, ?_, q4, fun hm => ?_, fun u hu => ?_⟩, Nat.le_trans (Nat.mul_le_mul_right _ q1) q3, fun x hx => ?_⟩
  · rw [flat_len enc n hn]; simp
  · obtain ⟨_, b, off, e1, e2, _⟩ := hg 0 hm
    refine ⟨b, off, e1, by omega, e2, fun j u hj => ?_⟩
    obtain ⟨i, x, r, k1, k2, k3, k4⟩ := enc_at enc n hn h0 _ j u hj
    have hi : i < len := by have := (List.getElem?_eq_some_iff.1 k1).1; simpa using this
    rw [List.getElem?_map, List.getElem?_range hi] at k1
    simp only [Option.map_some, Option.some.injEq] at k1
    subst k1
    obtain ⟨_, b', off', e1', _, e3'⟩ := hg i hi
    rw [e1] at e1'
    simp only [Option.some.injEq, Addr.mk.injEq] at e1'
    obtain ⟨rfl, rfl, _⟩ := e1'
    rw [k3]
    exact e3' r u k4
  · rw [List.mem_flatMap] at hu
    obtain ⟨x, _, hx⟩ := hu
    exact h1 x u hx
  · rw [List.mem_map] at hx
    obtain ⟨i, hi, rfl⟩ := hx
    exact (hg i (by simpa using hi)).1

theorem cellsO : Try.prog.cellsOf 81 = 7 := by kernel_rfl
theorem cellsR : Try.prog.cellsOf 31 = 5 := by kernel_rfl
theorem cellsV : Try.prog.cellsOf 75 = 3 := by kernel_rfl
theorem cellsN : Try.prog.cellsOf 28 = 1 := by kernel_rfl
theorem cells8 : Try.prog.cellsOf 5 = 1 := by kernel_rfl
theorem cellsI : Try.prog.cellsOf 3 = 1 := by kernel_rfl
theorem cells64 : Try.prog.cellsOf 2 = 1 := by kernel_rfl
theorem cellsS : Try.prog.cellsOf 9 = 1 := by kernel_rfl
theorem cellsLO : Try.prog.cellsOf 29 = 1 := by kernel_rfl
theorem bytesO : Try.prog.bytesOf 81 = 48 := by kernel_rfl
theorem op_read {w : World} {es : List Value} (hl : es.length = 7) (h : Rd Try.prog w 81 es) : ∃ x : O, es = ocell x ∧ x.s.size ≤ 9223372036854775807 := by
  match es, hl with
  | [x0, x1, x2, x3, x4, x5, x6], _ =>
    have h0 : Rd Try.prog w 5 [x0] := h.field Try.underlying81 0 5 0 1 rfl cells8
    have h1 : Rd Try.prog w 28 [x1] := h.field Try.underlying81 1 28 1 1 rfl cellsN
    have h2 : Rd Try.prog w 28 [x2] := h.field Try.underlying81 2 28 2 1 rfl cellsN
    have h3 : Rd Try.prog w 5 [x3] := h.field Try.underlying81 3 5 3 1 rfl cells8
    have h4 : Rd Try.prog w 75 [x4, x5, x6] := h.field Try.underlying81 4 75 4 3 rfl cellsV
    have v0 : Rd Try.prog w 5 [x4] := h4.field Try.underlying75 0 5 0 1 rfl cells8
    have v1 : Rd Try.prog w 2 [x5] := h4.field Try.underlying75 1 2 1 1 rfl cells64
    have v2 : Rd Try.prog w 9 [x6] := h4.field Try.underlying75 2 9 2 1 rfl cellsS
    obtain ⟨a, e0, _⟩ := h0.int Try.underlying5
    obtain ⟨b, e1, _⟩ := h1.int Try.underlying28
    obtain ⟨c, e2, _⟩ := h2.int Try.underlying28
    obtain ⟨d, e3, _⟩ := h3.int Try.underlying5
    obtain ⟨e, e4, _⟩ := v0.int Try.underlying5
    obtain ⟨f, e5, _⟩ := v1.int Try.underlying2
    obtain ⟨s, e6, hs⟩ := v2.string Try.underlying9
    simp only [List.cons.injEq, and_true] at e0 e1 e2 e3 e4 e5 e6
    subst e0 e1 e2 e3 e4 e5 e6
    exact ⟨⟨a, b, c, d, e, f, s⟩, rfl, by simp only [reachBytes] at hs; show s.size ≤ _; omega⟩
theorem req_read {w : World} {es : List Value} (hl : es.length = 5) (h : Rd Try.prog w 31 es) : ∃ (R : Rq) (v : Value), es = [.int .u8 R.kd, v, .int .u32 R.v, .int .i64 R.k, .int .i64 R.t] ∧ ReqIn (fun g => w.heap.size ≤ g) w v R := by
  match es, hl with
  | [x0, x1, x2, x3, x4], _ =>
    have h0 : Rd Try.prog w 5 [x0] := h.field Try.underlying31 0 5 0 1 rfl cells8
    have h1 : Rd Try.prog w 29 [x1] := h.field Try.underlying31 1 29 1 1 rfl cellsLO
    have h2 : Rd Try.prog w 28 [x2] := h.field Try.underlying31 2 28 2 1 rfl cellsN
    have h3 : Rd Try.prog w 3 [x3] := h.field Try.underlying31 3 3 3 1 rfl cellsI
    have h4 : Rd Try.prog w 3 [x4] := h.field Try.underlying31 4 3 4 1 rfl cellsI
    obtain ⟨a, e0, _⟩ := h0.int Try.underlying5
    obtain ⟨ao, n, c, e1⟩ := h1.isSlice Try.underlying29
    obtain ⟨b, e2, _⟩ := h2.int Try.underlying28
    obtain ⟨d, e3, _⟩ := h3.int Try.underlying3
    obtain ⟨e, e4, _⟩ := h4.int Try.underlying3
    simp only [List.cons.injEq, and_true] at e0 e1 e2 e3 e4
    subst e0 e1 e2 e3 e4
    obtain ⟨lo, rfl, hv, bv, hq⟩ := lies_of ocell 7 (fun _ => rfl) (by decide) (fun x u hu => ocells_one [x] u (by simpa [ocells] using hu)) ⟨0, 0, 0, 0, 0, 0, ByteArray.empty⟩ Try.underlying29 cellsO (fun x : O => x.s.size ≤ 9223372036854775807) (fun es => op_read) h1
    rw [bytesO] at bv
    simp only [reachBytes] at bv
    exact ⟨⟨a, lo, b, d, e⟩, _, rfl, hv, by simp only; omega, hq⟩
theorem wf8 {n : Int} (h : (Lit.int .u8 n).wf = true) : 0 ≤ n ∧ n ≤ 255 := by
  simp [Lit.wf, IntKind.min, IntKind.max, IntKind.signed, IntKind.bits] at h; omega

set_option maxRecDepth 100000 in
set_option maxHeartbeats 8000000 in
theorem counts_walk (W : World) (args : Array Value) (h : RdAll Try.prog W Try.f3.params.toList args.toList) :
    Calls Try.prog 3 args W fun e W' => e = .returned (.bool true) ∧ Below W.heap.size W W' := by
  rw [Try.params3] at h
  obtain ⟨v0, v1, v2, rfl⟩ : ∃ v0 v1 v2, args = #[v0, v1, v2] := by
    rcases args with ⟨_ | ⟨v0, _ | ⟨v1, _ | ⟨v2, _ | ⟨v3, l⟩⟩⟩⟩⟩ <;> simp [RdAll] at h
    exact ⟨v0, v1, v2, rfl⟩
  obtain ⟨r0, r1, r2, _⟩ := h
  obtain ⟨a0, len0, cap0, rfl, h0⟩ := r2.slice Try.underlying22
  obtain ⟨l0, m0, z0, _, c0⟩ := h0.row Try.underlying22 cellsR (by decide)
  obtain ⟨ci, rfl, wc⟩ := r0.int Try.underlying5
  obtain ⟨nd, rfl, wn⟩ := r1.int Try.underlying5
  have wc := wf8 wc
  have wn := wf8 wn
  unfold maxLen at m0
  have C0 := hid c0
  clear c0 h0 r0 r1 r2 z0
  go_enter Try.func3, Try.ntmps3
  go_wp2_with fail
  refine (awake_any _).mono ?_; rintro e w1 ⟨rfl, hk1⟩
  have K1 := hid hk1; clear hk1
  have p0 : 0 ≤ ci % 4 := by omega
  have p1 : ci % 4 ≤ 3 := by omega
  have n1 : 1 ≤ 1 + nd % 4 := by omega
  have n4 : 1 + nd % 4 ≤ 4 := by omega
  go_wp2_with fail
  refine (new_ok (ci % 4) (1 + nd % 4) _ p0 p1 n1 n4).mono ?_; rintro e w2 ⟨rfl, rfl⟩
  have HC0 := hid (row_new w1 (cliRow (ci % 4) (1 + nd % 4) 0 none))
  have HK0 := hid (K1.out.alloc (cliRow (ci % 4) (1 + nd % 4) 0 none))
  have hsz := K1.out.size
  clear K1
  go_wp2_with fail
  go_loopw [9, 32] (fun nn i wr => ∃ k m : Nat, k ≤ len0 ∧ i = .int .i64 k ∧ nn = .int .u32 m ∧ m ≤ k ∧ m ≤ 40 ∧ wr.heap[w1.heap.size]? = some (cliRow (ci % 4) (1 + nd % 4) m none) ∧ Kept (fun _ => False) W wr) (fun _ i _ => len0 - (intOf i).toNat)
  case atStart => exact ⟨0, 0, Nat.zero_le _, rfl, rfl, Nat.le_refl _, by decide, HC0.out, HK0.out⟩
  case round =>
    clear HC0 HK0
    obtain ⟨k, m, hk, rfl, rfl, hmk, hm, hcl, hkp⟩ := hrel
    have HC := hid hcl; have HK := hid hkp; clear hcl hkp
    by_cases hlt : k < len0
    · obtain ⟨b, off, es, rfl, hbl, hes, hcv, hr⟩ := C0.out k (by omega)
      obtain ⟨R, v, rfl, hR⟩ := req_read hes hr
      obtain ⟨ao, c, rfl, q1, q2, _⟩ := hR.l
      have HR := hid hR
      have k0 := HK.out.cell (hcv 0 (by omega)) (fun h => h)
      have k1 := HK.out.cell (hcv 1 (by omega)) (fun h => h)
      have k2 := HK.out.cell (hcv 2 (by omega)) (fun h => h)
      have k3 := HK.out.cell (hcv 3 (by omega)) (fun h => h)
      have k4 := HK.out.cell (hcv 4 (by omega)) (fun h => h)
      simp only [Nat.add_zero] at k0 k1 k2 k3 k4
      clear hcv hr hes hR q1 q2
      by_cases h40 : (40 : Int) ≤ (k : Int)
      · have hcr := HC.out
        go_wp2_with fail
        refine (seq_any (id := ci % 4) (n := 1 + nd % 4) (seq := m) (rp := none) (by first | exact HC.out | exact row_old HC.out _)).mono ?_
        rintro e w3 ⟨rfl, rfl⟩
        have hmm : ((m : Int) == (m : Int)) = true := by simp
        clear hcr
        go_wp2
        go_ret
        exact ⟨rfl, by first | exact HK.out.below (Nat.le_refl _) (fun _ h => h.elim) | exact (HK.out.alloc _).below (Nat.le_refl _) (fun _ h => h.elim)⟩
      · go_wp2_with fail
        refine (twinreq_any (R := R) (by exact HR.out.same (HK.out.alloc _))).mono ?_
        rintro e w4 ⟨a4, c4, rfl, hr4, hk4⟩
        have HR4 := hid hr4; have HK4 := hid ((HK.out.alloc _).trans hk4)
        have HC4 := hid ((hk4.block _ (row_lt (row_old HC.out _)) (fun h => h)).trans (row_old HC.out _))
        clear hr4 hk4 k0 k1 k2 k3 k4
        go_wp2_with fail
        refine (call_free (R := R) (fun _ => True) (fun w1 hk => (check_some (HR4.out.same hk)).mono fun e w' ⟨i, h1, h2⟩ => ⟨i, trivial, h1, h2⟩) (by exact HC4.out) HR4.out p0 p1 n1 n4 (by omega) (by omega)).mono ?_
        rintro e w5 (⟨er, hne, _, rfl, hk5⟩ | ⟨rb, a5, c5, a6, c6, rfl, _, hcb, _, _, hle, hk5⟩)
        · have HK5 := hid (HK4.out.trans hk5); have HC5 := hid ((hk5.block _ (row_lt HC4.out) (fun h => h)).trans HC4.out)
          have hne' : (er != 0) = true := by simpa using hne
          clear hk5 hne
          go_wp2_with (refine wpList_store_row rfl 44 (.tmp 12) (.tmp 44) rfl msgZero.toArray msgZero.toArray (by rfl) (by rfl) (by exact row_new w5 _) rfl infoM (by simp [msgZero, Value.oneCell']) ?_; intro w6 hb6 hk6; have HC6 := hid ((hk6.block _ (Nat.lt_of_lt_of_le (row_lt HC5.out) (by simp)) (by have := row_lt HC5.out; omega)).trans (row_old HC5.out _)); have HK6 := hid ((HK5.out.alloc (.cells msgZero.toArray 44)).trans' hk6 (fun g hg => .inr (by have := HK5.out.size; omega))); clear hb6 hk6)
          refine (seq_any (by exact HC6.out)).mono ?_
          rintro e w7 ⟨rfl, rfl⟩
          have hmm : ((m : Int) != (m : Int)) = false := by simp
          go_wp2
          go_roundw
          case rel => exact ⟨k + 1, m, by omega, by go_num, rfl, by omega, hm, HC6.out, HK6.out⟩
          case measure => simp [intOf]; omega
        · have HC5 := hid hcb
          have HK5 := hid (HK4.out.trans' hk5 (fun g hg => .inr (by omega)))
          clear hk5 hcb hle
          go_wp2_with (refine wpList_store_row rfl 44 (.tmp 12) (.tmp 44) rfl (msgCells (ci % 4) (ci % 4 % (1 + nd % 4)) (m + 1) R (.slice a5 R.ops.length c5)).toArray msgZero.toArray (by rfl) (by rfl) (by exact row_new w5 _) rfl infoM (by simp [msgCells, Value.oneCell']) ?_; intro w6 hb6 hk6; have HC6 := hid ((hk6.block _ (Nat.lt_of_lt_of_le (row_lt HC5.out) (by simp)) (by have := row_lt HC5.out; omega)).trans (row_old HC5.out _)); have HK6 := hid ((HK5.out.alloc (.cells msgZero.toArray 44)).trans' hk6 (fun g hg => .inr (by have := HK5.out.size; omega))); have HB6 := hid hb6; clear hb6 hk6)
          have hS : w6.drew.cell? ⟨w5.heap.size, 2, none⟩ = some (.int .u8 (ci % 4 % (1 + nd % 4))) ∧ w6.drew.cell? ⟨w5.heap.size, 8, none⟩ = some (.int .u8 (ci % 4)) ∧ w6.drew.cell? ⟨w5.heap.size, 9, none⟩ = some (.int .u32 (m + 1)) := msg_cells HB6.out
          have t1 : ((m : Int) + 1 != (m : Int) + 1) = false := by simp
          have t2 : (ci % 4 != ci % 4) = false := by simp
          have t3 : (ci % 4 % (1 + nd % 4) != ci % 4 % (1 + nd % 4)) = false := by simp
          have t4 : ¬ 1 + nd % 4 = 0 := by omega
          have t5 : (1 + nd % 4 == 0) = false := by simpa using t4
          have t6 : 0 ≤ ci % 4 % (1 + nd % 4) := Int.emod_nonneg _ (by omega)
          have t7 : ci % 4 % (1 + nd % 4) < 4 := by have := Int.emod_lt_of_pos (ci % 4) (show 0 < 1 + nd % 4 by omega); omega
          have t8 : (ci % 4).tmod (1 + nd % 4) = ci % 4 % (1 + nd % 4) := Int.tmod_eq_emod_of_nonneg p0
          have t9 : ci.tmod 4 = ci % 4 := Int.tmod_eq_emod_of_nonneg wc.1
          have t10 : nd.tmod 4 = nd % 4 := Int.tmod_eq_emod_of_nonneg wn.1
          have s1 : IntKind.i64.wrap (ci % 4) = ci % 4 := IntWalk.i64_in _ (by omega)
          have s2 : IntKind.i64.wrap (nd % 4) = nd % 4 := IntWalk.i64_in _ (by omega)
          have s3 : IntKind.i64.wrap (1 + nd % 4) = 1 + nd % 4 := IntWalk.i64_in _ (by omega)
          have s4 : IntKind.i64.wrap (ci % 4 % (1 + nd % 4)) = ci % 4 % (1 + nd % 4) := IntWalk.i64_in _ (by omega)
          refine wp_region_held_drew (S := fun w' => w'.cell? ⟨w5.heap.size, 2, none⟩ = some (.int .u8 (ci % 4 % (1 + nd % 4))) ∧ w'.cell? ⟨w5.heap.size, 8, none⟩ = some (.int .u8 (ci % 4)) ∧ w'.cell? ⟨w5.heap.size, 9, none⟩ = some (.int .u32 (m + 1))) (by kernel_rfl) (by exact hS) (fun hHeld => ?_)
          clear hS
          refine wpAnyH_at 0 (some 54) (v := ?v500) (by decide) rfl (by kernel_rfl) (by kernel_rfl) (by kernel_rfl) (fun _ _ _ h => h) (Or.inl ⟨by rfl, ?y500⟩) (by assumption) ?r500
          case y500 => (intro w hSw; (try dsimp only at hSw); go_simp; (try with_reducible rfl))
          simp only [Act.put, List.setIfInBounds_toArray, List.set_cons_zero, List.set_cons_succ]
          refine wpAnyH_at 1 (some 55) (v := ?v501) (by decide) rfl (by kernel_rfl) (by kernel_rfl) (by kernel_rfl) (fun _ _ _ h => h) (Or.inl ⟨by rfl, ?y501⟩) (by assumption) ?r501
          case y501 => (intro w hSw; (try dsimp only at hSw); go_simp; (try with_reducible rfl))
          simp only [Act.put, List.setIfInBounds_toArray, List.set_cons_zero, List.set_cons_succ]
          refine wpAnyH_at 2 (some 56) (v := ?v502) (by decide) rfl (by kernel_rfl) (by kernel_rfl) (by kernel_rfl) (fun _ _ _ h => h) (Or.inl ⟨by rfl, ?y502⟩) (by assumption) ?r502
          case y502 => (intro w hSw; (try dsimp only at hSw); go_simp; (try with_reducible rfl))
          simp only [Act.put, List.setIfInBounds_toArray, List.set_cons_zero, List.set_cons_succ]
          refine wpAnyH_at 3 (some 57) (v := ?v503) (by decide) rfl (by kernel_rfl) (by kernel_rfl) (by kernel_rfl) (fun _ _ _ h => h) (Or.inl ⟨by rfl, ?y503⟩) (by assumption) ?r503
          case y503 => (intro w hSw; (try dsimp only at hSw); go_simp; (try with_reducible rfl))
          simp only [Act.put, List.setIfInBounds_toArray, List.set_cons_zero, List.set_cons_succ]
          refine wpAnyH_at 4 (some 58) (v := ?v504) (by decide) rfl (by kernel_rfl) (by kernel_rfl) (by kernel_rfl) (fun _ _ _ h => h) (Or.inl ⟨by rfl, ?y504⟩) (by assumption) ?r504
          case y504 => (intro w hSw; (try dsimp only at hSw); go_simp; (try with_reducible rfl))
          simp only [Act.put, List.setIfInBounds_toArray, List.set_cons_zero, List.set_cons_succ]
          refine wpAnyH_at 5 (some 59) (v := ?v505) (by decide) rfl (by kernel_rfl) (by kernel_rfl) (by kernel_rfl) (fun _ _ _ h => h) (Or.inl ⟨by rfl, ?y505⟩) (by assumption) ?r505
          case y505 => (intro w hSw; (try dsimp only at hSw); go_simp; (try with_reducible rfl))
          simp only [Act.put, List.setIfInBounds_toArray, List.set_cons_zero, List.set_cons_succ]
          refine wpAnyH_at 7 (some 61) (v := ?v507) (by decide) rfl (by kernel_rfl) (by kernel_rfl) (by kernel_rfl) (fun _ _ _ h => h) (Or.inl ⟨by rfl, ?y507⟩) (by assumption) ?r507
          case y507 => (intro w hSw; (try dsimp only at hSw); go_simp; (try with_reducible rfl))
          simp only [Act.put, List.setIfInBounds_toArray, List.set_cons_zero, List.set_cons_succ]
          refine wpAnyH_ready (rs := [6]) (by kernel_rfl) (by simp) ?_
          refine AllReadyH.cons rfl (fun K hK => ?_) AllReadyH.nil
          go_simp
          refine (seq_any (seq := m + 1) (by exact HC6.out)).mono ?_
          rintro e w7 ⟨rfl, rfl⟩
          try dsimp only []
          refine hK.out _ _ (by exact hHeld) (fun hHeld => ?_)
          clear hK K
          try simp only [Act.put, List.setIfInBounds_toArray, List.set_cons_zero, List.set_cons_succ]
          refine wpAnyH_at 8 (some 62) (v := ?v508) (by decide) rfl (by kernel_rfl) (by kernel_rfl) (by kernel_rfl) (fun _ _ _ h => h) (Or.inl ⟨by rfl, ?y508⟩) (by assumption) ?r508
          case y508 => (intro w hSw; (try dsimp only at hSw); go_simp; (try with_reducible rfl))
          simp only [Act.put, List.setIfInBounds_toArray, List.set_cons_zero, List.set_cons_succ]
          refine wpAnyH_at 9 (some 63) (v := ?v509) (by decide) rfl (by kernel_rfl) (by kernel_rfl) (by kernel_rfl) (fun _ _ _ h => h) (Or.inl ⟨by rfl, ?y509⟩) (by assumption) ?r509
          case y509 => (intro w hSw; (try dsimp only at hSw); go_simp; (try with_reducible rfl))
          simp only [Act.put, List.setIfInBounds_toArray, List.set_cons_zero, List.set_cons_succ]
          refine wpAnyH_at 10 (some 64) (v := ?v510) (by decide) rfl (by kernel_rfl) (by kernel_rfl) (by kernel_rfl) (fun _ _ _ h => h) (Or.inl ⟨by rfl, ?y510⟩) (by assumption) ?r510
          case y510 => (intro w hSw; (try dsimp only at hSw); go_simp; (try with_reducible rfl))
          simp only [Act.put, List.setIfInBounds_toArray, List.set_cons_zero, List.set_cons_succ]
          refine wpAnyH_at 11 (some 65) (v := ?v511) (by decide) rfl (by kernel_rfl) (by kernel_rfl) (by kernel_rfl) (fun _ _ _ h => h) (Or.inl ⟨by rfl, ?y511⟩) (by assumption) ?r511
          case y511 => (intro w hSw; (try dsimp only at hSw); go_simp; (try with_reducible rfl))
          simp only [Act.put, List.setIfInBounds_toArray, List.set_cons_zero, List.set_cons_succ]
          refine wpAnyH_at 12 (some 66) (v := ?v512) (by decide) rfl (by kernel_rfl) (by kernel_rfl) (by kernel_rfl) (fun _ _ _ h => h) (Or.inl ⟨by rfl, ?y512⟩) (by assumption) ?r512
          case y512 => (intro w hSw; (try dsimp only at hSw); go_simp; (try with_reducible rfl))
          simp only [Act.put, List.setIfInBounds_toArray, List.set_cons_zero, List.set_cons_succ]
          refine wpAnyH_at 13 (some 67) (v := ?v513) (by decide) rfl (by kernel_rfl) (by kernel_rfl) (by kernel_rfl) (fun _ _ _ h => h) (Or.inl ⟨by rfl, ?y513⟩) (by assumption) ?r513
          case y513 => (intro w hSw; (try dsimp only at hSw); go_simp; (try with_reducible rfl))
          simp only [Act.put, List.setIfInBounds_toArray, List.set_cons_zero, List.set_cons_succ]
          refine wpAnyH_at 14 (some 68) (v := ?v514) (by decide) rfl (by kernel_rfl) (by kernel_rfl) (by kernel_rfl) (fun _ _ _ h => h) (Or.inl ⟨by rfl, ?y514⟩) (by assumption) ?r514
          case y514 => (intro w hSw; (try dsimp only at hSw); go_simp; (try with_reducible rfl))
          simp only [Act.put, List.setIfInBounds_toArray, List.set_cons_zero, List.set_cons_succ]
          refine wpAnyH_at 15 (some 69) (v := ?v515) (by decide) rfl (by kernel_rfl) (by kernel_rfl) (by kernel_rfl) (fun _ _ _ h => h) (Or.inl ⟨by rfl, ?y515⟩) (by assumption) ?r515
          case y515 => (intro w hSw; (try dsimp only at hSw); go_simp; (try with_reducible rfl))
          simp only [Act.put, List.setIfInBounds_toArray, List.set_cons_zero, List.set_cons_succ]
          refine wpAnyH_at 16 (some 70) (v := ?v516) (by decide) rfl (by kernel_rfl) (by kernel_rfl) (by kernel_rfl) (fun _ _ _ h => h) (Or.inl ⟨by rfl, ?y516⟩) (by assumption) ?r516
          case y516 => (intro w hSw; (try dsimp only at hSw); go_simp; (try with_reducible rfl))
          simp only [Act.put, List.setIfInBounds_toArray, List.set_cons_zero, List.set_cons_succ]
          refine wpAnyH_at 17 (some 71) (v := ?v517) (by decide) rfl (by kernel_rfl) (by kernel_rfl) (by kernel_rfl) (fun _ _ _ h => h) (Or.inl ⟨by rfl, ?y517⟩) (by assumption) ?r517
          case y517 => (intro w hSw; (try dsimp only at hSw); go_simp; (try with_reducible rfl))
          simp only [Act.put, List.setIfInBounds_toArray, List.set_cons_zero, List.set_cons_succ]
          refine wpAnyH_at 18 (some 72) (v := ?v518) (by decide) rfl (by kernel_rfl) (by kernel_rfl) (by kernel_rfl) (fun _ _ _ h => h) (Or.inl ⟨by rfl, ?y518⟩) (by assumption) ?r518
          case y518 => (intro w hSw; (try dsimp only at hSw); go_simp; (try with_reducible rfl))
          simp only [Act.put, List.setIfInBounds_toArray, List.set_cons_zero, List.set_cons_succ]
          refine wpAnyH_at 19 (some 73) (v := ?v519) (by decide) rfl (by kernel_rfl) (by kernel_rfl) (by kernel_rfl) (fun _ _ _ h => h) (Or.inl ⟨by rfl, ?y519⟩) (by assumption) ?r519
          case y519 => (intro w hSw; (try dsimp only at hSw); go_simp; (try with_reducible rfl))
          simp only [Act.put, List.setIfInBounds_toArray, List.set_cons_zero, List.set_cons_succ]
          refine wpAnyH_at 20 (some 74) (v := ?v520) (by decide) rfl (by kernel_rfl) (by kernel_rfl) (by kernel_rfl) (fun _ _ _ h => h) (Or.inl ⟨by rfl, ?y520⟩) (by assumption) ?r520
          case y520 => (intro w hSw; (try dsimp only at hSw); go_simp; (try with_reducible rfl))
          simp only [Act.put, List.setIfInBounds_toArray, List.set_cons_zero, List.set_cons_succ]
          refine wpAnyH_at 21 (some 75) (v := ?v521) (by decide) rfl (by kernel_rfl) (by kernel_rfl) (by kernel_rfl) (fun _ _ _ h => h) (Or.inl ⟨by rfl, ?y521⟩) (by assumption) ?r521
          case y521 => (intro w hSw; (try dsimp only at hSw); go_simp; (try with_reducible rfl))
          simp only [Act.put, List.setIfInBounds_toArray, List.set_cons_zero, List.set_cons_succ]
          refine wpAnyH_at 22 (some 76) (v := ?v522) (by decide) rfl (by kernel_rfl) (by kernel_rfl) (by kernel_rfl) (fun _ _ _ h => h) (Or.inl ⟨by rfl, ?y522⟩) (by assumption) ?r522
          case y522 => (intro w hSw; (try dsimp only at hSw); go_simp; (try with_reducible rfl))
          simp only [Act.put, List.setIfInBounds_toArray, List.set_cons_zero, List.set_cons_succ]
          refine wpAnyH_at 23 (some 77) (v := ?v523) (by decide) rfl (by kernel_rfl) (by kernel_rfl) (by kernel_rfl) (fun _ _ _ h => h) (Or.inl ⟨by rfl, ?y523⟩) (by assumption) ?r523
          case y523 => (intro w hSw; (try dsimp only at hSw); go_simp; (try with_reducible rfl))
          simp only [Act.put, List.setIfInBounds_toArray, List.set_cons_zero, List.set_cons_succ]
          refine wpAnyH_at 24 (some 78) (v := ?v524) (by decide) rfl (by kernel_rfl) (by kernel_rfl) (by kernel_rfl) (fun _ _ _ h => h) (Or.inl ⟨by rfl, ?y524⟩) (by assumption) ?r524
          case y524 => (intro w hSw; (try dsimp only at hSw); go_simp; (try with_reducible rfl))
          simp only [Act.put, List.setIfInBounds_toArray, List.set_cons_zero, List.set_cons_succ]
          refine wpAnyH_at 25 (some 79) (v := ?v525) (by decide) rfl (by kernel_rfl) (by kernel_rfl) (by kernel_rfl) (fun _ _ _ h => h) (Or.inl ⟨by rfl, ?y525⟩) (by assumption) ?r525
          case y525 => (intro w hSw; (try dsimp only at hSw); go_simp; (try with_reducible rfl))
          simp only [Act.put, List.setIfInBounds_toArray, List.set_cons_zero, List.set_cons_succ]
          refine wpAnyH_at 26 (some 80) (v := ?v526) (by decide) rfl (by kernel_rfl) (by kernel_rfl) (by kernel_rfl) (fun _ _ _ h => h) (Or.inl ⟨by rfl, ?y526⟩) (by assumption) ?r526
          case y526 => (intro w hSw; (try dsimp only at hSw); go_simp; (try with_reducible rfl))
          simp only [Act.put, List.setIfInBounds_toArray, List.set_cons_zero, List.set_cons_succ]
          refine wpAnyH_at 27 (some 81) (v := ?v527) (by decide) rfl (by kernel_rfl) (by kernel_rfl) (by kernel_rfl) (fun _ _ _ h => h) (Or.inl ⟨by rfl, ?y527⟩) (by assumption) ?r527
          case y527 => (intro w hSw; (try dsimp only at hSw); go_simp; (try with_reducible rfl))
          simp only [Act.put, List.setIfInBounds_toArray, List.set_cons_zero, List.set_cons_succ]
          refine wpAnyH_at 28 (some 82) (v := ?v528) (by decide) rfl (by kernel_rfl) (by kernel_rfl) (by kernel_rfl) (fun _ _ _ h => h) (Or.inl ⟨by rfl, ?y528⟩) (by assumption) ?r528
          case y528 => (intro w hSw; (try dsimp only at hSw); go_simp; (try with_reducible rfl))
          simp only [Act.put, List.setIfInBounds_toArray, List.set_cons_zero, List.set_cons_succ]
          refine wpAnyH_at 29 (some 83) (v := ?v529) (by decide) rfl (by kernel_rfl) (by kernel_rfl) (by kernel_rfl) (fun _ _ _ h => h) (Or.inl ⟨by rfl, ?y529⟩) (by assumption) ?r529
          case y529 => (intro w hSw; (try dsimp only at hSw); go_simp; (try with_reducible rfl))
          simp only [Act.put, List.setIfInBounds_toArray, List.set_cons_zero, List.set_cons_succ]
          refine wpAnyH_at 30 (some 84) (v := ?v530) (by decide) rfl (by kernel_rfl) (by kernel_rfl) (by kernel_rfl) (fun _ _ _ h => h) (Or.inl ⟨by rfl, ?y530⟩) (by assumption) ?r530
          case y530 => (intro w hSw; (try dsimp only at hSw); go_simp; (try with_reducible rfl))
          simp only [Act.put, List.setIfInBounds_toArray, List.set_cons_zero, List.set_cons_succ]
          refine wpAnyH_done (by kernel_rfl) ?_ _
          clear hHeld t1 t2 t3 t4 t5 t6 t7 t8 t9 t10 s1 s2 s3 s4
          go_wp2_with fail
          refine (recv_ok (id := ci % 4) (n := 1 + nd % 4) (seq := m + 1) (rb := rb) (by exact HC6.out)).mono ?_
          rintro e w8 ⟨a8, c8, a9, c9, rfl, hcb8, hk8⟩
          have HC8 := hid (row_old hcb8 (.cells #[.int .i64 0, .int .i64 0, .slice a8 0 c8, .slice a9 0 c9] 38))
          have HK8 := hid ((HK6.out.drew.trans' hk8 (fun g hg => .inr (by omega))).alloc (.cells #[.int .i64 0, .int .i64 0, .slice a8 0 c8, .slice a9 0 c9] 38))
          clear hcb8 hk8
          go_wp2
          go_roundw
          case rel => exact ⟨k + 1, m + 1, by omega, by go_num, by go_num, by omega, by omega, by have := HC8.out; simpa using this, HK8.out⟩
          case measure => simp [intOf]; omega
    · have hcr := HC.out
      go_wp2_with fail
      refine (seq_any (id := ci % 4) (n := 1 + nd % 4) (seq := m) (rp := none) (by first | exact HC.out | exact row_old HC.out _)).mono ?_
      rintro e w3 ⟨rfl, rfl⟩
      have hmm : ((m : Int) == (m : Int)) = true := by simp
      clear hcr
      go_wp2
      go_ret
      exact ⟨rfl, by first | exact HK.out.below (Nat.le_refl _) (fun _ h => h.elim) | exact (HK.out.alloc _).below (Nat.le_refl _) (fun _ h => h.elim)⟩
end Go.Proofs.Ytnlbdlbinoebgaa
