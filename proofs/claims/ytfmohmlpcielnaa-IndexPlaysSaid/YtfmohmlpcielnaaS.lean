/- slices.Grow (of nil), slices.Concat of two lists of items. -/
import Derived.Test.YtfmohmlpcielnaaR
import Derived.BigQuiet
namespace Go.Proofs.Ytfmohmlpcielnaa
open Go.RowKit

/-- append(nil, make([]T, k)...): a new row -/
theorem wpList_app_zeros_nil {P : Program} {w : World} {ops : Array Oper} {rest : List Oper} {o : Oper} {a : Act} {Q : Exit → Act → World → Prop} (hgd : o.guard = none) (s x : Operand) (t tn : TypeId)
    (ho : o.op = .call { callee := .builtin .append, args := #[s, x], argTypes := #[t, tn] })
    (e : TypeId) (z : Value) (size bytes : Nat) (ht : P.underlying t = some (.slice e)) (htn : P.underlying tn = some (.int .i64)) (hi : (P.info? e).map (fun i => (i.zero, i.size, i.bytes)) = some (some z, size, bytes)) (hz : z.cells.size = size) (h0 : 0 < size)
    (hs : a.eval s = .slice none 0 0) (k : Nat) (hx : a.eval x = .int .i64 k)
    (hk : 0 < k) (h63 : k ≤ maxLen) (hb : k * bytes ≤ 140737488355328)
    (h : ∀ w' cur' cap', Hid (w'.heap[w.heap.size]? = some (.cells cur' e (0, 0))) → Hid (cur'.size = cap' * size) → k ≤ cap' → cap' ≤ maxLen → Hid (Kept (fun _ => False) w w') → wpList P ops Q rest (a.put o.dst (.slice (some ⟨w.heap.size, 0, none⟩) k cap')) w') :
    wpList P ops Q (o :: rest) a w := by
  obtain ⟨i, hi1, hi2, hi3, hi4⟩ := info_parts hi
  subst hi3 hi4
  have hf : (Builtin.firstCells i.size 0 (.slice none 0 0)).run P w.drew = .ok (#[] : Array Value) w.drew := by simp [Builtin.firstCells, loadCells, loadCellsFrom]
  have hr := Lib.run_append_grow_zeros (P := P) w t tn o.type e i z .i64 .i64 ht htn hi1 hi2 none 0 0 [] hf k hk h0 (by omega) (by unfold maxLen at h63; omega) (by omega) (by rw [Nat.zero_add]; exact growslice_fits hk hb)
  rw [Nat.zero_add] at hr
  refine wpList_run hgd ?_ (h (w.drew.alloc (.cells (([] : List Value).toArray ++ Builtin.zeroCells z.cells k ++ Builtin.zeroCells z.cells (grownCap w k 0 e - k)) e)) _ (grownCap w k 0 e) (hid (row_new _ _)) ?_ (grownCap_ge w _ _ _) (grownCap_le_maxLen w _ _ _ h63) (hid ((Kept.refl _ _).of_drew.alloc _)))
  · simp [execOp, ho, resolve, invoke, builtin, hs, hx, hr, Result.andThen]
  · refine hid ?_
    have := grownCap_ge w k 0 e
    simp [size_zeroCells, hz]
    rw [← Nat.add_mul]
    congr 1
    omega
set_option maxRecDepth 100000 in
set_option maxHeartbeats 1000000 in
theorem grow_nil {w : World} {k : Nat} (hk : 0 < k) (hk2 : k ≤ 1000000) :
    Calls Try.prog 46 #[.slice none 0 0, .int .i64 k] w fun e w' => ∃ cap, e = .returned (.slice (some ⟨w.heap.size, 0, none⟩) 0 cap) ∧ Seg w' 33 2 (.slice (some ⟨w.heap.size, 0, none⟩) 0 cap) 0 [] ∧ Kept (fun _ => False) w w' := by
  have hk0 : ¬ ((k : Int) < 0) := by omega
  have hkI : (0 : Int) < (k : Int) := by omega
  go_enter Try.func46, Try.ntmps46
  go_wp2_with (at_builtin; refine wpList_app_zeros_nil rfl (.tmp 20) (.tmp 21) 29 3 rfl 33 (.agg #[.int .u64 0, .int .u64 0]) 2 16 Try.underlying29 Try.underlying3 infoS rfl (by decide) (by simp [Act.eval, Act.put]) k (by simp [Act.eval, Act.put]) hk (by unfold maxLen; omega) (by omega) ?_; intro w1 cur1 cap1 hg1 hz1 hc1 hc2 hk1; have HC1 := hid hc1; have HC2 := hid hc2; clear hc1 hc2)
  go_ret
  exact ⟨cap1, rfl, by simpa using Seg.mk (n := 0) hg1.out (Nat.zero_le _) HC2.out (by rw [hz1.out]; exact Nat.le_refl _), hk1.out⟩
set_option maxRecDepth 100000 in
set_option maxHeartbeats 1000000 in
theorem concat_any {w : World} {b : Nat} {va vb : Value} {A B : List It} (hb : w.heap[b]? = some (.cells #[va, vb] 29 (0, 0))) (hA : Seg w 33 2 va A.length (icells A)) (hB : Seg w 33 2 vb B.length (icells B))
    (hA0 : 0 < A.length) (hB0 : 0 < B.length) (hl : A.length + B.length ≤ 1000) :
    Calls Try.prog 40 #[.slice (some ⟨b, 0, none⟩) 2 2] w fun e w' => ∃ g c, e = .returned (.slice (some ⟨g, 0, none⟩) (A ++ B).length c) ∧ Seg w' 33 2 (.slice (some ⟨g, 0, none⟩) (A ++ B).length c) (A ++ B).length (icells (A ++ B)) ∧ w.heap.size ≤ g ∧ Kept (fun _ => False) w w' := by
  obtain ⟨aa, ca, rfl⟩ := hA.isSlice
  obtain ⟨ab, cb, rfl⟩ := hB.isSlice
  have c0 : w.cell? ⟨b, 0, none⟩ = some (.slice aa A.length ca) := row_cell hb 0
  have c1 : w.cell? ⟨b, 1, none⟩ = some (.slice ab B.length cb) := row_cell hb 1
  have w0 : IntKind.i64.wrap (0 + (A.length : Int)) = (A.length : Int) := (IntWalk.i64_in _ (by omega)).trans (by omega)
  have w1 : IntKind.i64.wrap ((A.length : Int) + (B.length : Int)) = ((A.length + B.length : Nat) : Int) := (IntWalk.i64_in _ (by omega)).trans (by omega)
  have HB := hid hb; have SA := hid hA; have SB := hid hB; have C0 := hid c0; have C1 := hid c1
  obtain ⟨T, hT⟩ : ∃ T, A.length + B.length = T := ⟨_, rfl⟩
  rw [hT] at w1
  have HT := hid hT
  clear hb hA hB c0 c1
  have nA : ¬ ((A.length : Int) < 0) := by omega
  have nT : ¬ ((T : Int) < 0) := by omega
  go_enter Try.func40, Try.ntmps40
  go_wp2_with fail
  go_loopw [3, 5, 11] (fun s _ i wr => ∃ k : Nat, i = .int .i64 k ∧ (k = 0 ∧ s = .int .i64 0 ∨ k = 1 ∧ s = .int .i64 A.length ∨ k = 2 ∧ s = .int .i64 T) ∧ Kept (fun _ => False) w wr) (fun _ _ i _ => 2 - (intOf i).toNat)
  case atStart => exact ⟨0, rfl, .inl ⟨rfl, rfl⟩, Kept.refl _ _⟩
  case round =>
    rename World => wA
    obtain ⟨k, rfl, hs, hk⟩ := hrel
    have K := hid hk; clear hk
    have c0 := K.out.cell C0.out (fun h => h)
    have c1 := K.out.cell C1.out (fun h => h)
    rcases hs with ⟨rfl, rfl⟩ | ⟨rfl, rfl⟩ | ⟨rfl, rfl⟩
    · go_wp2
      go_roundw
      case rel => exact ⟨1, rfl, .inr (.inl ⟨rfl, rfl⟩), K.out⟩
      case measure => simp [intOf]
    · go_wp2
      go_roundw
      case rel => exact ⟨2, rfl, .inr (.inr ⟨rfl, rfl⟩), K.out⟩
      case measure => simp [intOf]
    · have K0 := hid K.out
      clear c0 c1
      go_wp2_with fail
      refine (grow_nil (k := T) (by omega) (by omega)).mono ?_
      rintro e wB ⟨cp, rfl, hs, hk⟩
      obtain ⟨z, hz⟩ : ∃ z, wA.heap.size = z := ⟨_, rfl⟩
      rw [hz] at hs ⊢
      have zw : w.heap.size ≤ z := by have := K0.out.size; omega
      have S0 := hid hs; have KB := hid (K0.out.trans hk)
      clear hs hk hz
      go_wp2_with fail
      go_loopw [6, 8, 27] (fun o _ i wr => ∃ (k : Nat) (L : List It) (g c : Nat), i = .int .i64 k ∧ (k = 0 ∧ L = [] ∨ k = 1 ∧ L = A ∨ k = 2 ∧ L = A ++ B) ∧ o = .slice (some ⟨g, 0, none⟩) L.length c ∧ Seg wr 33 2 (.slice (some ⟨g, 0, none⟩) L.length c) L.length (icells L) ∧ w.heap.size ≤ g ∧ Kept (fun _ => False) w wr) (fun _ _ i _ => 2 - (intOf i).toNat)
      case atStart => exact ⟨0, [], z, cp, rfl, .inl ⟨rfl, rfl⟩, rfl, S0.out, zw, KB.out⟩
      case round =>
        rename World => wC
        obtain ⟨k, L, g, c, rfl, hs, rfl, hsg, hg, hk⟩ := hrel
        have SL := hid hsg; have K := hid hk; clear hk hsg
        have c0 := K.out.cell C0.out (fun h => h)
        have c1 := K.out.cell C1.out (fun h => h)
        rcases hs with ⟨rfl, rfl⟩ | ⟨rfl, hL⟩ | ⟨rfl, rfl⟩
        · go_wp2_with (at_builtin; refine wpList_app_seg rfl (.tmp 31) (.tmp 32) 29 rfl 33 (.agg #[.int .u64 0, .int .u64 0]) 2 16 Try.underlying29 infoS rfl (by decide) (.slice (some ⟨g, 0, none⟩) ([] : List It).length c) 0 [] rfl (by exact SL.out) (.slice aa A.length ca) rfl A.length (icells A) (by exact (SA.out.same K.out).src (icells_one _)) (by unfold maxLen; omega) (by omega) ?_; intro a3 c3 w3 hs3 hk3 hf3; have HS3 := hid hs3; have HK3 := hid hk3; have HF3 := hid hf3; clear hs3 hk3 hf3)
          go_roundw
          case rel =>
            have hs5 := HS3.out
            rw [Nat.zero_add, List.nil_append] at hs5
            obtain ⟨g3, cp3, e3, _, _⟩ := hs5.some_of_pos (by omega)
            have hf5 := HF3.out
            rw [Nat.zero_add] at hf5
            rw [e3] at hs5 hf5 ⊢
            refine ⟨1, A, g3, cp3, rfl, .inr (.inl ⟨rfl, rfl⟩), rfl, hs5, ?_, K.out.trans' HK3.out (fun a ha => .inr (by simp [Value.ownBlock] at ha; omega))⟩
            rcases hf5 g3 rfl with e | e
            · simp [Value.ownBlock] at e; omega
            · have := K.out.size; omega
          case measure => simp [intOf]
        · obtain rfl := hL.symm
          go_wp2_with (at_builtin; refine wpList_app_seg rfl (.tmp 31) (.tmp 32) 29 rfl 33 (.agg #[.int .u64 0, .int .u64 0]) 2 16 Try.underlying29 infoS rfl (by decide) (.slice (some ⟨g, 0, none⟩) A.length c) A.length (icells A) rfl (by exact SL.out) (.slice ab B.length cb) rfl B.length (icells B) (by exact (SB.out.same K.out).src (icells_one _)) (by unfold maxLen; omega) (by omega) ?_; intro a3 c3 w3 hs3 hk3 hf3; have HS3 := hid hs3; have HK3 := hid hk3; have HF3 := hid hf3; clear hs3 hk3 hf3)
          go_roundw
          case rel =>
            have hs5 := HS3.out
            have hll : A.length + B.length = (A ++ B).length := by simp
            obtain ⟨g3, cp3, e3, _, _⟩ := hs5.some_of_pos (by omega)
            have hf5 := HF3.out
            rw [← icells_append] at hs5
            have hTT : T = (A ++ B).length := by rw [← HT.out, hll]
            rw [hll] at hs5 hf5 e3
            rw [hTT]
            rw [e3] at hs5 hf5 ⊢
            refine ⟨2, A ++ B, g3, cp3, rfl, .inr (.inr ⟨rfl, rfl⟩), rfl, hs5, ?_, K.out.trans' HK3.out (fun a ha => .inr (by simp [Value.ownBlock] at ha; omega))⟩
            rcases hf5 g3 rfl with e | e
            · simp [Value.ownBlock] at e; omega
            · have := K.out.size; omega
          case measure => simp [intOf]
        · go_wp2
          go_ret
          exact ⟨g, c, rfl, SL.out, hg, K.out⟩
end Go.Proofs.Ytfmohmlpcielnaa
