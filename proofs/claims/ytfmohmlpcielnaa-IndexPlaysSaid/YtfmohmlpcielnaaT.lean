/- IndexOrder: the walk. -/
import Derived.Test.YtfmohmlpcielnaaV
import Derived.Test.YtfmohmlpcielnaaMin
import Derived.BigQuiet
namespace Go.Proofs.Ytfmohmlpcielnaa
open Go.RowKit

def comp (x : Int) : Int := bits .xor .u64 IntKind.u64.max x
theorem putN_ok {M : List It} (h : M.length < 4096) (k : Int) : putN M k = 0 := by unfold putN; split; rfl; rw [if_neg (by omega)]
theorem putM_ok {M : List It} (h : M.length < 4096) (k v : Int) : putM M k v = layL M k v := by unfold putM; split; rfl; rw [if_neg (by omega)]
theorem nextI_after {M : List It} (hu : Up M) {k : Nat} {x : It} (hx : M[k]? = some x) : nextI M (x.1 + 1) = M[k + 1]? := by
  obtain ⟨hl, e⟩ := List.getElem?_eq_some_iff.1 hx
  have hsp := split_at hx
  have hp := List.pairwise_iff_getElem.1 hu
  unfold nextI
  have h1 : ∀ y ∈ M.take k ++ [x], (fun y : It => decide (x.1 + 1 ≤ y.1)) y = false := fun y hy => by
    rcases List.mem_append.1 hy with hy | hy
    · obtain ⟨p, hp', hpl⟩ := take_mem hy
      obtain ⟨q, e2⟩ := List.getElem?_eq_some_iff.1 hpl
      have := hp p k q hl hp'
      rw [e, e2] at this
      simp; omega
    · rw [List.mem_singleton] at hy; subst hy; simp; omega
  have e3 : M = (M.take k ++ [x]) ++ M.drop (k + 1) := by
    conv => lhs; rw [hsp]
    simp
  conv => lhs; rw [e3]
  rw [find_ahead h1]
  cases h2 : M[k + 1]? with
  | none => rw [List.drop_eq_nil_of_le (by rw [List.getElem?_eq_none_iff] at h2; omega)]; rfl
  | some y =>
    obtain ⟨q, e2⟩ := List.getElem?_eq_some_iff.1 h2
    rw [← List.getElem_cons_drop q, e2]
    have := hp k (k + 1) hl q (by omega)
    rw [e, e2] at this
    simp [this]; omega
theorem mem_stepP {M : List It} {P P' : Int → Prop} {x : Int} (h : ∀ y : It, y ∈ M ↔ y.2 = comp y.1 ∧ P y.1) (hP : ∀ a, P' a ↔ P a ∨ a = x) : ∀ y : It, y ∈ layL M x (comp x) ↔ y.2 = comp y.1 ∧ P' y.1 := by
  rintro ⟨a, b⟩
  rw [mem_layL, h, hP]
  simp only [Prod.mk.injEq, ne_eq]
  constructor
  · rintro (⟨rfl, rfl⟩ | ⟨⟨h1, h2⟩, h3⟩)
    · exact ⟨rfl, .inr rfl⟩
    · exact ⟨h1, .inl h2⟩
  · rintro ⟨h1, h2⟩
    by_cases ha : a = x
    · subst ha; exact .inl ⟨rfl, h1⟩
    · rcases h2 with h2 | h2
      · exact .inr ⟨⟨h1, h2⟩, ha⟩
      · exact absurd h2 ha
theorem rot_step {L : List Int} {kk k N r : Nat} {x : Int} (hr : (kk + k) % N = r) (hx : L[r]? = some x) (a : Int) : (∃ j, j < k + 1 ∧ L[(kk + j) % N]? = some a) ↔ (∃ j, j < k ∧ L[(kk + j) % N]? = some a) ∨ a = x := by
  constructor
  · rintro ⟨j, h1, h2⟩
    by_cases hj : j = k
    · subst hj; rw [hr, hx] at h2; cases h2; exact .inr rfl
    · exact .inl ⟨j, by omega, h2⟩
  · rintro (⟨j, h1, h2⟩ | rfl)
    · exact ⟨j, by omega, h2⟩
    · exact ⟨k, by omega, by rw [hr, hx]⟩
theorem rot_all {L : List Int} {kk N : Nat} (hk : kk ≤ N) (hN : N ≤ L.length) (a : Int) : (∃ j, j < N ∧ L[(kk + j) % N]? = some a) ↔ a ∈ L.take N := by
  rw [List.mem_iff_getElem?]
  constructor
  · rintro ⟨j, h1, h2⟩
    refine ⟨(kk + j) % N, ?_⟩
    rw [List.getElem?_take, if_pos (Nat.mod_lt _ (by omega))]
    exact h2
  · rintro ⟨r, hr⟩
    rw [List.getElem?_take] at hr
    split at hr
    · rename_i hrN
      refine ⟨(r + N - kk) % N, Nat.mod_lt _ (by omega), ?_⟩
      rw [Nat.add_mod_mod, show kk + (r + N - kk) = r + N by omega, Nat.add_mod_right, Nat.mod_eq_of_lt hrN]
      exact hr
    · cases hr
theorem mem_step {M : List It} {L : List Int} {k : Nat} {x : Int} (h : ∀ y : It, y ∈ M ↔ y.2 = comp y.1 ∧ y.1 ∈ L.take k) (hx : L[k]? = some x) : ∀ y : It, y ∈ layL M x (comp x) ↔ y.2 = comp y.1 ∧ y.1 ∈ L.take (k + 1) := by
  obtain ⟨hl, e⟩ := List.getElem?_eq_some_iff.1 hx
  rintro ⟨a, b⟩
  rw [mem_layL, h, List.take_succ_eq_append_getElem hl, e]
  simp only [Prod.mk.injEq, List.mem_append, List.mem_singleton, ne_eq]
  constructor
  · rintro (⟨rfl, rfl⟩ | ⟨⟨h1, h2⟩, h3⟩)
    · exact ⟨rfl, .inr rfl⟩
    · exact ⟨h1, .inl h2⟩
  · rintro ⟨h1, h2⟩
    by_cases ha : a = x
    · subst ha; exact .inl ⟨rfl, h1⟩
    · rcases h2 with h2 | h2
      · exact .inr ⟨⟨h1, h2⟩, ha⟩
      · exact absurd h2 ha
set_option maxRecDepth 100000 in
set_option maxHeartbeats 1000000 in
theorem order_walk (W : World) (args : Array Value) (h : RdAll Try.prog W Try.f3.params.toList args.toList) :
    Calls Try.prog 3 args W fun e W' => e = .returned (.bool true) ∧ Below W.heap.size W W' := by
  rw [Try.params3] at h
  obtain ⟨v0, v1, rfl⟩ : ∃ v0 v1, args = #[v0, v1] := by
    rcases args with ⟨_ | ⟨v0, _ | ⟨v1, _ | ⟨v2, l⟩⟩⟩⟩ <;> simp [RdAll] at h
    exact ⟨v0, v1, rfl⟩
  obtain ⟨r0, r1, _⟩ := h
  obtain ⟨ao, cap, L, rfl, hL, bL⟩ := keys_read r0
  obtain ⟨t, rfl, wt⟩ := r1.int Try.underlying5
  have ht : 0 ≤ t ∧ t ≤ 255 := by
    simp [Lit.wf, IntKind.min, IntKind.max, IntKind.signed, IntKind.bits] at wt; omega
  have HL := hid hL; have BL := hid bL
  clear r0 r1 wt hL bL
  obtain ⟨N, hN⟩ : ∃ N, min L.length 100 = N := ⟨_, rfl⟩
  have hNL : N ≤ L.length := by omega
  have hN1 : N ≤ 100 := by omega
  have hcap : L.length ≤ cap ∧ cap ≤ maxLen := by
    obtain ⟨_, _, e, h1, h2, _⟩ := HL.out
    simp only [Value.slice.injEq] at e
    obtain ⟨_, _, rfl⟩ := e
    exact ⟨h1, h2⟩
  unfold maxLen at hcap
  go_enter Try.func3, Try.ntmps3
  go_wp2_with fail
  refine (awake_any _).mono ?_; rintro e w1 ⟨rfl, hk1⟩
  have K1 := hid hk1; clear hk1
  have hNi : (if (100 : Int) < (L.length : Int) then 100 else (L.length : Int)) = (N : Int) := by split <;> omega
  have HNI := hid hNi; clear hNi
  go_wp2_with (refine wpList_min rfl (.tmp 21) (.const (.int .i64 100)) _ rfl (L.length : Int) 100 N rfl rfl HNI.out ?_)
  refine (new_flat w1).mono ?_
  rintro e w2 ⟨rfl, hx2, hk2⟩
  have X2 := hid hx2; have K2 := hid (K1.out.trans hk2); have z2 := hx2.lt.1; have z1 := K1.out.size
  clear hx2 hk2
  go_wp2_with fail
  refine (new_flat w2).mono ?_
  rintro e w3 ⟨rfl, hx3, hk3⟩
  obtain ⟨ab, hab⟩ : ∃ ab, ab = w1.heap.size := ⟨_, rfl⟩
  obtain ⟨bb, hbb⟩ : ∃ bb, bb = w2.heap.size := ⟨_, rfl⟩
  have XA3 := hid (X2.out.same hk3); have XB3 := hid hx3; have K3 := hid (K2.out.trans hk3); have z3 := hx3.lt.1
  clear hx3 hk3 X2 K1 K2
  rw [← hab] at XA3 z2 ⊢
  rw [← hbb] at XB3 z3 ⊢
  have zab : W.heap.size ≤ ab ∧ ab < bb ∧ bb < w3.heap.size := by omega
  clear hab hbb z1 z2 z3
  have hN0 : (0 : Int) < (N : Int) + 1 := by omega
  have wN : IntKind.i64.wrap ((N : Int) + 1) = (N : Int) + 1 := IntWalk.i64_in _ (by omega)
  have wt : IntKind.i64.wrap t = t := IntWalk.i64_in _ (by omega)
  obtain ⟨kk, hkk⟩ : ∃ kk : Nat, t.tmod ((N : Int) + 1) = (kk : Int) ∧ kk ≤ N := by
    refine ⟨(t.tmod ((N : Int) + 1)).toNat, ?_, ?_⟩
    · rw [Int.tmod_eq_emod_of_nonneg ht.1]; have := Int.emod_nonneg t (show ((N : Int) + 1) ≠ 0 by omega); omega
    · rw [Int.tmod_eq_emod_of_nonneg ht.1]; have := Int.emod_lt_of_pos t hN0; omega
  obtain ⟨hk0, hk1⟩ := hkk
  go_wp2_with fail
  go_loopw [9, 34] (fun _ i wr => ∃ (k : Nat) (M : List It), k ≤ N ∧ i = .int .i64 k ∧ Ix (fun g => W.heap.size ≤ g ∧ g ≠ bb) wr ab M ∧ Ix (fun g => g = bb) wr bb [] ∧ Kept (fun _ => False) W wr ∧ M.length ≤ k ∧ ∀ x, x ∈ M ↔ x.2 = comp x.1 ∧ x.1 ∈ L.take k) (fun _ i _ => N - (intOf i).toNat)
  case atStart => exact ⟨0, [], Nat.zero_le _, rfl, XA3.out.mono (fun g hg => by omega), XB3.out, K3.out, Nat.le_refl _, by simp⟩
  case round =>
    rename World => wA
    obtain ⟨k, M, hk, rfl, hA, hB, hK, hM, hmem⟩ := hrel
    have XA := hid hA; have XB := hid hB; have KA := hid hK; have HME := hid hmem
    have zA := hB.lt.1
    clear hA hB hK hmem
    by_cases hlt : k < N
    · have hltI : (k : Int) < (N : Int) := by omega
      obtain ⟨x, hx⟩ : ∃ x, L[k]? = some x := ⟨_, List.getElem?_eq_getElem (by omega)⟩
      obtain ⟨g1, o1, q1, e1, m1, m2, hnF, _, zc⟩ := HL.out.cell (by omega)
      simp only [Value.slice.injEq] at e1
      obtain ⟨rfl, _, rfl⟩ := e1
      have y0 := zc k _ (kc_at L k x hx)
      clear zc m1 m2 hnF
      have hxb := BL.out x (List.mem_of_getElem? hx)
      have c0 := KA.out.cell y0 (fun h => h)
      have HX := hid hx; clear hx y0
      go_wp2_with fail
      refine (put_flat (F := fun g => W.heap.size ≤ g ∧ g ≠ bb) XA.out (fun g hg => by omega) x (comp x)).mono ?_
      rintro e wB ⟨rfl, hA, hk⟩
      rw [putN_ok (by omega)]
      rw [putM_ok (by omega)] at hA
      have XA2 := hid hA; have XB2 := hid (XB.out.kept hk (fun g _ h h' => h'.2 h)); have KB := hid (KA.out.trans' hk (fun g hg => .inr hg.1))
      have hl := Nat.le_trans (layL_le M x (comp x)) (Nat.succ_le_succ hM)
      clear hA hk
      go_wp2
      go_roundw
      case rel => exact ⟨k + 1, _, by omega, by go_num, XA2.out, XB2.out, KB.out, hl, mem_step HME.out HX.out⟩
      case measure => simp [intOf]; omega
    · obtain rfl : N = k := by omega
      have HMA := hid HME.out; have XAb := hid XA.out.bound
      obtain ⟨z, hz⟩ : ∃ z, wA.heap.size = z := ⟨_, rfl⟩
      rw [hz] at XAb zA
      have XB0 := hid (XB.out.mono (G := fun g => g = bb ∨ z ≤ g) (fun g h => .inl h))
      have HZ := hid (Nat.le_of_eq hz.symm); have ZZ := hid hz
      have zW : W.heap.size ≤ z := by have := KA.out.size; omega
      clear HME XA XB hz XA3 XB3
      go_wp2_with fail
      go_loopw [10, 11, 47] (fun _ _ i wr => ∃ (k : Nat) (M' : List It), k ≤ N ∧ i = .int .i64 k ∧ Ix (fun g => (W.heap.size ≤ g ∧ g ≠ bb) ∧ g < z) wr ab M ∧ Ix (fun g => g = bb ∨ z ≤ g) wr bb M' ∧ Kept (fun _ => False) W wr ∧ z ≤ wr.heap.size ∧ M'.length ≤ k ∧ ∀ x, x ∈ M' ↔ x.2 = comp x.1 ∧ ∃ j, j < k ∧ L[(kk + j) % N]? = some x.1) (fun _ _ i _ => N - (intOf i).toNat)
      case atStart => exact ⟨0, [], Nat.zero_le _, rfl, XAb.out, XB0.out, KA.out, HZ.out, Nat.le_refl _, by simp⟩
      case round =>
        rename World => wB
        obtain ⟨k, M', hk2, rfl, hA, hB, hK, hz2, hM2, hmem⟩ := hrel
        have YA := hid hA; have YB := hid hB; have KB := hid hK; have HME := hid hmem
        clear hA hB hK hmem
        by_cases hlt : k < N
        · have hltI : (k : Int) < (N : Int) := by omega
          obtain ⟨r, hr⟩ : ∃ r, (kk + k) % N = r := ⟨_, rfl⟩
          have hrN : r < N := by rw [← hr]; exact Nat.mod_lt _ (by omega)
          have hN0' : ((N : Int) == 0) = false := by rw [beq_eq_false_iff_ne]; omega
          have hmod : ((kk : Int) + (k : Int)).tmod (N : Int) = (r : Int) := by
            rw [Int.tmod_eq_emod_of_nonneg (by omega), ← hr, Int.natCast_emod, Int.natCast_add]
          have w5 : IntKind.i64.wrap ((kk : Int) + (k : Int)) = (kk : Int) + (k : Int) := IntWalk.i64_in _ (by omega)
          obtain ⟨x, hx⟩ : ∃ x, L[r]? = some x := ⟨_, List.getElem?_eq_getElem (by omega)⟩
          obtain ⟨g1, o1, q1, e1, m1, m2, hnF, _, zc⟩ := HL.out.cell (by omega)
          simp only [Value.slice.injEq] at e1
          obtain ⟨rfl, _, rfl⟩ := e1
          have y0 := zc r _ (kc_at L r x hx)
          clear zc m1 m2 hnF
          have hxb := BL.out x (List.mem_of_getElem? hx)
          have c0 := KB.out.cell y0 (fun h => h)
          have HX := hid hx; have HR := hid hr; clear hx hr y0
          go_wp2_with fail
          refine (put_flat (F := fun g => g = bb ∨ z ≤ g) YB.out (fun g hg => by omega) x (comp x)).mono ?_
          rintro e wC ⟨rfl, hB, hk⟩
          rw [putN_ok (by omega)]
          rw [putM_ok (by omega)] at hB
          have YB2 := hid hB; have YA2 := hid (YA.out.kept hk (fun g _ h h' => by omega)); have KC := hid (KB.out.trans' hk (fun g hg => .inr (by omega)))
          have hl := Nat.le_trans (layL_le M' x (comp x)) (Nat.succ_le_succ hM2)
          have hz3 : z ≤ wC.heap.size := Nat.le_trans hz2 hk.size
          clear hB hk
          go_wp2
          go_roundw
          case rel => exact ⟨k + 1, _, by omega, by go_num, YA2.out, YB2.out, KC.out, hz3, hl, mem_stepP HME.out (rot_step HR.out HX.out)⟩
          case measure => simp [intOf]; omega
        · obtain rfl : N = k := by omega
          have hMM : M' = M := up_eq YB.out.up YA.out.up (fun x => by rw [HME.out, HMA.out, rot_all hk1 hNL])
          subst hMM
          have hMr : rangeI M' 0 18446744073709551615 = M' := filter_all (fun x hx => by
            have h1 := (HMA.out x).1 hx
            have h2 := BL.out x.1 (List.mem_of_mem_take h1.2)
            simp [h2.1, h2.2])
          have HMR := hid hMr; have HMN := hid hM2
          clear hMr hM
          go_wp2_with fail
          refine (range_flat YA.out 0 18446744073709551615).mono ?_
          rintro e wC ⟨a1, c1, rfl, hs1, hf1, hk1'⟩
          rw [HMR.out] at hs1 hf1 ⊢
          have S1 := hid hs1; have Y1 := hid (YA.out.same hk1'); have Z1 := hid (YB.out.same hk1'); have KC := hid (KB.out.trans hk1')
          clear hs1 hf1 hk1'
          go_wp2_with fail
          refine (range_flat Z1.out 0 18446744073709551615).mono ?_
          rintro e wD ⟨a2, c2, rfl, hs2, hf2, hk2'⟩
          rw [HMR.out] at hs2 hf2 ⊢
          have S2 := hid hs2; have S1d := hid (S1.out.same hk2'); have Y2 := hid (Y1.out.same hk2'); have KD := hid (KC.out.trans hk2')
          clear hs2 hf2 hk2'
          go_wp2_with fail
          refine (len_flat Y2.out).mono ?_
          rintro e wE ⟨rfl, hkE⟩
          have S2e := hid (S2.out.same hkE); have S1e := hid (S1d.out.same hkE); have Y3 := hid (Y2.out.same hkE); have KE := hid (KD.out.trans hkE)
          clear hkE S1 S2 S1d Y1 Y2 Z1 KC KD
          go_wp2_with fail
          go_loopw [14, 15, 16, 84] (fun _ _ _ i wr => ∃ k : Nat, k ≤ M'.length ∧ i = .int .i64 k ∧ Kept (fun _ => False) wE wr) (fun _ _ _ i _ => M'.length - (intOf i).toNat)
          case atStart => exact ⟨0, Nat.zero_le _, rfl, Kept.refl _ _⟩
          case round =>
            rename World => wF
            obtain ⟨k, hkl, rfl, hkF⟩ := hrel
            have KF := hid hkF; clear hkF
            by_cases hlt3 : k < M'.length
            · have hltI : (k : Int) < (M'.length : Int) := by omega
              obtain ⟨⟨key, val⟩, hx⟩ : ∃ x, M'[k]? = some x := ⟨_, List.getElem?_eq_getElem hlt3⟩
              obtain ⟨hval, hmemk⟩ := (HMA.out (key, val)).1 (List.mem_of_getElem? hx)
              have hkb := BL.out key (List.mem_of_mem_take hmemk)
              obtain ⟨g1, cap1, e1, m1, m2⟩ := S1e.out.some_of_pos (by omega)
              obtain ⟨g2, cap2, e2, m3, m4⟩ := S2e.out.some_of_pos (by omega)
              simp only [Value.slice.injEq] at e1 e2
              obtain ⟨rfl, _, rfl⟩ := e1
              obtain ⟨rfl, _, rfl⟩ := e2
              unfold maxLen at m2 m4
              simp only at hval
              subst hval
              obtain ⟨x0, x1⟩ := icells_at M' _ _ hx
              obtain ⟨i0, j0⟩ := List.getElem?_eq_some_iff.1 x0
              obtain ⟨i1, j1⟩ := List.getElem?_eq_some_iff.1 x1
              have y0 := KF.out.cell ((S1e.out.cells rfl _ i0).trans (by rw [j0])) (fun h => h)
              have y1 := KF.out.cell ((S1e.out.cells rfl _ i1).trans (by rw [j1])) (fun h => h)
              have y2 := KF.out.cell ((S2e.out.cells rfl _ i0).trans (by rw [j0])) (fun h => h)
              have y3 := KF.out.cell ((S2e.out.cells rfl _ i1).trans (by rw [j1])) (fun h => h)
              obtain ⟨ck, hck⟩ : ∃ ck, comp key = ck := ⟨_, rfl⟩
              have hxr : bits BinOp.xor IntKind.u64 (if IntKind.u64.signed = true then -1 else IntKind.u64.max) key = ck := hck
              have hxr2 := hxr
              rw [hck] at y1 y3 hx
              have HXk := hid hx; have HXR := hid hxr
              clear hck
              clear x0 x1 i0 j0 i1 j1 hx hmemk
              have hwr : key ≠ 18446744073709551615 → IntKind.u64.wrap (key + 1) = key + 1 := fun h => IntWalk.u64_in _ (by omega)
              have HWR := hid hwr; clear hwr
              obtain ⟨bm, hbm⟩ : ∃ bm, (key == 18446744073709551615) = bm := ⟨_, rfl⟩
              obtain ⟨bk, hbk⟩ : ∃ bk, decide (0 < k) = bk := ⟨_, rfl⟩
              cases bk with
              | false =>
                go_wp2_with fail
                go_quiet (fail)
                cases bm with
                | true =>
                  go_wp2
                  go_roundw
                  case rel => exact ⟨k + 1, by omega, by go_num, KF.out.drewN _⟩
                  case measure => simp [intOf]; omega
                | false =>
                  go_wp2_with fail
                  rw [HWR.out (by simpa using hbm)]
                  refine (next_flat ((Y3.out.same KF.out).same (Kept.drewN (Kept.refl _ _) _)) (key + 1)).mono ?_
                  rintro e wG ⟨rfl, hkG⟩
                  have KG := hid ((KF.out.drewN _).trans hkG)
                  rw [nextI_after Y3.out.up HXk.out]
                  clear hkG
                  cases hnx : M'[k + 1]? with
                  | none =>
                    simp only [Option.getD_none, Option.isSome_none]
                    have hlast : decide ((k : Int) + 1 < (M'.length : Int)) = false := by rw [List.getElem?_eq_none_iff] at hnx; simp; omega
                    clear hnx
                    go_wp2_with fail
                    go_quiet (fail)
                    go_wp2
                    go_roundw
                    case rel => exact ⟨k + 1, by omega, by go_num, (KG.out.alloc _).drewN _⟩
                    case measure => simp [intOf]; omega
                  | some y =>
                    obtain ⟨ky, vy⟩ := y
                    simp only [Option.getD_some, Option.isSome_some]
                    have hk1l := (List.getElem?_eq_some_iff.1 hnx).1
                    obtain ⟨k1, hk1e⟩ : ∃ k1, k + 1 = k1 := ⟨_, rfl⟩
                    rw [hk1e] at hnx hk1l
                    have wk1 : IntKind.i64.wrap ((k : Int) + 1) = (k1 : Int) := (IntWalk.i64_in _ (by have := HMN.out; omega)).trans (by omega)
                    have hk1I : (k1 : Int) < (M'.length : Int) := by omega
                    have hlast : decide ((k1 : Int) < (M'.length : Int)) = true := by simpa using hk1l
                    have hlast2 : decide (k1 < M'.length) = true := by simpa using hk1l
                    obtain ⟨x0, x1⟩ := icells_at M' _ _ hnx
                    obtain ⟨i0, j0⟩ := List.getElem?_eq_some_iff.1 x0
                    obtain ⟨i1, j1⟩ := List.getElem?_eq_some_iff.1 x1
                    have y5 := KG.out.cell ((S1e.out.cells rfl _ i0).trans (by rw [j0])) (fun h => h)
                    have y6 := KG.out.cell ((S1e.out.cells rfl _ i1).trans (by rw [j1])) (fun h => h)
                    replace y5 := ((Kept.refl (fun _ => False) wG).alloc (.cells #[.int .u64 ky, .int .u64 vy] 33)).cell y5 (fun h => h)
                    replace y6 := ((Kept.refl (fun _ => False) wG).alloc (.cells #[.int .u64 ky, .int .u64 vy] 33)).cell y6 (fun h => h)
                    clear x0 x1 i0 i1 j0 j1 hnx
                    go_wp2_with fail
                    go_quiet (fail)
                    go_wp2
                    go_roundw
                    case rel => exact ⟨k1, by omega, by first | rfl | go_num, (KG.out.alloc _).drewN _⟩
                    case measure => simp [intOf]; omega
              | true =>
                obtain ⟨j, hj⟩ : ∃ j : Nat, (k : Int) - 1 = (j : Int) := ⟨k - 1, by rw [decide_eq_true_eq] at hbk; omega⟩
                have hjl : j < M'.length := by omega
                obtain ⟨⟨kp, vp⟩, hxp⟩ : ∃ x, M'[j]? = some x := ⟨_, List.getElem?_eq_getElem hjl⟩
                have hlp : decide (key ≤ kp) = false := by
                  have hpw := List.pairwise_iff_getElem.1 YA.out.up
                  obtain ⟨q1, q2⟩ := List.getElem?_eq_some_iff.1 hxp
                  obtain ⟨q3, q4⟩ := List.getElem?_eq_some_iff.1 HXk.out
                  have := hpw j k q1 q3 (by omega)
                  rw [q2, q4] at this
                  simpa using this
                obtain ⟨x0, _⟩ := icells_at M' _ _ hxp
                obtain ⟨i0, j0⟩ := List.getElem?_eq_some_iff.1 x0
                have y4 := KF.out.cell ((S1e.out.cells rfl _ i0).trans (by rw [j0])) (fun h => h)
                clear x0 i0 j0 hxp
                go_wp2_with fail
                go_quiet (fail)
                cases bm with
                | true =>
                  go_wp2
                  go_roundw
                  case rel => exact ⟨k + 1, by omega, by go_num, KF.out.drewN _⟩
                  case measure => simp [intOf]; omega
                | false =>
                  go_wp2_with fail
                  rw [HWR.out (by simpa using hbm)]
                  refine (next_flat ((Y3.out.same KF.out).same (Kept.drewN (Kept.refl _ _) _)) (key + 1)).mono ?_
                  rintro e wG ⟨rfl, hkG⟩
                  have KG := hid ((KF.out.drewN _).trans hkG)
                  rw [nextI_after Y3.out.up HXk.out]
                  clear hkG
                  cases hnx : M'[k + 1]? with
                  | none =>
                    simp only [Option.getD_none, Option.isSome_none]
                    have hlast : decide ((k : Int) + 1 < (M'.length : Int)) = false := by rw [List.getElem?_eq_none_iff] at hnx; simp; omega
                    clear hnx
                    go_wp2_with fail
                    go_quiet (fail)
                    go_wp2
                    go_roundw
                    case rel => exact ⟨k + 1, by omega, by go_num, (KG.out.alloc _).drewN _⟩
                    case measure => simp [intOf]; omega
                  | some y =>
                    obtain ⟨ky, vy⟩ := y
                    simp only [Option.getD_some, Option.isSome_some]
                    have hk1l := (List.getElem?_eq_some_iff.1 hnx).1
                    obtain ⟨k1, hk1e⟩ : ∃ k1, k + 1 = k1 := ⟨_, rfl⟩
                    rw [hk1e] at hnx hk1l
                    have wk1 : IntKind.i64.wrap ((k : Int) + 1) = (k1 : Int) := (IntWalk.i64_in _ (by have := HMN.out; omega)).trans (by omega)
                    have hk1I : (k1 : Int) < (M'.length : Int) := by omega
                    have hlast : decide ((k1 : Int) < (M'.length : Int)) = true := by simpa using hk1l
                    have hlast2 : decide (k1 < M'.length) = true := by simpa using hk1l
                    obtain ⟨x0, x1⟩ := icells_at M' _ _ hnx
                    obtain ⟨i0, j0⟩ := List.getElem?_eq_some_iff.1 x0
                    obtain ⟨i1, j1⟩ := List.getElem?_eq_some_iff.1 x1
                    have y5 := KG.out.cell ((S1e.out.cells rfl _ i0).trans (by rw [j0])) (fun h => h)
                    have y6 := KG.out.cell ((S1e.out.cells rfl _ i1).trans (by rw [j1])) (fun h => h)
                    replace y5 := ((Kept.refl (fun _ => False) wG).alloc (.cells #[.int .u64 ky, .int .u64 vy] 33)).cell y5 (fun h => h)
                    replace y6 := ((Kept.refl (fun _ => False) wG).alloc (.cells #[.int .u64 ky, .int .u64 vy] 33)).cell y6 (fun h => h)
                    clear x0 x1 i0 i1 j0 j1 hnx
                    go_wp2_with fail
                    go_quiet (fail)
                    go_wp2
                    go_roundw
                    case rel => exact ⟨k1, by omega, by first | rfl | go_num, (KG.out.alloc _).drewN _⟩
                    case measure => simp [intOf]; omega
            · obtain rfl : k = M'.length := by omega
              go_wp2
              go_ret
              exact ⟨rfl, (KE.out.trans KF.out).below (Nat.le_refl _) (fun _ h => h.elim)⟩
end Go.Proofs.Ytfmohmlpcielnaa
