/- Plain facts; a nil index; IndexEmpties: the walk. -/
import Derived.Test.YtfmohmlpcielnaaV
import Derived.Test.YtfmohmlpcielnaaT
namespace Go.Proofs.Ytfmohmlpcielnaa
open Go.RowKit
theorem getI_some {M : List It} {k : Int} : (getI M k).isSome = true ↔ ∃ x ∈ M, x.1 = k := by
  unfold getI
  rw [Option.isSome_map, List.find?_isSome]
  simp
theorem getI_none {M : List It} {k : Int} (h : ∀ x ∈ M, x.1 ≠ k) : getI M k = none := by
  cases hg : getI M k with
  | none => rfl
  | some v =>
    obtain ⟨x, hx, e⟩ := getI_some.1 (by rw [hg]; rfl)
    exact absurd e (h x hx)
theorem layL_len_in {M : List It} (hu : Up M) {k v : Int} (h : ∃ x ∈ M, x.1 = k) : (layL M k v).length = M.length := by
  obtain ⟨x, hx, rfl⟩ := h
  obtain ⟨i, hi⟩ := List.mem_iff_getElem?.1 hx
  have hs := split_at hi
  unfold Up at hu
  rw [hs, List.pairwise_append] at hu
  obtain ⟨h1, h2, h3⟩ := hu
  have := layL_split (A := M.take i) (C := [x]) (D := M.drop (i + 1)) (k := x.1) (v := v) (fun y hy => h3 y hy x (by simp)) (by simp) (fun y hy => (List.pairwise_cons.1 h2).1 y hy)
  have e : M = M.take i ++ [x] ++ M.drop (i + 1) := by conv => lhs; rw [hs]
                                                       simp
  rw [← e] at this
  rw [this]
  conv => rhs; rw [hs]
  simp
theorem layL_end {M : List It} {k v : Int} (h : ∀ x ∈ M, x.1 < k) : layL M k v = M ++ [(k, v)] := by
  have := layL_split (A := M) (C := []) (D := []) (k := k) (v := v) h (by simp) (by simp)
  simpa using this
theorem mem_dropL {M : List It} {k : Int} {x : It} : x ∈ dropL M k ↔ x ∈ M ∧ x.1 ≠ k := by
  unfold dropL
  simp [List.mem_filter]
theorem dropL_len {M : List It} (hu : Up M) {k : Int} (h : ∃ x ∈ M, x.1 = k) : (dropL M k).length + 1 = M.length := by
  obtain ⟨x, hx, rfl⟩ := h
  obtain ⟨i, hi⟩ := List.mem_iff_getElem?.1 hx
  have hs := split_at hi
  conv => rhs; rw [hs]
  rw [hs] at hu
  have := dropL_split hu
  rw [← hs] at this
  rw [this]
  simp; omega
theorem dropL_le (M : List It) (k : Int) : (dropL M k).length ≤ M.length := List.length_filter_le _ _
theorem pages_flat {F : Nat → Prop} {w : World} {xb : Nat} {M : List It} (h : Ix F w xb M) :
    Calls Try.prog 16 #[.pointer (some ⟨xb, 0, none⟩)] w fun e w' => ∃ PL, Wf PL ∧ PL.flatten = M ∧ PagesPost w PL e w' := by
  obtain ⟨PL, h, rfl⟩ := h
  exact (pages_any h).mono fun e w' h' => ⟨PL, h.1, rfl, h'⟩
theorem Wf.nil {PL : List (List It)} (h : Wf PL) (he : PL.flatten = []) : PL = [] := by
  have := h.pages
  rw [he] at this
  exact List.eq_nil_of_length_eq_zero (by simpa using this)
def kept1 (P : Int → Prop) (M : List It) : Prop := ∀ x ∈ M, P x.1
set_option maxRecDepth 100000 in
set_option maxHeartbeats 1000000 in
theorem empties_walk (W : World) (args : Array Value) (h : RdAll Try.prog W Try.f7.params.toList args.toList) :
    Calls Try.prog 7 args W fun e W' => e = .returned (.bool true) ∧ Below W.heap.size W W' := by
  rw [Try.params7] at h
  obtain ⟨v0, v1, rfl⟩ : ∃ v0 v1, args = #[v0, v1] := by
    rcases args with ⟨_ | ⟨v0, _ | ⟨v1, _ | ⟨v2, l⟩⟩⟩⟩ <;> simp [RdAll] at h
    exact ⟨v0, v1, rfl⟩
  obtain ⟨r0, r1, _⟩ := h
  obtain ⟨ao, cap, L, rfl, hL, bL⟩ := keys_read r0
  obtain ⟨t, rfl, wt⟩ := r1.int Try.underlying5
  have ht : 0 ≤ t ∧ t ≤ 255 := by
    simp [Lit.wf, IntKind.min, IntKind.max, IntKind.signed, IntKind.bits] at wt; omega
  have HL := hid hL; have BL := hid bL
  clear r0 r1 wt hL bL
  obtain ⟨N, hN⟩ : ∃ N, min L.length 120 = N := ⟨_, rfl⟩
  have hNL : N ≤ L.length := by omega
  have hN1 : N ≤ 120 := by omega
  have hcap : L.length ≤ cap ∧ cap ≤ maxLen := by
    obtain ⟨_, _, e, h1, h2, _⟩ := HL.out
    simp only [Value.slice.injEq] at e
    obtain ⟨_, _, rfl⟩ := e
    exact ⟨h1, h2⟩
  unfold maxLen at hcap
  have hNi : (if (120 : Int) < (L.length : Int) then 120 else (L.length : Int)) = (N : Int) := by split <;> omega
  have HNI := hid hNi; clear hNi hN
  go_enter Try.func7, Try.ntmps7
  go_wp2_with fail
  refine (awake_any _).mono ?_; rintro e w1 ⟨rfl, hk1⟩
  have K1 := hid hk1; clear hk1
  go_wp2_with (refine wpList_min rfl (.tmp 19) (.const (.int .i64 120)) _ rfl (L.length : Int) 120 N rfl rfl HNI.out ?_)
  refine (new_flat w1).mono ?_
  rintro e w2 ⟨rfl, hx2, hk2⟩
  obtain ⟨ab, hab⟩ : ∃ ab, ab = w1.heap.size := ⟨_, rfl⟩
  have K2 := hid (K1.out.trans hk2); have z1 := K1.out.size
  rw [← hab] at hx2 z1 ⊢
  have X2 := hid hx2
  clear hx2 hk2 hab K1
  have hN0 : (0 : Int) < (N : Int) + 1 := by omega
  have wN : IntKind.i64.wrap ((N : Int) + 1) = (N : Int) + 1 := IntWalk.i64_in _ (by omega)
  have wt : IntKind.i64.wrap t = t := IntWalk.i64_in _ (by omega)
  obtain ⟨kk, hkk⟩ : ∃ kk : Nat, t.tmod ((N : Int) + 1) = (kk : Int) ∧ kk ≤ N := by
    refine ⟨(t.tmod ((N : Int) + 1)).toNat, ?_, ?_⟩
    · rw [Int.tmod_eq_emod_of_nonneg ht.1]; have := Int.emod_nonneg t (show ((N : Int) + 1) ≠ 0 by omega); omega
    · rw [Int.tmod_eq_emod_of_nonneg ht.1]; have := Int.emod_lt_of_pos t hN0; omega
  obtain ⟨hk0, hk1⟩ := hkk
  go_wp2_with fail
  go_loopw [7, 25] (fun _ i wr => ∃ (k : Nat) (M : List It), k ≤ N ∧ i = .int .i64 k ∧ Ix (fun g => W.heap.size ≤ g) wr ab M ∧ Kept (fun _ => False) W wr ∧ M.length ≤ k ∧ kept1 (fun a => a ∈ L.take N) M) (fun _ i _ => N - (intOf i).toNat)
  case atStart => exact ⟨0, [], Nat.zero_le _, rfl, X2.out.mono (fun g hg => by omega), K2.out, Nat.le_refl _, fun x hx => by cases hx⟩
  case round =>
    rename World => wA
    obtain ⟨k, M, hk, rfl, hA, hK, hM, hmem⟩ := hrel
    have XA := hid hA; have KA := hid hK; have HME := hid hmem
    clear hA hK hmem
    by_cases hlt : k < N
    · have hltI : (k : Int) < (N : Int) := by omega
      obtain ⟨x, hx⟩ : ∃ x, L[k]? = some x := ⟨_, List.getElem?_eq_getElem (by omega)⟩
      obtain ⟨g1, o1, q1, e1, m1, m2, hnF, _, zc⟩ := HL.out.cell (by omega)
      simp only [Value.slice.injEq] at e1
      obtain ⟨rfl, _, rfl⟩ := e1
      have y0 := zc k _ (kc_at L k x hx)
      clear zc m1 m2 hnF
      have hxb := BL.out x (List.mem_of_getElem? hx)
      have c0 := KA.out.cell y0 (fun h => h)
      have hxm : x ∈ L.take N := List.mem_of_getElem? (i := k) (by rw [List.getElem?_take, if_pos hlt]; exact hx)
      have HXM := hid hxm; clear hx y0 hxm
      go_wp2_with fail
      refine (put_flat (F := fun g => W.heap.size ≤ g) XA.out (fun g hg => by have := KA.out.size; omega) x 1).mono ?_
      rintro e wB ⟨rfl, hA, hk⟩
      rw [putN_ok (by omega)]
      rw [putM_ok (by omega)] at hA
      have XA2 := hid hA; have KB := hid (KA.out.trans' hk (fun g hg => .inr hg))
      have hl := Nat.le_trans (layL_le M x 1) (Nat.succ_le_succ hM)
      clear hA hk
      go_wp2
      go_roundw
      case rel =>
        refine ⟨k + 1, _, by omega, by go_num, XA2.out, KB.out, hl, fun y hy => ?_⟩
        rcases mem_layL.1 hy with rfl | ⟨h, _⟩
        · exact HXM.out
        · exact HME.out y h
      case measure => simp [intOf]; omega
    · obtain rfl : N = k := by omega
      have HMM := hid hM
      clear hM
      go_wp2_with fail
      go_loopw [9, 10, 11, 12, 42] (fun _ _ _ _ i wr => ∃ (k : Nat) (M' : List It), k ≤ N ∧ i = .int .i64 k ∧ Ix (fun g => W.heap.size ≤ g) wr ab M' ∧ Kept (fun _ => False) W wr ∧ kept1 (fun a => a ∈ L.take N ∧ ∀ j, j < k → L[(kk + j) % N]? ≠ some a) M') (fun _ _ _ _ i _ => N - (intOf i).toNat)
      case atStart => exact ⟨0, M, Nat.zero_le _, rfl, XA.out, KA.out, fun x hx => ⟨HME.out x hx, fun j hj => absurd hj (Nat.not_lt_zero _)⟩⟩
      case round =>
        rename World => wB
        obtain ⟨k, M', hk2, rfl, hA, hK, hmem⟩ := hrel
        have YA := hid hA; have KB := hid hK; have HM2 := hid hmem
        clear hA hK hmem
        by_cases hlt : k < N
        · have hltI : (k : Int) < (N : Int) := by omega
          obtain ⟨r, hr⟩ : ∃ r, (kk + k) % N = r := ⟨_, rfl⟩
          have hrN : r < N := by rw [← hr]; exact Nat.mod_lt _ (by omega)
          have hN0' : ((N : Int) == 0) = false := by rw [beq_eq_false_iff_ne]; omega
          have hmod : ((kk : Int) + (k : Int)).tmod (N : Int) = (r : Int) := by
            rw [Int.tmod_eq_emod_of_nonneg (by omega), ← hr, Int.natCast_emod, Int.natCast_add]
          have w5 : IntKind.i64.wrap ((kk : Int) + (k : Int)) = (kk : Int) + (k : Int) := IntWalk.i64_in _ (by omega)
          obtain ⟨x, hx⟩ : ∃ x, L[r]? = some x := ⟨_, List.getElem?_eq_getElem (by omega)⟩
          obtain ⟨g1, o1, q1, e1, m1, m2, hnF, _, zc⟩ := HL.out.cell (by omega)
          simp only [Value.slice.injEq] at e1
          obtain ⟨rfl, _, rfl⟩ := e1
          have y0 := zc r _ (kc_at L r x hx)
          clear zc m1 m2 hnF
          have hxb := BL.out x (List.mem_of_getElem? hx)
          have c0 := KB.out.cell y0 (fun h => h)
          have HX := hid hx; have HR := hid hr; clear hx hr y0
          go_wp2_with fail
          refine (get_flat YA.out x).mono ?_
          rintro e wC ⟨rfl, hk⟩
          have YC := hid (YA.out.same hk); have KC := hid (KB.out.trans hk)
          clear hk
          obtain ⟨gb, hgb⟩ : ∃ gb, (getI M' x).isSome = gb := ⟨_, rfl⟩
          obtain ⟨gv, hgv⟩ : ∃ gv, (getI M' x).getD 0 = gv := ⟨_, rfl⟩
          rw [hgb, hgv]
          have HGB := hid hgb
          clear hgb hgv
          go_wp2_with fail
          refine (del_flat YC.out (fun g hg => by have := KC.out.size; omega) x).mono ?_
          rintro e wD ⟨rfl, hA, hk⟩
          rw [HGB.out]
          have YD := hid hA; have KD := hid (KC.out.trans' hk (fun g hg => .inr hg))
          clear hA hk
          have hrel : kept1 (fun a => a ∈ L.take N ∧ ∀ j, j < k + 1 → L[(kk + j) % N]? ≠ some a) (dropL M' x) := fun y hy => by
            obtain ⟨h1, h2⟩ := mem_dropL.1 hy
            obtain ⟨h3, h4⟩ := HM2.out y h1
            refine ⟨h3, fun j hj => ?_⟩
            by_cases hjk : j = k
            · subst hjk; rw [HR.out, HX.out]; simpa using fun e => h2 e.symm
            · exact h4 j (by omega)
          have HREL := hid hrel; clear hrel
          cases gb with
          | true =>
            go_wp2
            go_roundw
            case rel => exact ⟨k + 1, _, by omega, by go_num, YD.out, KD.out, HREL.out⟩
            case measure => simp [intOf]; omega
          | false =>
            go_wp2
            go_roundw
            case rel => exact ⟨k + 1, _, by omega, by go_num, YD.out, KD.out, HREL.out⟩
            case measure => simp [intOf]; omega
        · obtain rfl : N = k := by omega
          have hnil : M' = [] := by
            cases hM' : M' with
            | nil => rfl
            | cons x _ =>
              obtain ⟨h1, h2⟩ := HM2.out x (by rw [hM']; simp)
              obtain ⟨j, h3, h4⟩ := (rot_all hk1 hNL x.1).2 h1
              exact absurd h4 (h2 j h3)
          subst hnil
          go_wp2_with fail
          refine (next_flat YA.out 0).mono ?_
          rintro e wC ⟨rfl, hk⟩
          rw [show nextI [] 0 = none from rfl]
          simp only [Option.getD_none, Option.isSome_none]
          have KC := hid ((KB.out.trans hk).alloc (.cells #[.int .u64 0, .int .u64 0] 33)); have YC := hid (YA.out.same (hk.alloc (.cells #[.int .u64 0, .int .u64 0] 33)))
          clear hk
          go_wp2_with fail
          refine (len_flat YC.out).mono ?_
          rintro e wD ⟨rfl, hk⟩
          have KD := hid (KC.out.trans hk); have YD := hid (YC.out.same hk)
          clear hk
          go_wp2_with fail
          refine (pages_flat YD.out).mono ?_
          rintro e wE ⟨PL, hwf, hfl, a, c, vs, rfl, _, hk⟩
          obtain rfl := hwf.nil hfl
          have KE := hid (KD.out.trans hk); have YE := hid (YD.out.same hk)
          clear hk
          go_wp2_with fail
          refine (range_flat YE.out 0 18446744073709551615).mono ?_
          rintro e wF ⟨a1, c1, rfl, _, _, hk⟩
          have KF := hid (KE.out.trans hk)
          clear hk
          rw [show rangeI [] 0 18446744073709551615 = [] from rfl]
          go_wp2
          go_ret
          exact ⟨rfl, KF.out.below (Nat.le_refl _) (fun _ h => h.elim)⟩
end Go.Proofs.Ytfmohmlpcielnaa
