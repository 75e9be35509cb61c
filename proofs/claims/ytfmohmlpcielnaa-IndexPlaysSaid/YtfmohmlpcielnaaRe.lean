/- IndexMany: the walk. -/
import Derived.Test.YtfmohmlpcielnaaRd
namespace Go.Proofs.Ytfmohmlpcielnaa
open Go.RowKit
theorem wf16 {n : Int} (h : (Lit.int .u16 n).wf = true) : 0 ≤ n ∧ n ≤ 65535 := by
  simp [Lit.wf, IntKind.min, IntKind.max, IntKind.signed, IntKind.bits] at h; omega
set_option maxRecDepth 100000 in
set_option maxHeartbeats 2000000 in
theorem many_walk (W : World) (args : Array Value) (h : RdAll Try.prog W Try.f4.params.toList args.toList) :
    Calls Try.prog 4 args W fun e W' => e = .returned (.bool true) ∧ Below W.heap.size W W' := by
  rw [Try.params4] at h
  obtain ⟨v0, v1, v2, rfl⟩ : ∃ v0 v1 v2, args = #[v0, v1, v2] := by
    rcases args with ⟨_ | ⟨v0, _ | ⟨v1, _ | ⟨v2, _ | ⟨v3, l⟩⟩⟩⟩⟩ <;> simp [RdAll] at h
    exact ⟨v0, v1, v2, rfl⟩
  obtain ⟨r0, r1, r2, _⟩ := h
  obtain ⟨seed, rfl, w0⟩ := r0.int Try.underlying26
  obtain ⟨n, rfl, w1⟩ := r1.int Try.underlying37
  obtain ⟨turn, rfl, w2⟩ := r2.int Try.underlying26
  obtain ⟨hs0, hs1⟩ := wf64 w0
  obtain ⟨hn0, hn1⟩ := wf16 w1
  obtain ⟨ht0, ht1⟩ := wf64 w2
  clear r0 r1 r2 w0 w1 w2
  obtain ⟨C, hC⟩ : ∃ C : Nat, (20 : Int) + n.tmod 200 = (C : Int) ∧ C ≤ 1000 := by
    have h1 := Int.emod_nonneg n (show (200 : Int) ≠ 0 by omega)
    have h2 := Int.emod_lt_of_pos n (show (0 : Int) < 200 by omega)
    refine ⟨((20 : Int) + n.tmod 200).toNat, ?_, ?_⟩ <;> rw [Int.tmod_eq_emod_of_nonneg hn0] <;> omega
  obtain ⟨hC1, hC2⟩ := hC
  have wm : IntKind.i64.wrap (n.tmod 200) = n.tmod 200 := IntWalk.i64_in _ (by
    have h1 := Int.emod_nonneg n (show (200 : Int) ≠ 0 by omega)
    have h2 := Int.emod_lt_of_pos n (show (0 : Int) < 200 by omega)
    rw [Int.tmod_eq_emod_of_nonneg hn0]; omega)
  have wC : IntKind.i64.wrap (20 + n.tmod 200) = (C : Int) := by rw [hC1]; exact IntWalk.i64_in _ (by omega)
  go_enter Try.func4, Try.ntmps4
  go_wp2_with fail
  refine (awake_any _).mono ?_; rintro e w1 ⟨rfl, hk1⟩
  have K1 := hid hk1; clear hk1
  go_wp2_with fail
  refine (new_flat w1).mono ?_
  rintro e w2 ⟨rfl, hx2, hk2⟩
  obtain ⟨xb, hxb⟩ : ∃ xb, xb = w1.heap.size := ⟨_, rfl⟩
  have K2 := hid (K1.out.trans hk2); have z1 := K1.out.size
  rw [← hxb] at hx2 z1 ⊢
  have X2 := hid (XY.start K2.out hx2 z1 (.slice none 0 0) rfl)
  have hCe : (20 : Int) + n % 200 = (C : Int) := by rw [← hC1, Int.tmod_eq_emod_of_nonneg hn0]
  have HC := hid hCe
  clear hx2 hk2 hxb K1 hC1 hCe
  obtain ⟨yb, hyb⟩ : ∃ yb, w2.heap.size = yb := ⟨_, rfl⟩
  rw [hyb] at X2
  have HYB := hid hyb; clear hyb
  go_wp2_with fail
  rw [HC.out, HYB.out]
  go_loopw [10, 11, 24] (fun _ _ i wr => ∃ (k : Nat) (M : List It), k ≤ C ∧ i = .int .i64 k ∧ XY W wr xb yb M M) (fun _ _ i _ => C - (intOf i).toNat)
  case atStart => exact ⟨0, [], Nat.zero_le _, rfl, X2.out⟩
  case round =>
    rename World => wA
    obtain ⟨k, M, hk, rfl, hx⟩ := hrel
    have X := hid hx
    clear hx
    by_cases hlt : k < C
    · have hltI : (k : Int) < (C : Int) := by omega
      go_wp2_with fail
      refine (X.out.putx _ _).mono ?_
      rintro e wB ⟨rfl, hx⟩
      have XB := hid hx; clear hx
      go_wp2_with fail
      refine (XB.out.puty (by have := X.out.lenA; omega) X.out.upA _ _).mono ?_
      rintro e wC ⟨rfl, hx⟩
      have XC := hid hx; clear hx
      go_wp2
      go_roundw
      case rel => exact ⟨k + 1, _, by omega, by go_num, XC.out⟩
      case measure => simp [intOf]; omega
    · obtain rfl : k = C := by omega
      have HM := hid X.out.lenA
      obtain ⟨v, cv, sv⟩ := X.out.cell
      have SV := hid sv; clear sv
      go_wp2_with fail
      refine wp_region_till (fun w' => w'.cell? ⟨yb, 0, none⟩ = some v) 6 (by kernel_rfl) cv (fun hHeld => ?_)
      refine till_pure 0 (some 48) (v := ?v100) (by decide) rfl (by kernel_rfl) (by kernel_rfl) (by kernel_rfl) (by kernel_rfl) (by decide) (fun _ _ _ h => h) (Or.inl ⟨by rfl, ?y100⟩) (by assumption) ?r100
      case y100 => (intro w hSw; clear hSw; go_simp; (try with_reducible rfl))
      simp only [Act.put, List.setIfInBounds_toArray, List.set_cons_zero, List.set_cons_succ]
      refine till_pure 2 (some 50) (v := ?v101) (by decide) rfl (by kernel_rfl) (by kernel_rfl) (by kernel_rfl) (by kernel_rfl) (by decide) (fun _ _ _ h => h) (Or.inl ⟨by rfl, ?y101⟩) (by assumption) ?r101
      case y101 => (intro w hSw; clear hSw; go_simp; (try with_reducible rfl))
      simp only [Act.put, List.setIfInBounds_toArray, List.set_cons_zero, List.set_cons_succ]
      refine till_pure 3 (some 51) (v := ?v102) (by decide) rfl (by kernel_rfl) (by kernel_rfl) (by kernel_rfl) (by kernel_rfl) (by decide) (fun _ _ _ h => h) (Or.inl ⟨by rfl, ?y102⟩) (by assumption) ?r102
      case y102 => (intro w hSw; clear hSw; go_simp; (try with_reducible rfl))
      simp only [Act.put, List.setIfInBounds_toArray, List.set_cons_zero, List.set_cons_succ]
      refine till_pure 4 (some 52) (v := ?v103) (by decide) rfl (by kernel_rfl) (by kernel_rfl) (by kernel_rfl) (by kernel_rfl) (by decide) (fun _ _ _ h => h) (Or.inl ⟨by rfl, ?y103⟩) (by assumption) ?r103
      case y103 => (intro w hSw; clear hSw; go_simp; (try with_reducible rfl))
      simp only [Act.put, List.setIfInBounds_toArray, List.set_cons_zero, List.set_cons_succ]
      refine till_load 5 (some 53) [] (v := ?v104) (by decide) rfl (by kernel_rfl) (by kernel_rfl) (by kernel_rfl) (by kernel_rfl) (by kernel_rfl) (by decide) (by decide) (fun _ _ _ h => h) (Or.inl ⟨by rfl, ?y104⟩) (by assumption) ?r104
      case y104 => (intro w hSw; (try dsimp only at hSw); go_simp; (try with_reducible rfl))
      simp only [Act.put, List.setIfInBounds_toArray, List.set_cons_zero, List.set_cons_succ]
      refine till_call 1 (by kernel_rfl) rfl (fun K hK => ?_)
      go_simp
      obtain ⟨F, hix⟩ := X.out.ix
      refine (pages_flat (by exact hix.same (Kept.drew (Kept.refl _ _)))).mono ?_
      rintro e wB ⟨PL, hwf, hfl, a, c, vs, rfl, hP, hk⟩
      have hk' : Kept (fun _ => False) wA wB := ((Kept.refl _ _).drew).trans hk
      have hP' : PagesAt wA wB (.slice a PL.length c) PL vs := ⟨hP.s, hP.f, hP.p⟩
      have P := hid hP'; have WF := hid hwf; have FL := hid hfl; have KP := hid hk'
      clear hP hwf hfl hk hk' hP' hix
      have cv2 := KP.out.cell cv (fun h => h)
      try dsimp only []
      refine hK.out _ _ (by exact cv2) (fun hHeld => ?_)
      clear hK K
      try simp only [Act.put, List.setIfInBounds_toArray, List.set_cons_zero, List.set_cons_succ]
      clear hHeld cv
      refine till_list [7] (by kernel_rfl) (by kernel_rfl) (by decide) (by decide) ?_
      simp only [pickOps, List.getElem?_toArray, List.getElem?_cons_zero, List.getElem?_cons_succ]
      have HMB := hid (show PL.flatten.length ≤ 1000000 by rw [FL.out]; have := HM.out; omega)
      go_wp2_with fail
      refine (paged_any P.out WF.out (by rw [FL.out]; exact SV.out.same KP.out) HMB.out).mono ?_
      rintro e wC ⟨rfl, hk⟩
      have XC := hid ((X.out.kept0 KP.out).kept0 hk)
      clear hk cv2 X2 HYB
      go_wp2_with fail
      go_loopw [12, 13, 57] (fun _ _ i wr => ∃ (q : Nat) (M : List It), q ≤ k ∧ i = .int .i64 q ∧ XY W wr xb yb M M) (fun _ _ i _ => k - (intOf i).toNat)
      case atStart => exact ⟨0, M, Nat.zero_le _, rfl, XC.out⟩
      case round =>
        clear P WF FL KP SV HM HMB XC X
        rename World => wD
        obtain ⟨q, M2, hq, rfl, hx⟩ := hrel
        have X := hid hx
        clear hx
        by_cases hlt : q < k
        · have hltI : (q : Int) < (k : Int) := by omega
          obtain ⟨bq, hbq⟩ : ∃ bq, ((q : Int).tmod 16 == 0) = bq := ⟨_, rfl⟩
          cases bq with
          | true =>
            go_wp2_with fail
            refine wp_region_till (fun _ => True) 18 (by kernel_rfl) trivial (fun hHeld => ?_)
            refine till_pure 0 (some 66) (v := ?v110) (by decide) rfl (by kernel_rfl) (by kernel_rfl) (by kernel_rfl) (by kernel_rfl) (by decide) (fun _ _ _ h => h) (Or.inl ⟨by rfl, ?y110⟩) (by assumption) ?r110
            case y110 => (intro w hSw; clear hSw; go_simp; (try with_reducible rfl))
            simp only [Act.put, List.setIfInBounds_toArray, List.set_cons_zero, List.set_cons_succ]
            refine till_pure 1 (some 67) (v := ?v111) (by decide) rfl (by kernel_rfl) (by kernel_rfl) (by kernel_rfl) (by kernel_rfl) (by decide) (fun _ _ _ h => h) (Or.inl ⟨by rfl, ?y111⟩) (by assumption) ?r111
            case y111 => (intro w hSw; clear hSw; go_simp; (try with_reducible rfl))
            simp only [Act.put, List.setIfInBounds_toArray, List.set_cons_zero, List.set_cons_succ]
            refine till_pure 3 (some 69) (v := ?v112) (by decide) rfl (by kernel_rfl) (by kernel_rfl) (by kernel_rfl) (by kernel_rfl) (by decide) (fun _ _ _ h => h) (Or.inl ⟨by rfl, ?y112⟩) (by assumption) ?r112
            case y112 => (intro w hSw; clear hSw; go_simp; (try with_reducible rfl))
            simp only [Act.put, List.setIfInBounds_toArray, List.set_cons_zero, List.set_cons_succ]
            refine till_pure 4 (some 70) (v := ?v113) (by decide) rfl (by kernel_rfl) (by kernel_rfl) (by kernel_rfl) (by kernel_rfl) (by decide) (fun _ _ _ h => h) (Or.inl ⟨by rfl, ?y113⟩) (by assumption) ?r113
            case y113 => (intro w hSw; clear hSw; go_simp; (try with_reducible rfl))
            simp only [Act.put, List.setIfInBounds_toArray, List.set_cons_zero, List.set_cons_succ]
            refine till_call 2 (by kernel_rfl) rfl (fun K hK => ?_)
            go_simp
            refine (XY.delx (by exact X.out.kept0 ((Kept.refl _ _).drew)) _).mono ?_
            rintro e wE ⟨rfl, hx⟩
            have XE := hid hx; clear hx
            try dsimp only []
            refine hK.out _ _ (by exact trivial) (fun hHeld => ?_)
            clear hK K
            try simp only [Act.put, List.setIfInBounds_toArray, List.set_cons_zero, List.set_cons_succ]
            refine till_call 5 (by kernel_rfl) rfl (fun K hK => ?_)
            go_simp
            refine (XE.out.dely (by have := X.out.lenA; omega) X.out.upA _).mono ?_
            rintro e wF ⟨rfl, hx⟩
            have XF := hid hx; clear hx
            try dsimp only []
            refine hK.out _ _ (by exact trivial) (fun hHeld => ?_)
            clear hK K
            try simp only [Act.put, List.setIfInBounds_toArray, List.set_cons_zero, List.set_cons_succ]
            refine till_pure 6 (some 72) (v := ?v114) (by decide) rfl (by kernel_rfl) (by kernel_rfl) (by kernel_rfl) (by kernel_rfl) (by decide) (fun _ _ _ h => h) (Or.inl ⟨by rfl, ?y114⟩) (by assumption) ?r114
            case y114 => (intro w hSw; clear hSw; go_simp; (try with_reducible rfl))
            simp only [Act.put, List.setIfInBounds_toArray, List.set_cons_zero, List.set_cons_succ]
            refine till_pure 7 (some 73) (v := ?v115) (by decide) rfl (by kernel_rfl) (by kernel_rfl) (by kernel_rfl) (by kernel_rfl) (by decide) (fun _ _ _ h => h) (Or.inl ⟨by rfl, ?y115⟩) (by assumption) ?r115
            case y115 => (intro w hSw; clear hSw; go_simp; (try with_reducible rfl))
            simp only [Act.put, List.setIfInBounds_toArray, List.set_cons_zero, List.set_cons_succ]
            refine till_pure 8 (some 74) (v := ?v116) (by decide) rfl (by kernel_rfl) (by kernel_rfl) (by kernel_rfl) (by kernel_rfl) (by decide) (fun _ _ _ h => h) (Or.inl ⟨by rfl, ?y116⟩) (by assumption) ?r116
            case y116 => (intro w hSw; clear hSw; go_simp; (try with_reducible rfl))
            simp only [Act.put, List.setIfInBounds_toArray, List.set_cons_zero, List.set_cons_succ]
            refine till_pure 9 (some 75) (v := ?v117) (by decide) rfl (by kernel_rfl) (by kernel_rfl) (by kernel_rfl) (by kernel_rfl) (by decide) (fun _ _ _ h => h) (Or.inl ⟨by rfl, ?y117⟩) (by assumption) ?r117
            case y117 => (intro w hSw; clear hSw; go_simp; (try with_reducible rfl))
            simp only [Act.put, List.setIfInBounds_toArray, List.set_cons_zero, List.set_cons_succ]
            refine till_pure 10 (some 76) (v := ?v118) (by decide) rfl (by kernel_rfl) (by kernel_rfl) (by kernel_rfl) (by kernel_rfl) (by decide) (fun _ _ _ h => h) (Or.inl ⟨by rfl, ?y118⟩) (by assumption) ?r118
            case y118 => (intro w hSw; clear hSw; go_simp; (try with_reducible rfl))
            simp only [Act.put, List.setIfInBounds_toArray, List.set_cons_zero, List.set_cons_succ]
            refine till_pure 11 (some 77) (v := ?v119) (by decide) rfl (by kernel_rfl) (by kernel_rfl) (by kernel_rfl) (by kernel_rfl) (by decide) (fun _ _ _ h => h) (Or.inl ⟨by rfl, ?y119⟩) (by assumption) ?r119
            case y119 => (intro w hSw; clear hSw; go_simp; (try with_reducible rfl))
            simp only [Act.put, List.setIfInBounds_toArray, List.set_cons_zero, List.set_cons_succ]
            refine till_pure 12 (some 78) (v := ?v120) (by decide) rfl (by kernel_rfl) (by kernel_rfl) (by kernel_rfl) (by kernel_rfl) (by decide) (fun _ _ _ h => h) (Or.inl ⟨by rfl, ?y120⟩) (by assumption) ?r120
            case y120 => (intro w hSw; clear hSw; go_simp; (try with_reducible rfl))
            simp only [Act.put, List.setIfInBounds_toArray, List.set_cons_zero, List.set_cons_succ]
            refine till_pure 14 (some 80) (v := ?v121) (by decide) rfl (by kernel_rfl) (by kernel_rfl) (by kernel_rfl) (by kernel_rfl) (by decide) (fun _ _ _ h => h) (Or.inl ⟨by rfl, ?y121⟩) (by assumption) ?r121
            case y121 => (intro w hSw; clear hSw; go_simp; (try with_reducible rfl))
            simp only [Act.put, List.setIfInBounds_toArray, List.set_cons_zero, List.set_cons_succ]
            refine till_pure 15 (some 81) (v := ?v122) (by decide) rfl (by kernel_rfl) (by kernel_rfl) (by kernel_rfl) (by kernel_rfl) (by decide) (fun _ _ _ h => h) (Or.inl ⟨by rfl, ?y122⟩) (by assumption) ?r122
            case y122 => (intro w hSw; clear hSw; go_simp; (try with_reducible rfl))
            simp only [Act.put, List.setIfInBounds_toArray, List.set_cons_zero, List.set_cons_succ]
            refine till_pure 16 (some 82) (v := ?v123) (by decide) rfl (by kernel_rfl) (by kernel_rfl) (by kernel_rfl) (by kernel_rfl) (by decide) (fun _ _ _ h => h) (Or.inl ⟨by rfl, ?y123⟩) (by assumption) ?r123
            case y123 => (intro w hSw; clear hSw; go_simp; (try with_reducible rfl))
            simp only [Act.put, List.setIfInBounds_toArray, List.set_cons_zero, List.set_cons_succ]
            obtain ⟨v, cv, sv⟩ := XF.out.cell
            have SV := hid sv; clear sv hHeld
            refine wpAnyT_mono (S1 := fun w' => w'.cell? ⟨yb, 0, none⟩ = some v) (fun _ _ => trivial) _ _ _ _ ?_
            have hHeld : (fun w' : World => w'.cell? ⟨yb, 0, none⟩ = some v) wF := cv
            refine till_load 17 (some 83) [] (v := ?v124) (by decide) rfl (by kernel_rfl) (by kernel_rfl) (by kernel_rfl) (by kernel_rfl) (by kernel_rfl) (by decide) (by decide) (fun _ _ _ h => h) (Or.inl ⟨by rfl, ?y124⟩) (by assumption) ?r124
            case y124 => (intro w hSw; (try dsimp only at hSw); go_simp; (try with_reducible rfl))
            simp only [Act.put, List.setIfInBounds_toArray, List.set_cons_zero, List.set_cons_succ]
            refine till_call 13 (by kernel_rfl) rfl (fun K hK => ?_)
            go_simp
            obtain ⟨F, hix⟩ := XF.out.ix
            refine (pages_flat hix).mono ?_
            rintro e wG ⟨PL, hwf, hfl, a, c, vs, rfl, hP, hk⟩
            have P := hid hP; have WF := hid hwf; have FL := hid hfl; have KP := hid hk
            clear hP hwf hfl hk hix
            have cv2 := KP.out.cell cv (fun h => h)
            try dsimp only []
            refine hK.out _ _ (by exact cv2) (fun hHeld => ?_)
            clear hK K
            try simp only [Act.put, List.setIfInBounds_toArray, List.set_cons_zero, List.set_cons_succ]
            clear hHeld cv
            refine till_list [19, 20, 21] (by kernel_rfl) (by kernel_rfl) (by decide) (by decide) ?_
            simp only [pickOps, List.getElem?_toArray, List.getElem?_cons_zero, List.getElem?_cons_succ]
            have HMB := hid (show PL.flatten.length ≤ 1000000 by rw [FL.out]; have := XF.out.lenA; omega)
            go_wp2_with fail
            refine (paged_any P.out WF.out (by rw [FL.out]; exact SV.out.same KP.out) HMB.out).mono ?_
            rintro e wH ⟨rfl, hk⟩
            have XH := hid ((XF.out.kept0 KP.out).kept0 hk)
            clear hk cv2
            go_wp2
            go_roundw
            case rel => exact ⟨q + 1, _, by omega, by go_num, XH.out⟩
            case measure => simp [intOf]; omega
          | false =>
            go_wp2_with fail
            refine wp_region_till (fun _ => True) 100 (by kernel_rfl) trivial (fun hHeld => ?_)
            refine till_pure 0 (some 66) (v := ?v210) (by decide) rfl (by kernel_rfl) (by kernel_rfl) (by kernel_rfl) (by kernel_rfl) (by decide) (fun _ _ _ h => h) (Or.inl ⟨by rfl, ?y210⟩) (by assumption) ?r210
            case y210 => (intro w hSw; clear hSw; go_simp; (try with_reducible rfl))
            simp only [Act.put, List.setIfInBounds_toArray, List.set_cons_zero, List.set_cons_succ]
            refine till_pure 1 (some 67) (v := ?v211) (by decide) rfl (by kernel_rfl) (by kernel_rfl) (by kernel_rfl) (by kernel_rfl) (by decide) (fun _ _ _ h => h) (Or.inl ⟨by rfl, ?y211⟩) (by assumption) ?r211
            case y211 => (intro w hSw; clear hSw; go_simp; (try with_reducible rfl))
            simp only [Act.put, List.setIfInBounds_toArray, List.set_cons_zero, List.set_cons_succ]
            refine till_pure 3 (some 69) (v := ?v212) (by decide) rfl (by kernel_rfl) (by kernel_rfl) (by kernel_rfl) (by kernel_rfl) (by decide) (fun _ _ _ h => h) (Or.inl ⟨by rfl, ?y212⟩) (by assumption) ?r212
            case y212 => (intro w hSw; clear hSw; go_simp; (try with_reducible rfl))
            simp only [Act.put, List.setIfInBounds_toArray, List.set_cons_zero, List.set_cons_succ]
            refine till_pure 4 (some 70) (v := ?v213) (by decide) rfl (by kernel_rfl) (by kernel_rfl) (by kernel_rfl) (by kernel_rfl) (by decide) (fun _ _ _ h => h) (Or.inl ⟨by rfl, ?y213⟩) (by assumption) ?r213
            case y213 => (intro w hSw; clear hSw; go_simp; (try with_reducible rfl))
            simp only [Act.put, List.setIfInBounds_toArray, List.set_cons_zero, List.set_cons_succ]
            refine till_call 2 (by kernel_rfl) rfl (fun K hK => ?_)
            go_simp
            refine (XY.delx (by exact X.out.kept0 ((Kept.refl _ _).drew)) _).mono ?_
            rintro e wE ⟨rfl, hx⟩
            have XE := hid hx; clear hx
            try dsimp only []
            refine hK.out _ _ (by exact trivial) (fun hHeld => ?_)
            clear hK K
            try simp only [Act.put, List.setIfInBounds_toArray, List.set_cons_zero, List.set_cons_succ]
            refine till_call 5 (by kernel_rfl) rfl (fun K hK => ?_)
            go_simp
            refine (XE.out.dely (by have := X.out.lenA; omega) X.out.upA _).mono ?_
            rintro e wF ⟨rfl, hx⟩
            have XF := hid hx; clear hx
            try dsimp only []
            refine hK.out _ _ (by exact trivial) (fun hHeld => ?_)
            clear hK K
            try simp only [Act.put, List.setIfInBounds_toArray, List.set_cons_zero, List.set_cons_succ]
            refine till_pure 6 (some 72) (v := ?v214) (by decide) rfl (by kernel_rfl) (by kernel_rfl) (by kernel_rfl) (by kernel_rfl) (by decide) (fun _ _ _ h => h) (Or.inl ⟨by rfl, ?y214⟩) (by assumption) ?r214
            case y214 => (intro w hSw; clear hSw; go_simp; (try with_reducible rfl))
            simp only [Act.put, List.setIfInBounds_toArray, List.set_cons_zero, List.set_cons_succ]
            refine till_pure 7 (some 73) (v := ?v215) (by decide) rfl (by kernel_rfl) (by kernel_rfl) (by kernel_rfl) (by kernel_rfl) (by decide) (fun _ _ _ h => h) (Or.inl ⟨by rfl, ?y215⟩) (by assumption) ?r215
            case y215 => (intro w hSw; clear hSw; go_simp; (try with_reducible rfl))
            simp only [Act.put, List.setIfInBounds_toArray, List.set_cons_zero, List.set_cons_succ]
            refine till_pure 8 (some 74) (v := ?v216) (by decide) rfl (by kernel_rfl) (by kernel_rfl) (by kernel_rfl) (by kernel_rfl) (by decide) (fun _ _ _ h => h) (Or.inl ⟨by rfl, ?y216⟩) (by assumption) ?r216
            case y216 => (intro w hSw; clear hSw; go_simp; (try with_reducible rfl))
            simp only [Act.put, List.setIfInBounds_toArray, List.set_cons_zero, List.set_cons_succ]
            refine till_pure 9 (some 75) (v := ?v217) (by decide) rfl (by kernel_rfl) (by kernel_rfl) (by kernel_rfl) (by kernel_rfl) (by decide) (fun _ _ _ h => h) (Or.inl ⟨by rfl, ?y217⟩) (by assumption) ?r217
            case y217 => (intro w hSw; clear hSw; go_simp; (try with_reducible rfl))
            simp only [Act.put, List.setIfInBounds_toArray, List.set_cons_zero, List.set_cons_succ]
            refine till_pure 10 (some 76) (v := ?v218) (by decide) rfl (by kernel_rfl) (by kernel_rfl) (by kernel_rfl) (by kernel_rfl) (by decide) (fun _ _ _ h => h) (Or.inl ⟨by rfl, ?y218⟩) (by assumption) ?r218
            case y218 => (intro w hSw; clear hSw; go_simp; (try with_reducible rfl))
            simp only [Act.put, List.setIfInBounds_toArray, List.set_cons_zero, List.set_cons_succ]
            refine till_pure 11 (some 77) (v := ?v219) (by decide) rfl (by kernel_rfl) (by kernel_rfl) (by kernel_rfl) (by kernel_rfl) (by decide) (fun _ _ _ h => h) (Or.inl ⟨by rfl, ?y219⟩) (by assumption) ?r219
            case y219 => (intro w hSw; clear hSw; go_simp; (try with_reducible rfl))
            simp only [Act.put, List.setIfInBounds_toArray, List.set_cons_zero, List.set_cons_succ]
            refine till_pure 12 (some 78) (v := undef) (by decide) rfl (by kernel_rfl) (by kernel_rfl) (by kernel_rfl) (by kernel_rfl) (by decide) (fun _ _ _ h => h) (Or.inr ⟨by rfl, rfl⟩) (by assumption) ?_
            simp only [Act.put, List.setIfInBounds_toArray, List.set_cons_zero, List.set_cons_succ]
            refine till_pure 13 (some 79) (v := undef) (by decide) rfl (by kernel_rfl) (by kernel_rfl) (by kernel_rfl) (by kernel_rfl) (by decide) (fun _ _ _ h => h) (Or.inr ⟨by rfl, rfl⟩) (by assumption) ?_
            simp only [Act.put, List.setIfInBounds_toArray, List.set_cons_zero, List.set_cons_succ]
            refine till_pure 14 (some 80) (v := undef) (by decide) rfl (by kernel_rfl) (by kernel_rfl) (by kernel_rfl) (by kernel_rfl) (by decide) (fun _ _ _ h => h) (Or.inr ⟨by rfl, rfl⟩) (by assumption) ?_
            simp only [Act.put, List.setIfInBounds_toArray, List.set_cons_zero, List.set_cons_succ]
            refine till_pure 15 (some 81) (v := undef) (by decide) rfl (by kernel_rfl) (by kernel_rfl) (by kernel_rfl) (by kernel_rfl) (by decide) (fun _ _ _ h => h) (Or.inr ⟨by rfl, rfl⟩) (by assumption) ?_
            simp only [Act.put, List.setIfInBounds_toArray, List.set_cons_zero, List.set_cons_succ]
            refine till_pure 16 (some 82) (v := undef) (by decide) rfl (by kernel_rfl) (by kernel_rfl) (by kernel_rfl) (by kernel_rfl) (by decide) (fun _ _ _ h => h) (Or.inr ⟨by rfl, rfl⟩) (by assumption) ?_
            simp only [Act.put, List.setIfInBounds_toArray, List.set_cons_zero, List.set_cons_succ]
            refine till_pure 17 (some 83) (v := undef) (by decide) rfl (by kernel_rfl) (by kernel_rfl) (by kernel_rfl) (by kernel_rfl) (by decide) (fun _ _ _ h => h) (Or.inr ⟨by rfl, rfl⟩) (by assumption) ?_
            simp only [Act.put, List.setIfInBounds_toArray, List.set_cons_zero, List.set_cons_succ]
            refine till_pure 18 (some 84) (v := undef) (by decide) rfl (by kernel_rfl) (by kernel_rfl) (by kernel_rfl) (by kernel_rfl) (by decide) (fun _ _ _ h => h) (Or.inr ⟨by rfl, rfl⟩) (by assumption) ?_
            simp only [Act.put, List.setIfInBounds_toArray, List.set_cons_zero, List.set_cons_succ]
            refine till_pure 19 (some 85) (v := undef) (by decide) rfl (by kernel_rfl) (by kernel_rfl) (by kernel_rfl) (by kernel_rfl) (by decide) (fun _ _ _ h => h) (Or.inr ⟨by rfl, rfl⟩) (by assumption) ?_
            simp only [Act.put, List.setIfInBounds_toArray, List.set_cons_zero, List.set_cons_succ]
            refine till_pure 20 (some 86) (v := ?v220) (by decide) rfl (by kernel_rfl) (by kernel_rfl) (by kernel_rfl) (by kernel_rfl) (by decide) (fun _ _ _ h => h) (Or.inl ⟨by rfl, ?y220⟩) (by assumption) ?r220
            case y220 => (intro w hSw; clear hSw; go_simp; (try with_reducible rfl))
            simp only [Act.put, List.setIfInBounds_toArray, List.set_cons_zero, List.set_cons_succ]
            refine till_pure 21 (some 87) (v := ?v221) (by decide) rfl (by kernel_rfl) (by kernel_rfl) (by kernel_rfl) (by kernel_rfl) (by decide) (fun _ _ _ h => h) (Or.inl ⟨by rfl, ?y221⟩) (by assumption) ?r221
            case y221 => (intro w hSw; clear hSw; go_simp; (try with_reducible rfl))
            simp only [Act.put, List.setIfInBounds_toArray, List.set_cons_zero, List.set_cons_succ]
            refine till_done (by kernel_rfl) ?_ _
            clear hHeld
            go_wp2
            go_roundw
            case rel => exact ⟨q + 1, _, by omega, by go_num, XF.out⟩
            case measure => simp [intOf]; omega
        · obtain rfl : q = k := by omega
          have HM := hid X.out.lenA
          obtain ⟨v, cv, sv⟩ := X.out.cell
          have SV := hid sv; clear sv
          go_wp2_with fail
          refine wp_region_till (fun w' => w'.cell? ⟨yb, 0, none⟩ = some v) 6 (by kernel_rfl) cv (fun hHeld => ?_)
          refine till_pure 0 (some 89) (v := ?v130) (by decide) rfl (by kernel_rfl) (by kernel_rfl) (by kernel_rfl) (by kernel_rfl) (by decide) (fun _ _ _ h => h) (Or.inl ⟨by rfl, ?y130⟩) (by assumption) ?r130
          case y130 => (intro w hSw; clear hSw; go_simp; (try with_reducible rfl))
          simp only [Act.put, List.setIfInBounds_toArray, List.set_cons_zero, List.set_cons_succ]
          refine till_pure 2 (some 91) (v := ?v131) (by decide) rfl (by kernel_rfl) (by kernel_rfl) (by kernel_rfl) (by kernel_rfl) (by decide) (fun _ _ _ h => h) (Or.inl ⟨by rfl, ?y131⟩) (by assumption) ?r131
          case y131 => (intro w hSw; clear hSw; go_simp; (try with_reducible rfl))
          simp only [Act.put, List.setIfInBounds_toArray, List.set_cons_zero, List.set_cons_succ]
          refine till_pure 3 (some 92) (v := ?v132) (by decide) rfl (by kernel_rfl) (by kernel_rfl) (by kernel_rfl) (by kernel_rfl) (by decide) (fun _ _ _ h => h) (Or.inl ⟨by rfl, ?y132⟩) (by assumption) ?r132
          case y132 => (intro w hSw; clear hSw; go_simp; (try with_reducible rfl))
          simp only [Act.put, List.setIfInBounds_toArray, List.set_cons_zero, List.set_cons_succ]
          refine till_pure 4 (some 93) (v := ?v133) (by decide) rfl (by kernel_rfl) (by kernel_rfl) (by kernel_rfl) (by kernel_rfl) (by decide) (fun _ _ _ h => h) (Or.inl ⟨by rfl, ?y133⟩) (by assumption) ?r133
          case y133 => (intro w hSw; clear hSw; go_simp; (try with_reducible rfl))
          simp only [Act.put, List.setIfInBounds_toArray, List.set_cons_zero, List.set_cons_succ]
          refine till_load 5 (some 94) [] (v := ?v134) (by decide) rfl (by kernel_rfl) (by kernel_rfl) (by kernel_rfl) (by kernel_rfl) (by kernel_rfl) (by decide) (by decide) (fun _ _ _ h => h) (Or.inl ⟨by rfl, ?y134⟩) (by assumption) ?r134
          case y134 => (intro w hSw; (try dsimp only at hSw); go_simp; (try with_reducible rfl))
          simp only [Act.put, List.setIfInBounds_toArray, List.set_cons_zero, List.set_cons_succ]
          refine till_call 1 (by kernel_rfl) rfl (fun K hK => ?_)
          go_simp
          obtain ⟨F, hix⟩ := X.out.ix
          refine (pages_flat (by exact hix.same (Kept.drew (Kept.refl _ _)))).mono ?_
          rintro e wB ⟨PL, hwf, hfl, a, c, vs, rfl, hP, hk⟩
          have hk' : Kept (fun _ => False) wD wB := ((Kept.refl _ _).drew).trans hk
          have hP' : PagesAt wD wB (.slice a PL.length c) PL vs := ⟨hP.s, hP.f, hP.p⟩
          have P := hid hP'; have WF := hid hwf; have FL := hid hfl; have KP := hid hk'
          clear hP hwf hfl hk hk' hP' hix
          have cv2 := KP.out.cell cv (fun h => h)
          try dsimp only []
          refine hK.out _ _ (by exact cv2) (fun hHeld => ?_)
          clear hK K
          try simp only [Act.put, List.setIfInBounds_toArray, List.set_cons_zero, List.set_cons_succ]
          clear hHeld cv
          refine till_list [7] (by kernel_rfl) (by kernel_rfl) (by decide) (by decide) ?_
          simp only [pickOps, List.getElem?_toArray, List.getElem?_cons_zero, List.getElem?_cons_succ]
          have HMB := hid (show PL.flatten.length ≤ 1000000 by rw [FL.out]; have := HM.out; omega)
          go_wp2_with fail
          refine (paged_any P.out WF.out (by rw [FL.out]; exact SV.out.same KP.out) HMB.out).mono ?_
          rintro e wC ⟨rfl, hk⟩
          have XC := hid ((X.out.kept0 KP.out).kept0 hk)
          clear hk cv2
          go_wp2
          go_ret
          exact ⟨rfl, XC.out.k.below (Nat.le_refl _) (fun _ h => h.elim)⟩
end Go.Proofs.Ytfmohmlpcielnaa
