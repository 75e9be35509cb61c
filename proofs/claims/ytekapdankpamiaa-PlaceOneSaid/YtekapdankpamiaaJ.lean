/- PlaceOne's walk. -/
import Derived.Test.YtekapdankpamiaaI
namespace Go.Proofs.Ytekapdankpamiaa
open Go.RowKit

set_option maxRecDepth 100000 in
set_option maxHeartbeats 2000000 in
theorem one_walk (W : World) (args : Array Value) (h : RdAll Try.prog W Try.f5.params.toList args.toList) :
    Calls Try.prog 5 args W fun e W' => e = .returned (.bool true) ∧ Below W.heap.size W W' := by
  rw [Try.params5] at h
  obtain ⟨v0, v1, v2, rfl⟩ : ∃ v0 v1 v2, args = #[v0, v1, v2] := by
    rcases args with ⟨_ | ⟨v0, _ | ⟨v1, _ | ⟨v2, _ | ⟨v3, l⟩⟩⟩⟩⟩ <;> simp [RdAll] at h
    exact ⟨v0, v1, v2, rfl⟩
  obtain ⟨r0, r1, r2, _⟩ := h
  obtain ⟨nd, rfl, wf0⟩ := r0.int Try.underlying5
  obtain ⟨ao, cap, L, rfl, hL, hll, bL⟩ := script_read r1
  obtain ⟨t, rfl, wf2⟩ := r2.int Try.underlying5
  simp [Lit.wf, IntKind.min, IntKind.max, IntKind.signed, IntKind.bits] at wf0 wf2
  obtain ⟨ht0, ht1⟩ : 0 ≤ t ∧ t ≤ 255 := by omega
  obtain ⟨nd0, nd1⟩ : 0 ≤ nd ∧ nd ≤ 255 := by omega
  have HL := hid hL; have BL := hid bL
  obtain ⟨n, hn⟩ : ∃ n : Nat, 1 + nd % 4 = (n : Int) := ⟨(1 + nd % 4).toNat, by omega⟩
  have hn1 : 1 ≤ n := by omega
  have hn5 : n ≤ 4 := by omega
  clear r0 r1 r2 wf0 wf2 hL bL
  obtain ⟨N, hN⟩ : ∃ N, min L.length 60 = N := ⟨_, rfl⟩
  have hNL : N ≤ L.length := by omega
  have hN1 : N ≤ 60 := by omega
  have hcap : L.length ≤ cap ∧ cap ≤ maxLen := by
    obtain ⟨_, _, e, h1, h2, _⟩ := HL.out
    simp only [Value.slice.injEq] at e
    obtain ⟨_, _, rfl⟩ := e
    exact ⟨h1, h2⟩
  unfold maxLen at hcap
  have hNi : (if (60 : Int) < (L.length : Int) then 60 else (L.length : Int)) = (N : Int) := by split <;> omega
  have HNI := hid hNi; clear hNi hN
  go_enter Try.func5, Try.ntmps5
  go_wp2_with fail
  refine (awake_any _).mono ?_; rintro e w1 ⟨rfl, hb1⟩
  have K1 := hid (Kept.of_below hb1 (fun _ => False))
  have z1 := hb1.size
  clear hb1
  go_wp2_with fail
  refine (new_ok n _ (by omega)).mono ?_; rintro e w2 ⟨rfl, hd, hk⟩
  have DA2 := hid hd; have K2 := hid (K1.out.trans hk); have z2 := row_lt hd.obj
  obtain ⟨ma, hma⟩ : ∃ ma, w1.heap.size = ma := ⟨_, rfl⟩
  rw [hma] at z1 z2 DA2 ⊢
  clear hd hk hma K1
  go_wp2_with fail
  refine (new_ok n _ (by omega)).mono ?_; rintro e w3 ⟨rfl, hd, hk⟩
  have DB3 := hid hd; have DA3 := hid (DA2.out.kept hk id id); have K3 := hid (K2.out.trans hk)
  obtain ⟨mb, hmb⟩ : ∃ mb, w2.heap.size = mb := ⟨_, rfl⟩
  rw [hmb] at z2 DB3 ⊢
  clear hd hk hmb K2 DA2
  have zz : W.heap.size ≤ ma ∧ ma + 1 < mb := ⟨z1, z2⟩
  obtain ⟨zz1, zz2⟩ := zz
  clear z1 z2
  go_wp2_with (refine wpList_min rfl (.tmp 47) (.const (.int .i64 60)) _ rfl (L.length : Int) 60 N rfl rfl HNI.out ?_)
  go_loopw [52] (fun i wr => ∃ k : Nat, k ≤ N ∧ i = .int .i64 k ∧ Kept (fun _ => False) w3 wr ∧ ∀ (i j : Nat) (m m' : Mv), i < k → j < i → L[i]? = some m → L[j]? = some m' → ¬ Conf m m') (fun i _ => N - (RowKit.intOf i).toNat)
  case atStart => exact ⟨0, Nat.zero_le _, rfl, Kept.refl _ _, fun i j m m' h => absurd h (Nat.not_lt_zero _)⟩
  case round =>
    rename World => wA
    obtain ⟨k, hk, rfl, hkp, hnc⟩ := hrel
    have KA := hid hkp; have HNC := hid hnc
    clear hkp hnc
    by_cases hlt : k < N
    · have hltI : (k : Int) < (N : Int) := by omega
      obtain ⟨m, hm⟩ : ∃ m, L[k]? = some m := ⟨_, List.getElem?_eq_getElem (by omega)⟩
      obtain ⟨gs, os, rfl, c0, c1, c2, c3, c4, c5⟩ := op_cells HL.out (K3.out.trans KA.out) hm
      obtain ⟨mv, mu, mt, mn, me, ms⟩ := m
      simp only at c0 c1 c2 c3 c4 c5
      have HM := hid hm
      clear hm
      go_wp2_with fail
      have y0 := row_cell (row_new wA (.cells #[.int .u32 mv, .int .u32 mu, .int .u8 mt, .int .u8 mn, .int .u32 me, .int .u32 ms] 30)) 0
      have y2 := row_cell (row_new wA (.cells #[.int .u32 mv, .int .u32 mu, .int .u8 mt, .int .u8 mn, .int .u32 me, .int .u32 ms] 30)) 2
      have y4 := row_cell (row_new wA (.cells #[.int .u32 mv, .int .u32 mu, .int .u8 mt, .int .u8 mn, .int .u32 me, .int .u32 ms] 30)) 4
      have hk4 := (Kept.refl (fun _ => False) wA).alloc (.cells #[.int .u32 mv, .int .u32 mu, .int .u8 mt, .int .u8 mn, .int .u32 me, .int .u32 ms] 30)
      simp only [List.getElem?_toArray, List.getElem?_cons_zero, List.getElem?_cons_succ] at y0 y2 y4
      obtain ⟨xb, hxb⟩ : ∃ xb, wA.heap.size = xb := ⟨_, rfl⟩
      obtain ⟨w4, hw4⟩ : ∃ w4, wA.alloc (.cells #[.int .u32 mv, .int .u32 mu, .int .u8 mt, .int .u8 mn, .int .u32 me, .int .u32 ms] 30) = w4 := ⟨_, rfl⟩
      rw [hw4] at y0 y2 y4 hk4 ⊢
      rw [hxb] at y0 y2 y4 ⊢
      have K4 := hid (KA.out.trans hk4)
      have Y0 := hid y0; have Y2 := hid y2; have Y4 := hid y4
      clear hk4 hw4 hxb c0 c1 c2 c3 c4 c5 KA y0 y2 y4
      go_loopw [61] (fun i wr => ∃ j : Nat, j ≤ k ∧ i = .int .i64 j ∧ Kept (fun _ => False) w4 wr ∧ ∀ (j' : Nat) (m' : Mv), j' < j → L[j']? = some m' → ¬ Conf (mv, mu, mt, mn, me, ms) m') (fun i _ => k - (RowKit.intOf i).toNat)
      case atStart => exact ⟨0, Nat.zero_le _, rfl, Kept.refl _ _, fun j m' h => absurd h (Nat.not_lt_zero _)⟩
      case round =>
        rename World => wB
        obtain ⟨j, hj, rfl, hkp, hnc⟩ := hrel
        have KB := hid hkp; have HNB := hid hnc
        clear hkp hnc
        by_cases hjlt : j < k
        · have hjltI : (j : Int) < (k : Int) := by omega
          obtain ⟨p, hp⟩ : ∃ p, L[j]? = some p := ⟨_, List.getElem?_eq_getElem (by omega)⟩
          obtain ⟨g', o', e', c0, c1, c2, c3, c4, c5⟩ := op_cells HL.out (K3.out.trans (K4.out.trans KB.out)) hp
          simp only [Option.some.injEq, Addr.mk.injEq] at e'
          obtain ⟨rfl, rfl, _⟩ := e'
          obtain ⟨pv, pu, pt, pn, pe, ps⟩ := p
          simp only at c0 c1 c2 c3 c4 c5
          have HP := hid hp
          have y0 : ∀ o, (wB.alloc o).cell? ⟨xb, 0, none⟩ = some (.int .u32 mv) := fun o => (KB.out.alloc o).cell Y0.out id
          have y2 : ∀ o, (wB.alloc o).cell? ⟨xb, 2, none⟩ = some (.int .u8 mt) := fun o => (KB.out.alloc o).cell Y2.out id
          have y4 : ∀ o, (wB.alloc o).cell? ⟨xb, 4, none⟩ = some (.int .u32 me) := fun o => (KB.out.alloc o).cell Y4.out id
          clear hp
          obtain ⟨b1, hb1⟩ : ∃ b, (mv == pv) = b := ⟨_, rfl⟩
          obtain ⟨b2, hb2⟩ : ∃ b, (me == pe) = b := ⟨_, rfl⟩
          obtain ⟨b3, hb3⟩ : ∃ b, (mt != pt) = b := ⟨_, rfl⟩
          have HC := hid (show Conf (mv, mu, mt, mn, me, ms) (pv, pu, pt, pn, pe, ps) → b1 = true ∧ b2 = true ∧ b3 = true from fun ⟨h1, h2, h3⟩ => by
            simp only at h1 h2 h3
            refine ⟨?_, ?_, ?_⟩
            · rw [← hb1]; simpa using h1
            · rw [← hb2]; simpa using h2
            · rw [← hb3]; simpa using h3)
          rcases b1 with _ | _
          · go_wp2
            go_roundw
            case rel => exact ⟨j + 1, by omega, by go_num, KB.out.alloc _, conf_in HNB.out HP.out (fun h => Bool.noConfusion (HC.out h).1)⟩
            case measure => (simp only [RowKit.intOf]; omega)
          rcases b2 with _ | _
          · go_wp2
            go_roundw
            case rel => exact ⟨j + 1, by omega, by go_num, KB.out.alloc _, conf_in HNB.out HP.out (fun h => Bool.noConfusion (HC.out h).2.1)⟩
            case measure => (simp only [RowKit.intOf]; omega)
          rcases b3 with _ | _
          · go_wp2
            go_roundw
            case rel => exact ⟨j + 1, by omega, by go_num, KB.out.alloc _, conf_in HNB.out HP.out (fun h => Bool.noConfusion (HC.out h).2.2)⟩
            case measure => (simp only [RowKit.intOf]; omega)
          · go_wp2
            go_ret
            exact ⟨rfl, ((K3.out.trans (K4.out.trans KB.out)).alloc _).below (Nat.le_refl _) (fun _ h => h.elim)⟩
        · go_wp2
          go_roundw
          case rel => exact ⟨k + 1, by omega, by go_num, K4.out.trans KB.out, conf_out HNC.out HM.out (fun j' m' h => HNB.out j' m' (by omega))⟩
          case measure => (simp only [RowKit.intOf]; omega)
    · obtain rfl : k = N := by omega
      have HNF := hid (noconf_take HNC.out)
      have DA := hid (DA3.out.kept KA.out id id)
      have DB := hid (DB3.out.kept KA.out id id)
      have KW := hid (K3.out.trans KA.out)
      have hN0 : (0 : Int) < (k : Int) + 1 := by omega
      have wN : IntKind.i64.wrap ((k : Int) + 1) = (k : Int) + 1 := IntWalk.i64_in _ (by omega)
      have wt : IntKind.i64.wrap t = t := IntWalk.i64_in _ (by omega)
      obtain ⟨kk, hkk⟩ : ∃ kk : Nat, t.tmod ((k : Int) + 1) = (kk : Int) ∧ kk ≤ k := by
        refine ⟨(t.tmod ((k : Int) + 1)).toNat, ?_, ?_⟩
        · rw [Int.tmod_eq_emod_of_nonneg ht0]; have := Int.emod_nonneg t (show ((k : Int) + 1) ≠ 0 by omega); omega
        · rw [Int.tmod_eq_emod_of_nonneg ht0]; have := Int.emod_lt_of_pos t hN0; omega
      obtain ⟨hk0, hk1⟩ := hkk
      obtain ⟨M, hM⟩ : ∃ M, L.take k = M := ⟨_, rfl⟩
      have hMl : M.length = k := by rw [← hM, List.length_take]; omega
      have HMI := hid (fun (i : Nat) (hi : i < k) => show M[i]? = L[i]? from by rw [← hM, List.getElem?_take, if_pos hi])
      rw [hM] at HNF
      have HML := hid hMl
      clear hM hMl HNC DA3 DB3 K3 KA
      go_wp2_with fail
      go_loopw [94] (fun i wr => ∃ j : Nat, j ≤ k ∧ i = .int .i64 j ∧ DirAt wr (ma + 1) ma n (mvs n (fun _ => none) (M.take j)) ∧ DirAt wr (mb + 1) mb n (fun _ => none) ∧ Kept (fun _ => False) W wr) (fun i _ => k - (RowKit.intOf i).toNat)
      case atStart => exact ⟨0, Nat.zero_le _, rfl, DA.out, DB.out, KW.out⟩
      case round =>
        rename World => wB
        obtain ⟨j, hj, rfl, hda, hdb, hkp⟩ := hrel
        have DA4 := hid hda; have DB4 := hid hdb; have KB := hid hkp
        clear hda hdb hkp DA DB KW
        by_cases hjlt : j < k
        · have hjltI : (j : Int) < (k : Int) := by omega
          obtain ⟨m, hm⟩ : ∃ m, L[j]? = some m := ⟨_, List.getElem?_eq_getElem (by omega)⟩
          obtain ⟨gs, os, rfl, c0, c1, c2, c3, c4, c5⟩ := op_cells HL.out KB.out hm
          have hmb := BL.out m (List.mem_of_getElem? hm)
          have HS := hid (tk_step ((HMI.out j hjlt).trans hm))
          obtain ⟨mv, mu, mt, mn, me, ms⟩ := m
          simp only at c0 c1 c2 c3 c4 c5
          obtain ⟨_, _, q2, _, q4, _⟩ := hmb
          simp only at q2 q4
          clear hm
          go_wp2_with fail
          refine (move_any mv mt me _ (by exact DA4.out.alloc _) (by omega) q2).mono ?_; rintro e w5 ⟨rfl, hd5, k5⟩
          have hdn : DirAt w5 (ma + 1) ma n (mvs n (fun _ => none) (M.take (j + 1))) := by rw [HS.out, mvs_snoc]; exact hd5
          have DN := hid hdn
          have DBN := hid ((DB4.out.alloc _).kept k5 (by omega) (by omega))
          have KN := hid ((KB.out.alloc _).trans' k5 (fun i e => .inr (by omega)))
          clear hdn hd5 k5
          go_wp2
          go_roundw
          case rel => exact ⟨j + 1, by omega, by go_num, DN.out, DBN.out, KN.out⟩
          case measure => (simp only [RowKit.intOf]; omega)
        · obtain rfl : j = k := by omega
          have hda := DA4.out
          rw [← HML.out, List.take_length] at hda
          have DA5 := hid hda
          clear hda DA4
          go_wp2_with fail
          go_loopw [109] (fun i wr => ∃ q : Nat, q ≤ j ∧ i = .int .i64 q ∧ DirAt wr (ma + 1) ma n (mvs n (fun _ => none) M) ∧ DirAt wr (mb + 1) mb n (mvs n (fun _ => none) (M.reverse.take q)) ∧ Kept (fun _ => False) W wr) (fun i _ => j - (RowKit.intOf i).toNat)
          case atStart => exact ⟨0, Nat.zero_le _, rfl, DA5.out, DB4.out, KB.out⟩
          case round =>
            rename World => wC
            obtain ⟨q, hq, rfl, hda, hdb, hkp⟩ := hrel
            have DA6 := hid hda; have DB6 := hid hdb; have KC := hid hkp
            clear hda hdb hkp DA5 DB4 KB
            by_cases hqlt : q < j
            · have hqltI : (q : Int) < (j : Int) := by omega
              obtain ⟨m, hm⟩ : ∃ m, L[j - 1 - q]? = some m := ⟨_, List.getElem?_eq_getElem (by omega)⟩
              obtain ⟨r, hr⟩ : ∃ r, j - 1 - q = r := ⟨_, rfl⟩
              have hrI : (j : Int) - 1 - (q : Int) = (r : Int) := by omega
              have hrj : r < j := by omega
              rw [hr] at hm
              obtain ⟨gs, os, rfl, c0, c1, c2, c3, c4, c5⟩ := op_cells HL.out KC.out hm
              have hmb := BL.out m (List.mem_of_getElem? hm)
              have HS := hid (rev_step (M := M) (k := q) (m := m) (by rw [HML.out, hr]; exact (HMI.out r hrj).trans hm) (by rw [HML.out]; exact hqlt))
              obtain ⟨mv, mu, mt, mn, me, ms⟩ := m
              simp only at c0 c1 c2 c3 c4 c5
              obtain ⟨_, _, q2, _, q4, _⟩ := hmb
              simp only at q2 q4
              clear hm hr
              go_wp2_with fail
              refine (move_any mv mt me _ (by exact DB6.out.alloc _) (by omega) q2).mono ?_; rintro e w5 ⟨rfl, hd5, k5⟩
              have hdn : DirAt w5 (mb + 1) mb n (mvs n (fun _ => none) (M.reverse.take (q + 1))) := by rw [HS.out, mvs_snoc]; exact hd5
              have DN := hid hdn
              have DAN := hid ((DA6.out.alloc _).kept k5 (by omega) (by omega))
              have KN := hid ((KC.out.alloc _).trans' k5 (fun i e => .inr (by omega)))
              clear hdn hd5 k5
              go_wp2
              go_roundw
              case rel => exact ⟨q + 1, by omega, by go_num, DAN.out, DN.out, KN.out⟩
              case measure => (simp only [RowKit.intOf]; omega)
            · obtain rfl : q = j := by omega
              have hdb := DB6.out
              rw [← HML.out, ← List.length_reverse, List.take_length] at hdb
              have DB7 := hid hdb
              clear hdb DB6
              have hcases : (cap = kk ∧ kk = q) ∨ (¬ cap = kk ∧ kk = q) ∨ (¬ cap = kk ∧ kk < q ∧ ∃ gs os, ao = some ⟨gs, os, none⟩) := by
                by_cases h1 : kk = q
                · by_cases h2 : cap = kk
                  · exact .inl ⟨h2, h1⟩
                  · exact .inr (.inl ⟨h2, h1⟩)
                · refine .inr (.inr ⟨by omega, by omega, ?_⟩)
                  obtain ⟨m, hm⟩ : ∃ m, L[0]? = some m := ⟨_, List.getElem?_eq_getElem (by omega)⟩
                  obtain ⟨gs, os, h, _⟩ := op_cells HL.out KC.out hm
                  exact ⟨gs, os, h⟩
              rcases hcases with ⟨hx1, hx2⟩ | ⟨hx1, hx2⟩ | ⟨hx1, hx2, gs, os, rfl⟩
              · have HX2 := hid hx2
                have hsI : q - kk = 0 := by omega
                clear hx2
                go_wp2_with fail
                go_loopw [133] (fun i wr => i = .int .i64 0 ∧ DirAt wr (ma + 1) ma n (mvs n (fun _ => none) M) ∧ DirAt wr (mb + 1) mb n (mvs n (fun _ => none) M.reverse) ∧ Kept (fun _ => False) W wr) (fun _ _ => 0)
                case atStart => exact ⟨rfl, DA6.out, DB7.out, KC.out⟩
                case round =>
                  rename World => wD
                  obtain ⟨rfl, hda, hdb, hkp⟩ := hrel
                  have DA8 := hid hda; have DB8 := hid hdb; have KD := hid hkp
                  have hol := one_law HNF.out M.length (n := n)
                  rw [List.drop_length, List.append_nil] at hol
                  clear hda hdb hkp DA6 DB7 KC hsI
                  have hdb := DB8.out
                  rw [hol] at hdb
                  clear hol
                  have hdom := (tells_mvs n M).dom
                  obtain ⟨G, hG⟩ : ∃ G, mvs n (fun _ => none) M = G := ⟨_, rfl⟩
                  have hda := DA8.out
                  rw [hG] at hda hdb hdom
                  have DA9 := hid hda; have DB9 := hid hdb; have HDM := hid hdom
                  have hdl := doms_len G
                  clear hda hdb hdom hG DA8 DB8 HL BL HMI HNF
                  go_wp2_with fail
                  refine (list_any DA9.out HDM.out).mono ?_
                  rintro e w6 ⟨la, lc, rfl, ho, hf, hk6⟩
                  have LA := hid (ho.lies (ecells_one G (doms G)) (F := fun _ => False) (fun _ _ => id)); have DB10 := hid (DB9.out.kept hk6 id id); have K6 := hid (KD.out.trans hk6)
                  clear ho hf hk6
                  go_wp2_with fail
                  refine (list_any DB10.out HDM.out).mono ?_
                  rintro e w7 ⟨lb, ld, rfl, ho, hf, hk7⟩
                  have LB := hid (ho.lies (ecells_one G (doms G)) (F := fun _ => False) (fun _ _ => id)); have LA7 := hid (LA.out.same hk7); have K7 := hid (K6.out.trans hk7)
                  clear ho hf hk7
                  go_wp2_with fail
                  refine (same_yes LA7.out LB.out (by omega)).mono ?_
                  rintro e w8 ⟨rfl, hk8⟩
                  have K8 := hid (K7.out.trans hk8)
                  clear hk8
                  go_wp2
                  go_ret
                  exact ⟨rfl, K8.out.below (Nat.le_refl _) (fun _ h => h.elim)⟩
              · have HX2 := hid hx2
                have hsI : q - kk = 0 := by omega
                clear hx2
                go_wp2_with fail
                go_loopw [133] (fun i wr => i = .int .i64 0 ∧ DirAt wr (ma + 1) ma n (mvs n (fun _ => none) M) ∧ DirAt wr (mb + 1) mb n (mvs n (fun _ => none) M.reverse) ∧ Kept (fun _ => False) W wr) (fun _ _ => 0)
                case atStart => exact ⟨rfl, DA6.out, DB7.out, KC.out⟩
                case round =>
                  rename World => wD
                  obtain ⟨rfl, hda, hdb, hkp⟩ := hrel
                  have DA8 := hid hda; have DB8 := hid hdb; have KD := hid hkp
                  have hol := one_law HNF.out M.length (n := n)
                  rw [List.drop_length, List.append_nil] at hol
                  clear hda hdb hkp DA6 DB7 KC hsI
                  have hdb := DB8.out
                  rw [hol] at hdb
                  clear hol
                  have hdom := (tells_mvs n M).dom
                  obtain ⟨G, hG⟩ : ∃ G, mvs n (fun _ => none) M = G := ⟨_, rfl⟩
                  have hda := DA8.out
                  rw [hG] at hda hdb hdom
                  have DA9 := hid hda; have DB9 := hid hdb; have HDM := hid hdom
                  have hdl := doms_len G
                  clear hda hdb hdom hG DA8 DB8 HL BL HMI HNF
                  go_wp2_with fail
                  refine (list_any DA9.out HDM.out).mono ?_
                  rintro e w6 ⟨la, lc, rfl, ho, hf, hk6⟩
                  have LA := hid (ho.lies (ecells_one G (doms G)) (F := fun _ => False) (fun _ _ => id)); have DB10 := hid (DB9.out.kept hk6 id id); have K6 := hid (KD.out.trans hk6)
                  clear ho hf hk6
                  go_wp2_with fail
                  refine (list_any DB10.out HDM.out).mono ?_
                  rintro e w7 ⟨lb, ld, rfl, ho, hf, hk7⟩
                  have LB := hid (ho.lies (ecells_one G (doms G)) (F := fun _ => False) (fun _ _ => id)); have LA7 := hid (LA.out.same hk7); have K7 := hid (K6.out.trans hk7)
                  clear ho hf hk7
                  go_wp2_with fail
                  refine (same_yes LA7.out LB.out (by omega)).mono ?_
                  rintro e w8 ⟨rfl, hk8⟩
                  have K8 := hid (K7.out.trans hk8)
                  clear hk8
                  go_wp2
                  go_ret
                  exact ⟨rfl, K8.out.below (Nat.le_refl _) (fun _ h => h.elim)⟩
              · obtain ⟨sl, hsl⟩ : ∃ sl, q - kk = sl := ⟨_, rfl⟩
                have HSL := hid hsl
                have hsI : ((q - kk : Nat) : Int) = (sl : Int) := by rw [hsl]
                have hsN : kk + sl = q := by omega
                go_wp2_with fail
                clear hsI hsl
                go_loopw [133] (fun i wr => ∃ z : Nat, z ≤ sl ∧ i = .int .i64 z ∧ DirAt wr (ma + 1) ma n (mvs n (fun _ => none) M) ∧ DirAt wr (mb + 1) mb n (mvs n (fun _ => none) (M.reverse ++ (M.drop kk).take z)) ∧ Kept (fun _ => False) W wr) (fun i _ => sl - (RowKit.intOf i).toNat)
                case atStart => exact ⟨0, Nat.zero_le _, rfl, DA6.out, by simpa using DB7.out, KC.out⟩
                case round =>
                  rename World => wD
                  obtain ⟨z, hz, rfl, hda, hdb, hkp⟩ := hrel
                  have DA8 := hid hda; have DB8 := hid hdb; have KD := hid hkp
                  clear hda hdb hkp DA6 DB7 KC
                  by_cases hzlt : z < sl
                  · have hzltI : (z : Int) < (sl : Int) := by omega
                    obtain ⟨m, hm⟩ : ∃ m, L[kk + z]? = some m := ⟨_, List.getElem?_eq_getElem (by omega)⟩
                    obtain ⟨g', o', e', c0, c1, c2, c3, c4, c5⟩ := op_cells HL.out KD.out hm
                    simp only [Option.some.injEq, Addr.mk.injEq] at e'
                    obtain ⟨rfl, rfl, _⟩ := e'
                    have hmb := BL.out m (List.mem_of_getElem? hm)
                    have HS := hid (tk_step (M := M.drop kk) (k := z) (m := m) (by rw [List.getElem?_drop]; exact (HMI.out (kk + z) (by omega)).trans hm))
                    obtain ⟨mv, mu, mt, mn, me, ms⟩ := m
                    simp only at c0 c1 c2 c3 c4 c5
                    rw [show os + (kk + z) * 6 = os + kk * 6 + z * 6 from by omega] at c0 c1 c2 c3 c4 c5
                    obtain ⟨_, _, q2, _, q4, _⟩ := hmb
                    simp only at q2 q4
                    clear hm
                    go_wp2_with fail
                    refine (move_any mv mt me _ (by exact DB8.out.alloc _) (by omega) q2).mono ?_; rintro e w5 ⟨rfl, hd5, k5⟩
                    have hdn : DirAt w5 (mb + 1) mb n (mvs n (fun _ => none) (M.reverse ++ (M.drop kk).take (z + 1))) := by rw [HS.out, ← List.append_assoc, mvs_snoc]; exact hd5
                    have DN := hid hdn
                    have DAN := hid ((DA8.out.alloc _).kept k5 (by omega) (by omega))
                    have KN := hid ((KD.out.alloc _).trans' k5 (fun i e => .inr (by omega)))
                    clear hdn hd5 k5
                    go_wp2
                    go_roundw
                    case rel => exact ⟨z + 1, by omega, by go_num, DAN.out, DN.out, KN.out⟩
                    case measure => (simp only [RowKit.intOf]; omega)
                  · obtain rfl : z = sl := by omega
                    have hdb := DB8.out
                    rw [List.take_of_length_le (by rw [List.length_drop, HML.out]; omega), one_law HNF.out] at hdb
                    have hdom := (tells_mvs n M).dom
                    obtain ⟨G, hG⟩ : ∃ G, mvs n (fun _ => none) M = G := ⟨_, rfl⟩
                    have hda := DA8.out
                    rw [hG] at hda hdb hdom
                    have DA9 := hid hda; have DB9 := hid hdb; have HDM := hid hdom
                    have hdl := doms_len G
                    clear hda hdb hdom hG DA8 DB8 HL BL HMI HNF
                    go_wp2_with fail
                    refine (list_any DA9.out HDM.out).mono ?_
                    rintro e w6 ⟨la, lc, rfl, ho, hf, hk6⟩
                    have LA := hid (ho.lies (ecells_one G (doms G)) (F := fun _ => False) (fun _ _ => id)); have DB10 := hid (DB9.out.kept hk6 id id); have K6 := hid (KD.out.trans hk6)
                    clear ho hf hk6
                    go_wp2_with fail
                    refine (list_any DB10.out HDM.out).mono ?_
                    rintro e w7 ⟨lb, ld, rfl, ho, hf, hk7⟩
                    have LB := hid (ho.lies (ecells_one G (doms G)) (F := fun _ => False) (fun _ _ => id)); have LA7 := hid (LA.out.same hk7); have K7 := hid (K6.out.trans hk7)
                    clear ho hf hk7
                    go_wp2_with fail
                    refine (same_yes LA7.out LB.out (by omega)).mono ?_
                    rintro e w8 ⟨rfl, hk8⟩
                    have K8 := hid (K7.out.trans hk8)
                    clear hk8
                    go_wp2
                    go_ret
                    exact ⟨rfl, K8.out.below (Nat.le_refl _) (fun _ h => h.elim)⟩
end Go.Proofs.Ytekapdankpamiaa
