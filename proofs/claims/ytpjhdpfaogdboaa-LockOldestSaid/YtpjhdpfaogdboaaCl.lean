/- The document: Clash (of two that don't), SameWants, Check. -/
import Derived.Test.YtpjhdpfaogdboaaKn
namespace Go.Proofs.Ytpjhdpfaogdboaa
set_option linter.unusedSimpArgs false
set_option linter.unusedVariables false
open Go.RowKit
theorem w_cells {F : Nat → Prop} {w w' : World} {a : Option Addr} {N c : Nat} {l : List Wt} (h : Lies F w 2 (.slice a N c) N (wcells l)) (k : Kept (fun _ => False) w w') {j : Nat} {x : Wt} (hx : l[j]? = some x) :
    ∃ g o, a = some ⟨g, o, none⟩ ∧ w'.cell? ⟨g, o + j * 2, none⟩ = some (.int .u32 x.1) ∧ w'.cell? ⟨g, o + j * 2 + 1, none⟩ = some (.int .u8 x.2) := by
  obtain ⟨_, _, _, g, o, e, c0, c1⟩ := lies_w (h.same k) hx
  exact ⟨g, o, e, c0, c1⟩
set_option maxRecDepth 100000 in
set_option maxHeartbeats 2000000 in
theorem clash_no {F G : Nat → Prop} {w : World} {a b : Option Addr} {N M c d : Nat} {A B : List Wt} (ha : Lies F w 2 (.slice a N c) N (wcells A)) (hb : Lies G w 2 (.slice b M d) M (wcells B)) (hN : A.length = N) (hM : B.length = M) (hc : clash A B = false) :
    Calls Try.prog 21 #[.slice a N c, .slice b M d] w fun e w' => e = .returned (.bool false) ∧ Kept (fun _ => False) w w' := by
  obtain ⟨m1, m2⟩ := cap_of ha
  obtain ⟨m3, m4⟩ := cap_of hb
  unfold maxLen at m2 m4
  have HA := hid ha; have HB := hid hb; have HN := hid hN; have HM := hid hM
  have HC := hid (show ∀ x ∈ A, ∀ y ∈ B, ¬ (x.1 = y.1 ∧ (x.2 = 2 ∨ y.2 = 2)) from fun x hx y hy h => by
    rw [clash_iff.2 ⟨x, hx, y, hy, h⟩] at hc; cases hc)
  clear ha hb hN hM hc
  go_enter Try.func21, Try.ntmps21
  go_wp2_with fail
  go_loopw [11] (fun i wr => ∃ k : Nat, k ≤ N ∧ i = .int .i64 k ∧ Kept (fun _ => False) w wr) (fun i _ => N - (RowKit.intOf i).toNat)
  case atStart => exact ⟨0, Nat.zero_le _, rfl, Kept.refl _ _⟩
  case round =>
    rename World => wr
    obtain ⟨k, hk, rfl, hkp⟩ := hrel
    have K := hid hkp
    clear hkp
    by_cases hlt : k < N
    · have hkI : (k : Int) < (N : Int) := by omega
      obtain ⟨⟨x0, x1⟩, hx⟩ : ∃ x, A[k]? = some x := ⟨_, List.getElem?_eq_getElem (by rw [HN.out]; exact hlt)⟩
      obtain ⟨g1, o1, rfl, q0, q1⟩ := w_cells HA.out K.out hx
      simp only at q0 q1
      have HXM := hid (List.mem_of_getElem? hx)
      obtain ⟨xb, hxb⟩ : ∃ xb, wr.heap.size = xb := ⟨_, rfl⟩
      obtain ⟨w2, hw2⟩ : ∃ w2, wr.alloc (.cells #[.int .u32 x0, .int .u8 x1] 36) = w2 := ⟨_, rfl⟩
      have k2 : Kept (fun _ => False) wr w2 := by rw [← hw2]; exact (Kept.refl _ _).alloc _
      obtain ⟨y0, y1⟩ := want_new wr x0 x1
      rw [hw2, hxb] at y0 y1
      have Y0 := hid y0; have Y1 := hid y1
      have K2 := hid (K.out.trans k2)
      clear hx k2 y0 y1
      go_wp2_with fail
      try rw [hw2]
      try rw [hxb]
      clear hw2 hxb q0 q1
      go_loopw [17] (fun i wv => ∃ j : Nat, j ≤ M ∧ i = .int .i64 j ∧ Kept (fun _ => False) w2 wv) (fun i _ => M - (RowKit.intOf i).toNat)
      case atStart => exact ⟨0, Nat.zero_le _, rfl, Kept.refl _ _⟩
      case round =>
        rename World => wv
        obtain ⟨j, hj, rfl, hkv⟩ := hrel
        have KV := hid hkv
        clear hkv
        by_cases hjt : j < M
        · have hjI : (j : Int) < (M : Int) := by omega
          obtain ⟨⟨z0, z1⟩, hz⟩ : ∃ x, B[j]? = some x := ⟨_, List.getElem?_eq_getElem (by rw [HM.out]; exact hjt)⟩
          obtain ⟨g2, o2, rfl, q0, q1⟩ := w_cells HB.out (K2.out.trans KV.out) hz
          simp only at q0 q1
          have hn := HC.out _ HXM.out _ (List.mem_of_getElem? hz)
          simp only at hn
          have k3 : Kept (fun _ => False) wv (wv.alloc (.cells #[.int .u32 z0, .int .u8 z1] 36)) := (Kept.refl _ _).alloc _
          have y0 := k3.cell (KV.out.cell Y0.out id) id
          have y1 := k3.cell (KV.out.cell Y1.out id) id
          obtain ⟨e0, e1⟩ := want_new wv z0 z1
          have K3 := hid (KV.out.trans k3)
          clear hz k3
          by_cases h0 : x0 = z0
          · have h1 : (x1 == 2) = false := by rw [beq_eq_false_iff_ne]; exact fun h => hn ⟨h0, .inl h⟩
            have h2 : (z1 == 2) = false := by rw [beq_eq_false_iff_ne]; exact fun h => hn ⟨h0, .inr h⟩
            have h00 : (x0 == z0) = true := by simp [h0]
            clear hn h0
            go_wp2
            go_roundw
            case rel => exact ⟨j + 1, by omega, by go_num, K3.out⟩
            case measure => (simp only [RowKit.intOf]; omega)
          · have h00 : (x0 == z0) = false := by simpa using h0
            clear hn h0
            go_wp2
            go_roundw
            case rel => exact ⟨j + 1, by omega, by go_num, K3.out⟩
            case measure => (simp only [RowKit.intOf]; omega)
        · obtain rfl : j = M := by omega
          have KN := hid (K2.out.trans KV.out)
          go_wp2
          go_roundw
          case rel => exact ⟨k + 1, by omega, by go_num, KN.out⟩
          case measure => (simp only [RowKit.intOf]; omega)
    · go_wp2
      go_ret
      exact ⟨rfl, K.out⟩
set_option maxRecDepth 100000 in
set_option maxHeartbeats 1000000 in
theorem same_wants {F F' : Nat → Prop} {w : World} {a b : Option Addr} {N c d : Nat} {L : List Wt} (ha : Lies F w 2 (.slice a N c) N (wcells L)) (hb : Lies F' w 2 (.slice b N d) N (wcells L)) (hLN : L.length = N) :
    Calls Try.prog 22 #[.slice a N c, .slice b N d] w fun e w' => e = .returned (.bool true) ∧ Kept (fun _ => False) w w' := by
  obtain ⟨m1, m2⟩ := cap_of ha
  obtain ⟨m3, m4⟩ := cap_of hb
  unfold maxLen at m2 m4
  have HA := hid ha; have HB := hid hb; have HN := hid hLN
  clear ha hb hLN
  go_enter Try.func22, Try.ntmps22
  go_wp2_with fail
  go_loopw [13] (fun i wr => ∃ k : Nat, k ≤ N ∧ i = .int .i64 k ∧ Kept (fun _ => False) w wr) (fun i _ => N - (RowKit.intOf i).toNat)
  case atStart => exact ⟨0, Nat.zero_le _, rfl, Kept.refl _ _⟩
  case round =>
    rename World => wA
    obtain ⟨k, hk, rfl, hkp⟩ := hrel
    have K := hid hkp
    clear hkp
    by_cases hlt : k < N
    · have hkI : (k : Int) < (N : Int) := by omega
      obtain ⟨⟨x0, x1⟩, hx⟩ : ∃ x, L[k]? = some x := ⟨_, List.getElem?_eq_getElem (by rw [HN.out]; exact hlt)⟩
      obtain ⟨g1, o1, rfl, q0, q1⟩ := w_cells HA.out K.out hx
      obtain ⟨g2, o2, rfl, r0, r1⟩ := w_cells HB.out K.out hx
      simp only at q0 q1 r0 r1
      clear hx
      go_wp2_with fail
      go_quiet (fail)
      have K1 := hid (K.out.trans (kept_drewN (F := fun _ => False) wA nq))
      go_wp2
      go_roundw
      case rel => exact ⟨k + 1, by omega, by go_num, K1.out⟩
      case measure => (simp only [RowKit.intOf]; omega)
    · go_wp2
      go_ret
      exact ⟨rfl, K.out⟩
theorem anyb_take {ws : List Wt} {k : Nat} {x : Wt} (hx : ws[k]? = some x) : (ws.take (k + 1)).any badW = ((ws.take k).any badW || badW x) := by
  rw [List.take_add_one, hx, List.any_append]
  simp
theorem chk_one {ws : List Wt} {x : Wt} (hx : x ∈ ws) (hb : badW x = true) : chkW ws = 1 := by
  unfold chkW
  rw [if_pos (List.any_eq_true.2 ⟨x, hx, hb⟩)]
theorem keys_take {ws : List Wt} {k : Nat} {x : Wt} (hx : ws[k]? = some x) : (ws.take (k + 1)).map (·.1) = (ws.take k).map (·.1) ++ [x.1] := by
  rw [List.take_add_one, hx, List.map_append]
  rfl
set_option maxRecDepth 100000 in
set_option maxHeartbeats 4000000 in
theorem chkR_any {F : Nat → Prop} {w : World} {a : Option Addr} {N c : Nat} {ws : List Wt} (hl : Lies F w 2 (.slice a N c) N (wcells ws)) (hN : ws.length = N) :
    Calls Try.prog 19 #[.slice a N c] w fun e w' => e = .returned (.int .i64 (chkW ws)) ∧ Kept (fun _ => False) w w' := by
  obtain ⟨m1, m2⟩ := cap_of hl
  unfold maxLen at m2
  have HL := hid hl; have HN := hid hN
  clear hl hN
  go_enter Try.func19, Try.ntmps19
  go_wp2_with fail
  go_loopw [9] (fun i wr => ∃ k : Nat, k ≤ N ∧ i = .int .i64 k ∧ (ws.take k).any badW = false ∧ Kept (fun _ => False) w wr) (fun i _ => N - (RowKit.intOf i).toNat)
  case atStart => exact ⟨0, Nat.zero_le _, rfl, rfl, Kept.refl _ _⟩
  case round =>
    rename World => wr
    obtain ⟨k, hk, rfl, hb, hkp⟩ := hrel
    have K := hid hkp; have HB := hid hb
    clear hkp hb
    by_cases hlt : k < N
    · have hkI : (k : Int) < (N : Int) := by omega
      obtain ⟨⟨x0, x1⟩, hx⟩ : ∃ x, ws[k]? = some x := ⟨_, List.getElem?_eq_getElem (by rw [HN.out]; exact hlt)⟩
      obtain ⟨g1, o1, rfl, q0, q1⟩ := w_cells HL.out K.out hx
      simp only at q0 q1
      have HX := hid hx
      have K3 := hid (K.out.alloc (.cells #[.int .u32 x0, .int .u8 x1] 36))
      obtain ⟨y0, y1⟩ := want_new wr x0 x1
      clear hx
      have hone : badW (x0, x1) = true → chkW ws = 1 := chk_one (List.mem_of_getElem? HX.out)
      have HONE := hid hone
      clear hone
      by_cases h1 : x0 < 1
      · have HC := hid (HONE.out (by unfold badW; simp [h1]))
        go_wp2
        go_ret
        exact ⟨ret_int HC.out.symm, K3.out⟩
      · by_cases h2 : 40 < x0
        · have HC := hid (HONE.out (by unfold badW; simp [h2]))
          go_wp2
          go_ret
          exact ⟨ret_int HC.out.symm, K3.out⟩
        · by_cases h3 : x1 < 1
          · have HC := hid (HONE.out (by
              have e1 : x1 ≠ 1 := by omega
              have e2 : x1 ≠ 2 := by omega
              unfold badW; simp [e1, e2]))
            go_wp2
            go_ret
            exact ⟨ret_int HC.out.symm, K3.out⟩
          · by_cases h4 : 2 < x1
            · have HC := hid (HONE.out (by
                have e1 : x1 ≠ 1 := by omega
                have e2 : x1 ≠ 2 := by omega
                unfold badW; simp [e1, e2]))
              go_wp2
              go_ret
              exact ⟨ret_int HC.out.symm, K3.out⟩
            · have HBN := hid (show (ws.take (k + 1)).any badW = false by
                rw [anyb_take HX.out, HB.out, Bool.false_or]
                unfold badW
                simp only [Bool.or_eq_false_iff, Bool.and_eq_false_iff, decide_eq_false_iff_not]
                omega)
              go_wp2
              go_roundw
              case rel => exact ⟨k + 1, by omega, by go_num, HBN.out, K3.out⟩
              case measure => (simp only [RowKit.intOf]; omega)
    · obtain rfl : k = N := by omega
      have hb : ws.any badW = false := by
        have := HB.out
        rwa [← HN.out, List.take_length] at this
      have HA := hid hb
      clear hb HB
      by_cases h40 : 40 < k
      · have h40I : (40 : Int) < (k : Int) := by omega
        have HC := hid (show chkW ws = 2 by unfold chkW; rw [if_neg (by rw [HA.out]; decide), if_pos (by rw [HN.out]; exact h40)])
        go_wp2
        go_ret
        exact ⟨ret_int HC.out.symm, K.out⟩
      · have h40I : ¬ (40 : Int) < (k : Int) := by omega
        have HC3 := hid (show (ws.length = 0 ∨ ¬ (ws.map (·.1)).Nodup) → chkW ws = 3 from fun h => by
          unfold chkW
          rw [if_neg (by rw [HA.out]; decide), if_neg (by rw [HN.out]; exact h40), if_pos h])
        have HC0 := hid (show ¬ (ws.length = 0 ∨ ¬ (ws.map (·.1)).Nodup) → chkW ws = 0 from fun h => by
          unfold chkW
          rw [if_neg (by rw [HA.out]; decide), if_neg (by rw [HN.out]; exact h40), if_neg h])
        go_wp2_with fail
        go_loopw [37] (fun i wv => ∃ m : Nat, m ≤ k ∧ i = .int .i64 m ∧ ((ws.take m).map (·.1)).Nodup ∧ Kept (fun _ => False) w wv) (fun i _ => k - (RowKit.intOf i).toNat)
        case atStart => exact ⟨0, Nat.zero_le _, rfl, List.nodup_nil, K.out⟩
        case round =>
          rename World => wv
          obtain ⟨m, hm, rfl, hnd, hkv⟩ := hrel
          have KV := hid hkv; have HND := hid hnd
          clear hkv hnd
          by_cases hmk : m < k
          · have hmI : (m : Int) < (k : Int) := by omega
            obtain ⟨⟨x0, x1⟩, hx⟩ : ∃ x, ws[m]? = some x := ⟨_, List.getElem?_eq_getElem (by rw [HN.out]; exact hmk)⟩
            have HX := hid hx
            clear hx
            go_wp2_with fail
            go_loopw [41] (fun i wx => ∃ j : Nat, j ≤ m ∧ i = .int .i64 j ∧ x0 ∉ (ws.take j).map (·.1) ∧ Kept (fun _ => False) w wx) (fun i _ => m - (RowKit.intOf i).toNat)
            case atStart => exact ⟨0, Nat.zero_le _, rfl, by simp, KV.out⟩
            case round =>
              rename World => wx
              obtain ⟨j, hj, rfl, hni, hkx⟩ := hrel
              have KX := hid hkx; have HNI := hid hni
              clear hkx hni
              by_cases hjm : j < m
              · have hjI : (j : Int) < (m : Int) := by omega
                have hjkI : (j : Int) < (k : Int) := by omega
                obtain ⟨⟨z0, z1⟩, hz⟩ : ∃ x, ws[j]? = some x := ⟨_, List.getElem?_eq_getElem (by rw [HN.out]; omega)⟩
                obtain ⟨g1, o1, rfl, q0, q1⟩ := w_cells HL.out KX.out HX.out
                obtain ⟨g2, o2, e2, p0, p1⟩ := w_cells HL.out KX.out hz
                simp only [Option.some.injEq, Addr.mk.injEq, and_true] at e2
                obtain ⟨rfl, rfl⟩ := e2
                simp only at q0 q1 p0 p1
                have HZ := hid hz
                clear hz
                by_cases he : x0 = z0
                · have heB : (x0 == z0) = true := by simp [he]
                  have HC := hid (HC3.out (.inr (fun hn => by
                    have h1 : (ws.map (·.1))[m]? = some x0 := by rw [List.getElem?_map, HX.out]; rfl
                    have h2 : (ws.map (·.1))[j]? = some x0 := by rw [List.getElem?_map, HZ.out, he]; rfl
                    have := nodup_inj hn h1 h2
                    omega)))
                  clear he
                  go_wp2_with fail
                  go_quiet (fail)
                  have KQ := hid (KX.out.trans (kept_drewN (F := fun _ => False) wx nq))
                  go_wp2
                  go_ret
                  exact ⟨ret_int HC.out.symm, KQ.out⟩
                · have heB : (x0 == z0) = false := by simpa using he
                  have HNN := hid (show x0 ∉ (ws.take (j + 1)).map (·.1) by
                    rw [keys_take HZ.out, List.mem_append, List.mem_singleton]
                    exact fun h => h.elim HNI.out he)
                  clear he
                  go_wp2_with fail
                  go_quiet (fail)
                  have KQ := hid (KX.out.trans (kept_drewN (F := fun _ => False) wx nq))
                  go_wp2
                  go_roundw
                  case rel => exact ⟨j + 1, by omega, by go_num, HNN.out, KQ.out⟩
                  case measure => (simp only [RowKit.intOf]; omega)
              · obtain rfl : j = m := by omega
                have HNN := hid (show ((ws.take (j + 1)).map (·.1)).Nodup by
                  rw [keys_take HX.out, List.nodup_append]
                  exact ⟨HND.out, by simp, fun a ha b hb e => by simp at hb; rw [e, hb] at ha; exact HNI.out ha⟩)
                go_wp2
                go_roundw
                case rel => exact ⟨j + 1, by omega, by go_num, HNN.out, KX.out⟩
                case measure => (simp only [RowKit.intOf]; omega)
          · obtain rfl : m = k := by omega
            have hnd : (ws.map (·.1)).Nodup := by
              have := HND.out
              rwa [← HN.out, List.take_length] at this
            have HNF := hid hnd
            clear hnd
            by_cases h0 : m = 0
            · have HC := hid (HC3.out (.inl (by rw [HN.out]; exact h0)))
              have h0B : ((m : Int) == 0) = true := by simp [h0]
              clear h0
              go_wp2
              go_ret
              exact ⟨ret_int HC.out.symm, KV.out⟩
            · have HC := hid (HC0.out (fun h => h.elim (fun h => h0 (by rw [← HN.out]; exact h)) (fun h => h HNF.out)))
              have h0B : ((m : Int) == 0) = false := by simp; omega
              clear h0
              go_wp2
              go_ret
              exact ⟨ret_int HC.out.symm, KV.out⟩
end Go.Proofs.Ytpjhdpfaogdboaa
