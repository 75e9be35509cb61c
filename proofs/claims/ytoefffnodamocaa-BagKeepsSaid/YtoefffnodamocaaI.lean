/- The law BagKeeps. -/
import Derived.Test.YtoefffnodamocaaH
namespace Go.Proofs.Ytoefffnodamocaa
open Go.RowKit




theorem st_cut {W w w' : World} {bb : Nat} {M : List (List Int)} {v v' : Value} {F : Nat → Prop} {ws : List Value} {j : Nat} (h1 : BagAt 50 w bb (without M j) F) (h2 : ∀ k, F k → W.heap.size ≤ k ∧ k < w.heap.size) (h3 : Below W.heap.size W w) (h4 : Own w 22 1 v M.length ws)
    (h5 : ∀ (i : Nat) (p : Value) (l : List Int), ws[i]? = some p → M[i]? = some l → Byt W p l) (h6 : ∀ u ∈ ws, u.oneCell' = true) (_h7 : ∀ g, v.ownBlock = some g → W.heap.size ≤ g ∧ ¬ F g)
    (hk : Kept (fun _ => False) w w') (ho : Own w' 22 1 v' (0 + j + (M.length - (j + 1))) (ws.take j ++ ws.drop (j + 1))) (hf : ∀ g, v'.ownBlock = some g → w.heap.size ≤ g) (hj : j < M.length) : St W w' bb (without M j) v' (without M j) := by
  have hl : ws.length = M.length := by simpa using h4.len
  refine ⟨F, ws.take j ++ ws.drop (j + 1), h1.kept hk (fun _ _ => id), fun k hk' => ⟨(h2 k hk').1, Nat.lt_of_lt_of_le (h2 k hk').2 hk.size⟩, h3.trans (hk.fresh h3.size), by rw [without_len hj]; rw [Nat.zero_add] at ho; exact ho, fun i q m hq hm => ?_, fun u hu => ?_, fun g hg => ?_⟩
  · unfold without at hm
    rw [← List.eraseIdx_eq_take_drop_succ] at hq hm
    rw [List.getElem?_eraseIdx] at hq hm
    split at hq
    · rename_i h; rw [if_pos h] at hm; exact h5 i q m hq hm
    · rename_i h; rw [if_neg h] at hm; exact h5 (i + 1) q m hq hm
  · rcases List.mem_append.1 hu with h | h
    · exact h6 u (List.mem_of_mem_take h)
    · exact h6 u (List.mem_of_mem_drop h)
  · have := hf g hg
    have := h3.size
    exact ⟨by omega, fun hF => by have := (h2 g hF).2; omega⟩

set_option maxRecDepth 100000 in
set_option maxHeartbeats 1000000 in
theorem keeps_walk (W : World) (args : Array Value) (h : RdAll Try.prog W Try.f5.params.toList args.toList) :
    Calls Try.prog 5 args W fun e W' => e = .returned (.bool true) ∧ Below W.heap.size W W' := by
  rw [Try.params5] at h
  obtain ⟨v0, v1, rfl⟩ : ∃ v0 v1, args = #[v0, v1] := by
    rcases args with ⟨_ | ⟨v0, _ | ⟨v1, _ | ⟨v2, l⟩⟩⟩⟩ <;> simp [RdAll] at h
    exact ⟨v0, v1, rfl⟩
  obtain ⟨r0, r1, _⟩ := h
  obtain ⟨a0, len0, cap0, rfl, h0⟩ := r0.slice Try.underlying34
  obtain ⟨Ls, rfl, hb⟩ := Rd.bls h0
  obtain ⟨_, _, e0, ⟨hb1, hb2⟩, _, c0⟩ := hb
  simp only [Value.slice.injEq] at e0
  obtain ⟨rfl, _, rfl⟩ := e0
  obtain ⟨a1, len1, cap1, rfl, h1⟩ := r1.slice Try.underlying22
  obtain ⟨ks, rfl, hb3, hks⟩ := Rd.byt h1
  obtain ⟨_, _, e0, ⟨hb4, hb5⟩, _, k0⟩ := hb3
  simp only [Value.slice.injEq] at e0
  obtain ⟨rfl, _, rfl⟩ := e0
  have C0 := hid c0
  have K0 := hid k0
  have HKS := hid hks
  unfold maxLen at hb2 hb5
  clear c0 h0 r0 k0 h1 r1 hks
  go_enter Try.func5, Try.ntmps5
  go_wp2_with fail
  refine (awake_any _).mono ?_; rintro e w1 ⟨rfl, hb1⟩
  have L1 := hid hb1; clear hb1
  go_wp2_with fail
  refine (new_any _).mono ?_; rintro e w2 ⟨rfl, hbb, hk2⟩
  have S0 : St W w2 w1.heap.size [] (.slice none 0 0) [] := ⟨_, [], hbb, fun k hk => by
      subst hk
      obtain ⟨ao, cap, ps, q1, _⟩ := hbb
      exact ⟨L1.out.size, row_lt q1⟩, L1.out.trans (hk2.fresh L1.out.size), Own.nil _ _ _, by simp, by simp, by simp [Value.ownBlock]⟩
  have S0 := hid S0
  clear hbb hk2 L1
  go_wp2_with fail

  go_loopw [6, 19] (fun want i wr => ∃ (k : Nat) (M : List (List Int)), k ≤ Ls.length ∧ i = .int .i64 k ∧ M.length ≤ k ∧ M.length ≤ 40 ∧ (∀ l ∈ M, l.length < 1000) ∧ St W wr w1.heap.size M want M)
    (fun _ i _ => Ls.length - (intOf i).toNat)
  case atStart => exact ⟨0, [], Nat.zero_le _, rfl, Nat.le_refl _, by decide, (fun l hl => by cases hl), S0.out⟩
  case round =>
    clear S0
    obtain ⟨k, M, hk, rfl, hM, hM2, hM3, hst⟩ := hrel
    have ST := hid hst; clear hst
    have HM3 := hid hM3; clear hM3
    obtain ⟨vo, vc, rfl⟩ := ST.out.isSlice
    by_cases hlt : k < Ls.length
    · obtain ⟨b, off, p, rfl, hc, hby⟩ := C0.out k Ls[k] (by simp [hlt])
      have HBY := hid hby
      obtain ⟨pa, pc, rfl, _⟩ := hby
      have hc := hid hc
      have hlt1 := World.block_lt_of_cell? W _ hc.out
      have hcw := hid ((ST.out.below.cell (p := ⟨b, off + k, none⟩) hlt1).trans hc.out); clear hc hlt1
      have c1 := hcw.out
      by_cases h60 : (k : Int) < 40
      · by_cases e0 : Ls[k].length = 0
        · have e0' : ¬ (0 : Int) < (Ls[k].length : Int) := by omega
          go_wp2
          go_roundw
          case rel => exact ⟨k + 1, M, by omega, by simp, by omega, hM2, HM3.out, ST.out⟩
          case measure => simp [intOf]; omega
        · have e0' : (0 : Int) < (Ls[k].length : Int) := by omega
          by_cases e1 : 1000 ≤ Ls[k].length
          · have e1' : ¬ (Ls[k].length : Int) < 1000 := by omega
            go_wp2
            go_roundw
            case rel => exact ⟨k + 1, M, by omega, by simp, by omega, hM2, HM3.out, ST.out⟩
            case measure => simp [intOf]; omega
          · have e1' : (Ls[k].length : Int) < 1000 := by omega
            have HBW := hid (HBY.out.below ST.out.below (Nat.le_refl _))
            go_wp2_with fail
            refine (twin_any (by exact HBW.out.bts) (by omega)).mono ?_; rintro e w3 ⟨ta, tc, rfl, hown, hfr, hk3⟩
            have HO := hid hown; clear hown hfr
            have ST3 := hid (ST.out.kept hk3); clear hk3
            go_wp2_with fail
            refine (stPut ST3.out _ Ls[k] (by exact HO.out.byt) (by omega) (by omega)).mono ?_; rintro e w4 ⟨rfl, hst4⟩
            have hpe : putE M Ls[k] = 0 := by unfold putE; rw [if_neg (by omega), if_neg e0, if_neg (by omega)]
            have hpl : putL M Ls[k] = M ++ [Ls[k]] := by unfold putL; rw [if_pos hpe]
            rw [hpe]
            rw [hpl] at hst4
            clear hpe hpl
            obtain ⟨F, ws, h1, h2, h3, h4, h5, h6, h7⟩ := hst4
            have H1 := hid h1; clear h1
            have H2 := hid h2; clear h2
            have H3 := hid h3; clear h3
            have H4 := hid h4; clear h4
            have H5 := hid h5; clear h5
            have H6 := hid h6; clear h6
            have H7 := hid h7; clear h7
            go_wp2_with (at_builtin; refine wpList_app rfl _ _ 34 rfl 22 (.slice none 0 0) 1 24 Try.underlying34 info22 rfl (by decide) (.slice vo M.length vc) M.length ws rfl (by exact H4.out.alloc _) _ rfl 1 [.slice pa Ls[k].length pc] (by exact src_one _ rfl) (by simp only [maxLen]; omega) (by omega) ?_)
            intro a5 c5 w5 hown5 hk5 hf5 _
            have HO5 := hid hown5; clear hown5
            have HK5 := hid hk5; clear hk5
            have HF5 := hid hf5; clear hf5
            have ST5 := hid (st_grow H1.out H2.out H3.out H4.out H5.out H6.out H7.out HBY.out HO5.out HK5.out HF5.out)
            clear H1 H2 H3 H4 H5 H6 H7 HO5 HK5 HF5
            go_wp2
            go_roundw
            case rel => exact ⟨k + 1, M ++ [Ls[k]], by omega, by simp, by simp; omega, by simp; omega, fun l hl => by
              rcases List.mem_append.1 hl with h | h
              · exact HM3.out l h
              · simp at h; subst h; omega, by simpa using ST5.out⟩
            case measure => simp [intOf]; omega
      · go_wp2
        go_roundw
        case rel => exact ⟨k + 1, M, by omega, by simp, by omega, hM2, HM3.out, ST.out⟩
        case measure => simp [intOf]; omega
    · obtain rfl : k = Ls.length := by omega
      go_wp2_with fail
      go_loopw [6, 48] (fun want i wz => ∃ (q : Nat) (M : List (List Int)), q ≤ ks.length ∧ i = .int .i64 q ∧ M.length ≤ 40 ∧ St W wz w1.heap.size M want M)
        (fun _ i _ => ks.length - (intOf i).toNat)
      case atStart => exact ⟨0, M, Nat.zero_le _, rfl, hM2, ST.out⟩
      case round =>
        clear ST hM hM2 HM3
        obtain ⟨q, M, hq, rfl, hM2, hst⟩ := hrel
        have ST := hid hst; clear hst
        obtain ⟨vo, vc, rfl⟩ := ST.out.isSlice
        by_cases hqk : q < ks.length
        · obtain ⟨b, off, rfl, hc⟩ := K0.out q ks[q] (by simp [hqk])
          obtain ⟨z, hz⟩ : ∃ z, z = ks[q] := ⟨_, rfl⟩
          have hz0 := HKS.out ks[q] (by simp)
          rw [← hz] at hc hz0
          clear hz
          have hlt1 := World.block_lt_of_cell? W _ hc
          have hcw := (ST.out.below.cell (p := ⟨b, off + q, none⟩) hlt1).trans hc; clear hc hlt1
          by_cases h40 : (40 : Int) ≤ (q : Int)
          · have t0 := trivial
            go_wp2_with fail
            refine (all_bls ST.out.bag (by omega)).mono ?_; rintro e w3 ⟨ra, rc, rfl, hbl, hk3⟩
            have S3 := hid (ST.out.kept hk3); clear hk3
            have HBL := hid hbl; clear hbl
            go_wp2_with fail
            refine (same_lists HBL.out S3.out.bls).mono ?_; rintro e w4 ⟨rfl, hk4⟩
            have S4 := hid (S3.out.kept hk4); clear hk4
            have hd : decide (M = M) = true := by simp
            go_wp2_with fail
            refine (len_any S4.out.bag).mono ?_; rintro e w5 ⟨rfl, rfl⟩
            go_wp2
            go_ret
            exact ⟨rfl, S4.out.below⟩
          · by_cases hm0 : M.length = 0
            · have hm0' : ((M.length : Int) == 0) = true := by simp [hm0]
              have hm0' := hid hm0'; clear hm0
              have hm0' := hm0'.out
              go_wp2_with fail
              refine (all_bls ST.out.bag (by omega)).mono ?_; rintro e w3 ⟨ra, rc, rfl, hbl, hk3⟩
              have S3 := hid (ST.out.kept hk3); clear hk3
              have HBL := hid hbl; clear hbl
              go_wp2_with fail
              refine (same_lists HBL.out S3.out.bls).mono ?_; rintro e w4 ⟨rfl, hk4⟩
              have S4 := hid (S3.out.kept hk4); clear hk4
              have hd : decide (M = M) = true := by simp
              go_wp2_with fail
              refine (len_any S4.out.bag).mono ?_; rintro e w5 ⟨rfl, rfl⟩
              go_wp2
              go_ret
              exact ⟨rfl, S4.out.below⟩
            · have hm0' : ((M.length : Int) == 0) = false := by simp; exact fun h => hm0 (by simp [h])
              obtain ⟨j, hj, hjl⟩ : ∃ j : Nat, z % (M.length : Int) = (j : Int) ∧ j < M.length := by
                have h1 := Int.emod_nonneg z (show ((M.length : Nat) : Int) ≠ 0 by omega)
                have h2 := Int.emod_lt_of_pos z (show (0 : Int) < (M.length : Int) by omega)
                exact ⟨(z % (M.length : Int)).toNat, by omega, by omega⟩
              obtain ⟨hz1, hz2⟩ := hz0
              have hjt : z.tmod (M.length : Int) = (j : Int) := by rw [Int.tmod_eq_emod_of_nonneg hz1]; exact hj
              go_wp2_with fail
              try rw [hj]
              refine (stTake ST.out j M[j] (by simp [hjl])).mono ?_; rintro e w3 ⟨pa, pc, rfl, hby, hst3⟩
              have HBY := hid hby; clear hby
              obtain ⟨F, ws, h1, h2, h3, h4, h5, h6, h7⟩ := hst3
              obtain ⟨g, cap, e0, hgn, hgc⟩ := h4.some_of_pos (by omega)
              simp only [Value.slice.injEq] at e0
              obtain ⟨rfl, _, rfl⟩ := e0
              have hwl : ws.length = M.length := by simpa using h4.len
              have cj := h4.cells (g := g) rfl j (by omega)
              obtain ⟨pj, hpj⟩ : ∃ pj, ws[j]'(by omega) = pj := ⟨_, rfl⟩
              rw [hpj] at cj
              have hbj := h5 j pj M[j] (by rw [← hpj]; simp) (by simp [hjl])
              have HBJ := hid (hbj.below h3 (Nat.le_refl _)); clear hbj
              have H1 := hid h1; clear h1
              have H2 := hid h2; clear h2
              have H3 := hid h3; clear h3
              have H4 := hid h4; clear h4
              have H5 := hid h5; clear h5
              have H6 := hid h6; clear h6
              have H7 := hid h7; clear h7
              clear hpj
              have HWL := hid hwl; clear hwl
              unfold maxLen at hgc
              have hjl' : (j : Int) < (M.length : Int) := by omega
              have hd : decide (M[j] = M[j]) = true := by simp
              go_wp2_with fail
              refine (same_bytes HBY.out HBJ.out).mono ?_; rintro e w4 ⟨rfl, hk4⟩
              have HK4 := hid hk4; clear hk4
              have hs1 : Src w4 1 (.slice (some ⟨g, 0, none⟩) j vc) j (ws.take j) := src_row (by simp; have := HWL.out; omega) (fun a u hu => by
                rw [List.getElem?_take] at hu
                split at hu
                · obtain ⟨ha, e⟩ := List.getElem?_eq_some_iff.1 hu
                  rw [Nat.zero_add, ← e]
                  exact HK4.out.cell (H4.out.cells (g := g) rfl a ha) id
                · simp at hu) (fun u hu => H6.out u (List.mem_of_mem_take hu))
              have HS1 := hid hs1; clear hs1
              obtain ⟨jj, hjj⟩ : ∃ jj, jj = j + 1 := ⟨_, rfl⟩
              have hwr : IntKind.i64.wrap ((j : Int) + 1) = (jj : Int) := by rw [IntWalk.i64_in _ (by omega)]; omega
              obtain ⟨oj, hA, hoj⟩ : ∃ oj, (if vc = jj then some (⟨g, 0, none⟩ : Addr) else some ⟨g, jj, none⟩) = some ⟨g, oj, none⟩ ∧ (jj < M.length → oj = jj) := by
                by_cases hcj : vc = jj
                · exact ⟨0, by rw [if_pos hcj], fun h => by omega⟩
                · exact ⟨jj, by rw [if_neg hcj], fun _ => rfl⟩
              have hs2 : Src w4 1 (.slice (some ⟨g, oj, none⟩) (M.length - jj) (vc - jj)) (M.length - jj) (ws.drop jj) := src_row (by simp; have := HWL.out; omega) (fun a u hu => by
                rw [List.getElem?_drop] at hu
                obtain ⟨ha, e⟩ := List.getElem?_eq_some_iff.1 hu
                have := HWL.out
                rw [hoj (by omega), ← e]
                exact HK4.out.cell (H4.out.cells (g := g) rfl _ ha) id) (fun u hu => H6.out u (List.mem_of_mem_drop hu))
              have HS2 := hid hs2; clear hs2
              have HOJ := hid hoj; clear hoj
              have hn1 : j ≤ vc := by omega
              have hn2 : jj ≤ M.length := by omega
              have hn3 : jj ≤ vc := by omega
              have hjm : (jj : Int) ≤ (M.length : Int) := by omega
              have hjc : (jj : Int) ≤ (vc : Int) := by omega
              have hjz : (0 : Int) ≤ (jj : Int) := by omega
              have HJJ := hid hjj; clear hjj
              go_wp2_with fail
              go_region_law (first
                | (refine step_app rfl (.tmp 82) (.tmp 85) 34 rfl 22 (.slice none 0 0) 1 24 Try.underlying34 info22 rfl (by decide) _ 0 [] (by simp [Act.eval, Act.put]; rfl) (by exact (own_empty _ _ _).drew) _ (by simp [Act.eval, Act.put]; rfl) j (ws.take j) (by exact HS1.out.kept (((Kept.refl (fun _ => False) _).alloc _).drew) (fun _ _ => id)) (by simp only [maxLen]; omega) (by omega) ?_; intro a5 c5 w5 hown5 hk5 hf5 hn5; have HO5 := hid hown5; have HK5 := hid (((((Kept.refl (fun _ => False) w4).alloc _).drew)).trans' hk5 (fun i hi => by simp [Value.ownBlock] at hi; right; omega)); have HF5 := hid hf5; clear hown5 hk5 hf5 hn5)
                | (refine step_app rfl (.tmp 86) (.tmp 90) 34 rfl 22 (.slice none 0 0) 1 24 Try.underlying34 info22 rfl (by decide) (.slice a5 (0 + j) c5) (0 + j) ([] ++ ws.take j) (by simp [Act.eval, Act.put]) (by exact HO5.out) _ (by simp [Act.eval, Act.put]; rfl) (M.length - jj) (ws.drop jj) (by exact HS2.out.kept HK5.out (fun _ _ => id)) (by simp only [maxLen]; omega) (by omega) ?_; intro a6 c6 w6 hown6 hk6 hf6 hn6; have HO6 := hid hown6; have HK6 := hid hk6; have HF6 := hid hf6; clear hown6 hk6 hf6 hn6))
              all_goals
                have hb5 : ∀ i, (Value.slice a5 (0 + j) c5).ownBlock = some i → w4.heap.size ≤ i := fun i hi => by
                  rcases HF5.out i hi with h | h
                  · simp [Value.ownBlock] at h; omega
                  · (try simp at h); omega
                have hb6 : ∀ i, (Value.slice a6 (0 + j + (M.length - jj)) c6).ownBlock = some i → w3.heap.size ≤ i := fun i hi => by
                  have := HK4.out.size
                  have := HK5.out.size
                  rcases HF6.out i hi with h | h
                  · have := hb5 i h; omega
                  · (try simp at h); omega
                have ST6 := hid (st_cut H1.out H2.out H3.out H4.out H5.out H6.out H7.out (((HK4.out.trans HK5.out).trans' HK6.out (fun i hi => .inr (by have := hb5 i hi; have := HK4.out.size; omega)))) (by have := HO6.out; rw [List.nil_append, HJJ.out] at this; exact this) (by rw [← HJJ.out]; exact hb6) hjl)
                clear H1 H2 H3 H4 H5 H6 H7 hb5 hb6 HK5 HK6 HF5 HF6 HO5 HO6
                rw [← HJJ.out] at ST6
                have hwl2 : (without M j).length ≤ 40 := by rw [without_len hjl]; omega
                go_wp2
                go_roundw
                case rel => exact ⟨q + 1, without M j, by omega, by simp, hwl2, by simpa using ST6.out⟩
                case measure => simp [intOf]; omega
        · obtain rfl : q = ks.length := by omega
          have t0 := trivial
          go_wp2_with fail
          refine (all_bls ST.out.bag (by omega)).mono ?_; rintro e w3 ⟨ra, rc, rfl, hbl, hk3⟩
          have S3 := hid (ST.out.kept hk3); clear hk3
          have HBL := hid hbl; clear hbl
          go_wp2_with fail
          refine (same_lists HBL.out S3.out.bls).mono ?_; rintro e w4 ⟨rfl, hk4⟩
          have S4 := hid (S3.out.kept hk4); clear hk4
          have hd : decide (M = M) = true := by simp
          go_wp2_with fail
          refine (len_any S4.out.bag).mono ?_; rintro e w5 ⟨rfl, rfl⟩
          go_wp2
          go_ret
          exact ⟨rfl, S4.out.below⟩
end Go.Proofs.Ytoefffnodamocaa
