/- slices.Delete, slices.Insert at pages (by tools/ins.py, out of span D and E). -/
import Derived.Test.YtfmohmlpcielnaaA
namespace Go.Proofs.Ytfmohmlpcielnaa
open Go.RowKit

theorem infoSP : (Try.prog.info? 69).map (fun i => (i.zero, i.size, i.bytes)) = some (some (.pointer none), 1, 8) := by kernel_rfl
theorem zeroSP (w : World) : (zeroValue 69).run Try.prog w = .ok (.pointer none) w := by kernel_rfl
set_option maxRecDepth 100000 in
set_option maxHeartbeats 1000000 in
theorem del_anyP {w : World} {v : Value} {n : Nat} {xs : List Value} (h : Seg w 69 1 v n xs) (h1 : ∀ u ∈ xs, u.oneCell' = true) (i j : Nat) (hij : i < j) (hj : j ≤ n) :
    Calls Try.prog 41 #[v, .int .i64 i, .int .i64 j] w fun e w' => ∃ cap', e = .returned (.slice (v.ownBlock.map fun g => ⟨g, 0, none⟩) (i + (n - j)) cap') ∧ Seg w' 69 1 (.slice (v.ownBlock.map fun g => ⟨g, 0, none⟩) (i + (n - j)) cap') (i + (n - j)) (xs.take (i) ++ xs.drop (j)) ∧ Kept (fun k => v.ownBlock = some k) w w' := by
  rcases h.shape with ⟨_, h0, _⟩ | ⟨g, cap, cur, rfl, hg, hnc, hcm, hcs, htk⟩
  · omega
  · simp only [Nat.mul_one] at hcs htk
    have hij' : ((i : Int) == (j : Int)) = false := by simp; omega
    have hil : (i : Int) ≤ (j : Int) := by omega
    have hjn : (j : Int) ≤ (n : Int) := by omega
    have hicap : i ≤ cap := by omega
    have hlen : xs.length = n := by have := h.len; omega
    have hsrc : ∀ (off : Nat), (j < n → off = j) → ∀ a u, (xs.drop (j))[a]? = some u → w.drew.cell? ((⟨g, off, none⟩ : Addr).add a) = some u := fun off hoff a u hu => by
      rw [List.getElem?_drop] at hu
      obtain ⟨ha, e⟩ := List.getElem?_eq_some_iff.1 hu
      rw [hoff (by omega), ← e, Addr.add_mid]
      exact h.cells rfl (j + a) ha
    have H1 := hid h1
    obtain ⟨oj, hA, hoj⟩ : ∃ oj, (if cap = j then some (⟨g, 0, none⟩ : Addr) else some ⟨g, j, none⟩) = some ⟨g, oj, none⟩ ∧ (j < n → oj = j) := by
      by_cases hcj : cap = j
      · exact ⟨0, by rw [if_pos hcj], fun h => by omega⟩
      · exact ⟨j, by rw [if_neg hcj], fun _ => rfl⟩
    have HOJ := hid hoj; have HS := hid hsrc; have HL := hid hlen
    have HG := hid hg; have HT := hid htk; have HX := hid h; have HC := hid hcs; have HCM := hid hcm
    clear hg htk hcs h hoj hsrc hlen hcm h1
    go_enter Try.func41, Try.ntmps41
    go_wp2_with fail
    refine wp_region_still_tail 6 (by kernel_rfl) (by kernel_rfl) ?_
    simp only [List.take_succ_cons, List.take_zero, List.drop_succ_cons, List.drop_zero, World.drew_eq]
    iterate 6 still_step
    refine wpStill_nil ?_
    change wpList _ _ _ _ _ (World.drew _)
    refine wpList_app_roomS rfl (.tmp 22) (.tmp 25) 62 rfl 69 (.pointer none) 1 8 Try.underlying62 infoSP g i cap cur (by exact HG.out) (by have := HC.out; omega) (by simp [Act.eval, Act.put]) ⟨g, oj, none⟩ (n - j) (cap - j) (by simp [Act.eval, Act.put]) (xs.drop (j)) (by simp [HL.out] <;> omega) (by exact HS.out oj HOJ.out) (fun u hu => H1.out u (List.mem_of_mem_drop hu)) (by omega) ?_
    intro w1 cur1 hg1 hc1 hk1
    have hcz : cap ≤ cur1.size := by
      have h1 := HL.out; have h2 := HC.out; have h3 := congrArg List.length hc1.out
      simp at h3; omega
    obtain ⟨w2, cur2, hr, hg2, hc2, hz2, hk2⟩ := run_clear_some (P := Try.prog) w1 62 69 0 (.pointer none) 1 Try.underlying62 zeroSP rfl (by simp [Value.cells, Value.oneCell']) g ((i + (n - j))) (n - (i + (n - j))) (cap - (i + (n - j))) cur1 hg1.out (by omega)
    have HCZ := hid hcz; clear hcz
    have HR := hid hr; clear hr
    have HG2 := hid hg2; clear hg2
    have HC2 := hid hc2; clear hc2
    have HZ2 := hid hz2; clear hz2
    have HK2 := hid hk2; clear hk2
    go_wp2_with fail
    rw [HR.out]
    go_wp2
    go_ret
    refine ⟨cap, rfl, ?_, ?_⟩
    · have ho := Seg.mk (n := i + (n - j)) (size := 1) HG2.out (by omega : i + (n - j) ≤ cap) HCM.out (by rw [HZ2.out]; have := HCZ.out; omega)
      have e1 : cur2.toList.take ((i + (n - j))) = xs.take (i) ++ xs.drop (j) := by
        have h1 := HL.out; have h2 := HC.out; have h3 := HT.out
        rw [HC2.out, hc1.out]; simp only [Nat.mul_one]
        have l1 : ((cur.toList.take (i) ++ xs.drop (j)) ++ cur.toList.drop (i + (xs.drop (j)).length)).take ((i + (n - j))) = cur.toList.take (i) ++ xs.drop (j) := by
          rw [List.take_left']
          simp; omega
        rw [l1, List.append_assoc, List.take_left' (by simp; omega), ← h3, List.take_take, Nat.min_eq_left (by omega)]
      rw [Nat.mul_one, e1] at ho
      exact ho
    · exact (hk1.out.of_drew.trans HK2.out).mono (fun i _ h => by subst h; rfl)
set_option maxHeartbeats 1000000 in
theorem del_noneP {w : World} {ao : Option Addr} {n c : Nat} (i : Nat) (hi : i ≤ n) (hn : n ≤ c) (hc : c ≤ maxLen) :
    Calls Try.prog 41 #[.slice ao n c, .int .i64 i, .int .i64 i] w fun e w' => e = .returned (.slice ao n c) ∧ w = w' := by
  have hij : ((i : Int) == (i : Int)) = true := by simp
  have hil : (i : Int) ≤ (n : Int) := by omega
  unfold maxLen at hc
  go_enter Try.func41, Try.ntmps41
  go_wp2
  all_goals
    go_ret
    exact ⟨rfl, rfl⟩
theorem sizeSP : (Try.prog.info? 69).map (·.size) = some 1 := by kernel_rfl
theorem sizeOfSP (w : World) : (Go.sizeOf 69).run Try.prog w = .ok 1 w := by kernel_rfl


def InsPostP (w : World) (v : Value) (n : Nat) (xs : List Value) (e : Ending) (w' : World) : Prop :=
  ∃ ao c, e = .returned (.slice ao n c) ∧ Seg w' 69 1 (.slice ao n c) n xs ∧ Kept (fun k => v.ownBlock = some k) w w' ∧ (∀ g, (Value.slice ao n c).ownBlock = some g → v.ownBlock = some g ∨ w.heap.size ≤ g)
set_option maxRecDepth 100000 in
set_option maxHeartbeats 1000000 in
theorem ins_noneP {w : World} {v : Value} {n : Nat} {xs : List Value} (h : Seg w 69 1 v n xs) (i : Nat) (hi : i ≤ n) (bo : Option Addr) (c : Nat) :
    Calls Try.prog 27 #[v, .int .i64 i, .slice bo 0 c] w (InsPostP w v n xs) := by
  obtain ⟨ao, cap, hv, hn, hc⟩ : ∃ ao cap, v = .slice ao n cap ∧ n ≤ cap ∧ cap ≤ maxLen := by
    rcases h.shape with ⟨rfl, rfl, _⟩ | ⟨g, cap, cur, rfl, _, hnc, hcm, _⟩
    · exact ⟨none, 0, rfl, Nat.le_refl _, Nat.zero_le _⟩
    · exact ⟨_, cap, rfl, hnc, hcm⟩
  subst hv
  have HO := hid h; clear h
  unfold maxLen at hc
  have hil : (i : Int) ≤ (n : Int) := by omega
  by_cases hci : cap = i
  · subst hci
    go_enter Try.func27, Try.ntmps27
    go_wp2
    go_ret
    exact ⟨_, _, rfl, HO.out, Kept.refl _ _, fun g hg => .inl hg⟩
  · go_enter Try.func27, Try.ntmps27
    go_wp2
    go_ret
    exact ⟨_, _, rfl, HO.out, Kept.refl _ _, fun g hg => .inl hg⟩
set_option maxRecDepth 100000 in
set_option maxHeartbeats 1000000 in
theorem ins_endP {w : World} {v : Value} {n : Nat} {xs : List Value} (h : Seg w 69 1 v n xs) (x : Value) (m : Nat) (vs : List Value) (hx : Src w 1 x m vs) (hm : 0 < m) (hb : n + m ≤ 17592186044416) :
    Calls Try.prog 27 #[v, .int .i64 n, x] w (InsPostP w v (n + m) (xs ++ vs)) := by
  obtain ⟨ao, cap, hv, hn, hc⟩ : ∃ ao cap, v = .slice ao n cap ∧ n ≤ cap ∧ cap ≤ maxLen := by
    rcases h.shape with ⟨rfl, rfl, _⟩ | ⟨g, cap, cur, rfl, _, hnc, hcm, _⟩
    · exact ⟨none, 0, rfl, Nat.le_refl _, Nat.zero_le _⟩
    · exact ⟨_, cap, rfl, hnc, hcm⟩
  obtain ⟨bo, c, hxe⟩ : ∃ bo c, x = .slice bo m c := by
    obtain ⟨bo, c, e, _⟩ := hx
    exact ⟨bo, c, e⟩
  subst hv hxe
  have HO := hid h; have HX := hid hx; clear h hx
  unfold maxLen at hc
  have hm0 : ((m : Int) == 0) = false := by simp; omega
  have hil : (n : Int) ≤ (n : Int) := by omega
  by_cases hci : cap = n
  · subst hci
    go_enter Try.func27, Try.ntmps27
    go_wp2_with (at_builtin; refine wpList_app_seg (o := ⟨some 25, _, _, _, _, _⟩) rfl (.tmp 23) (.tmp 24) 62 rfl 69 (.pointer none) 1 8 Try.underlying62 infoSP rfl (by decide) (.slice ao cap cap) cap xs (by simp [Act.eval, Act.put]) (by exact HO.out) (.slice bo m c) (by simp [Act.eval, Act.put]) m vs (by exact HX.out) (by unfold maxLen; omega) (by omega) ?_; intro a1 c1 w1 ho1 hk1 hf1; have HO1 := hid ho1; have HK1 := hid hk1; have HF1 := hid hf1; clear ho1 hk1 hf1)
    go_ret
    exact ⟨_, _, rfl, HO1.out, HK1.out, HF1.out⟩
  · go_enter Try.func27, Try.ntmps27
    go_wp2_with (at_builtin; refine wpList_app_seg (o := ⟨some 25, _, _, _, _, _⟩) rfl (.tmp 23) (.tmp 24) 62 rfl 69 (.pointer none) 1 8 Try.underlying62 infoSP rfl (by decide) (.slice ao n cap) n xs (by simp [Act.eval, Act.put]) (by exact HO.out) (.slice bo m c) (by simp [Act.eval, Act.put]) m vs (by exact HX.out) (by unfold maxLen; omega) (by omega) ?_; intro a1 c1 w1 ho1 hk1 hf1; have HO1 := hid ho1; have HK1 := hid hk1; have HF1 := hid hf1; clear ho1 hk1 hf1)
    go_ret
    exact ⟨_, _, rfl, HO1.out, HK1.out, HF1.out⟩
set_option maxRecDepth 100000 in
set_option maxHeartbeats 1000000 in
theorem ins_growP {w : World} {g n cap i : Nat} {xs : List Value} (h : Seg w 69 1 (.slice (some ⟨g, 0, none⟩) n cap) n xs) (h1 : ∀ u ∈ xs, u.oneCell' = true) (hi : i < n) (hn : n ≤ cap) (hcap : cap ≤ maxLen) (bo : Addr) (c m : Nat) (vs : List Value) (hx : Src w 1 (.slice (some bo) m c) m vs) (hm : 0 < m) (hg : cap < n + m) (hb : n + m ≤ 17592186044416) :
    Calls Try.prog 27 #[.slice (some ⟨g, 0, none⟩) n cap, .int .i64 i, .slice (some bo) m c] w (InsPostP w (.slice (some ⟨g, 0, none⟩) n cap) (n + m) (xs.take (i) ++ vs ++ xs.drop (i))) := by
  have hm0 : ((m : Int) == 0) = false := by simp; omega
  have hin : ((i : Int) == (n : Int)) = false := by simp; omega
  have hil : (i : Int) ≤ (n : Int) := by omega
  have hgt : (cap : Int) < (n : Int) + (m : Int) := by omega
  have hic : i ≤ cap := by omega
  have e1 : IntKind.i64.wrap ((n : Int) + (m : Int)) = (n : Int) + (m : Int) := by rw [IntKind.wrap_i64]; omega
  have e2 : IntKind.i64.wrap ((n : Int) + (m : Int) - (i : Int)) = ((n + m - i : Nat) : Int) := by rw [IntKind.wrap_i64]; omega
  have e3 : IntKind.i64.wrap ((i : Int) + (m : Int)) = (i : Int) + (m : Int) := by rw [IntKind.wrap_i64]; omega
  have e4 : (0 : Int) ≤ (i : Int) + (m : Int) := by omega
  have e5 : ((i : Int) + (m : Int)).toNat = i + m := by omega
  have hlen : xs.length = n := by have := h.len; omega
  have hcells : ∀ j v, xs[j]? = some v → w.cell? ⟨g, j, none⟩ = some v := fun j v hj => by
    obtain ⟨hj', e⟩ := List.getElem?_eq_some_iff.1 hj
    rw [← e]; exact h.cells rfl j hj'
  have hgl : g < w.heap.size := h.lt rfl
  have hsub : i + (n + m - i) = n + m := by omega
  have hcc : ¬ cap = i := by omega
  unfold maxLen at hcap
  obtain ⟨bo', c', he, hvl, _, hvs, hv1⟩ := hx
  simp only [Value.slice.injEq] at he
  obtain ⟨rfl, _, rfl⟩ := he
  have hvs := hvs bo rfl
  have hbl : bo.block < w.heap.size := by
    have hv0 : 0 < vs.length := by rw [hvl]; omega
    have h0 := hvs 0 vs[0] (by simp)
    have h2 := World.block_lt_of_cell? w _ h0
    unfold Addr.add at h2
    split at h2 <;> exact h2
  have HC := hid hcells; have HV := hid hvs; have HL := hid hlen; have HVL := hid hvl; have HX1 := hid h1; have HV1 := hid hv1; have HB := hid hbl; have HG := hid hgl
  clear hcells hvs hlen hvl h1 hv1 hbl hgl h
  go_enter Try.func27, Try.ntmps27
  go_wp2_with (first
    | (at_builtin; refine wpList_app_zeros (o := ⟨some 40, _, _, _, _, _⟩) rfl (.tmp 34) (.tmp 39) 62 3 rfl 69 (.pointer none) 1 8 Try.underlying62 Try.underlying3 infoSP rfl (by decide) g i cap (xs.take (i)) (by simp [Act.eval, Act.put]) (n + m - i) (by simp [Act.eval, Act.put, e2]) (by simp [HL.out] <;> omega) (by intro j v hj; exact HC.out j v (by rw [List.getElem?_take] at hj; split at hj; exact hj; cases hj)) (by omega) (by omega) (by unfold maxLen; omega) (by omega) ?_; intro w1 cur1 cap1 hr1 ht1 hz1 hn1 hm1 hk1; rw [hsub]; have hm1' : cap1 ≤ 9223372036854775807 := hm1; have hci1 : ¬ cap1 = i := by omega)
    | (with_reducible refine wpList_at 45 ?_; (refine wpList_copy_some (o := ⟨some 45, _, _, _, _, _⟩) rfl (.tmp 43) (.tmp 44) 62 62 rfl 69 1 Try.underlying62 sizeSP w.heap.size (i) (n + m - i) (cap1 - i) bo m c (by simp [Act.eval, Act.put]) (by simp [Act.eval, Act.put]) cur1 69 (by exact hr1.out) vs m (Nat.min_eq_left (by omega)) (by exact HVL.out) (by intro j v hj; exact hk1.out.cell (HV.out j v hj) id) (by rw [HVL.out, hz1.out]; omega) (by exact HV1.out) ?_; intro w2 cur2 hr2 ht2 hk2)))
  have hcc2 : ∀ j v, (xs.drop (i))[j]? = some v → w2.drew.cell? ((⟨g, i, none⟩ : Addr).add j) = some v := fun j v hj => by
    rw [Addr.add_lit]
    rw [List.getElem?_drop] at hj
    exact hk2.out.cell (hk1.out.cell (HC.out _ _ hj) id) (by have := HG.out; simp only; omega)
  have HCC := hid hcc2; clear hcc2
  have hz2 : cur2.size = cur1.size := by
    have h1 := congrArg List.length ht2.out; have h2 := HVL.out; have h3 := hz1.out
    simp at h1; omega
  have hfit : (i + m) + (xs.drop (i)).length ≤ cur2.size := by rw [hz2, hz1.out]; have := HL.out; simp; omega
  have HFIT := hid hfit; have HZ2 := hid hz2; clear hfit hz2
  have hcim : ¬ cap1 = i + m := by omega
  go_region_law (refine step_copy_some rfl (.tmp 50) (.tmp 53) 62 62 rfl 69 1 Try.underlying62 sizeSP w.heap.size ((i + m)) (n + m - (i + m)) (cap1 - (i + m)) ⟨g, i, none⟩ (n - i) (cap - i) (by simp [Act.eval, Act.put]) (by simp [Act.eval, Act.put]) cur2 69 (by exact hr2.out) (xs.drop (i)) (n - i) (Nat.min_eq_left (by omega)) (by simp [HL.out] <;> omega) (by exact HCC.out) (by exact HFIT.out) (by intro u hu; exact HX1.out u (List.mem_of_mem_drop hu)) ?_; intro w3 cur3 hr3 ht3 hk3)
  go_wp2
  go_ret
  refine ⟨_, _, rfl, ?_, ?_, fun g' hg' => ?_⟩
  · have ho := Seg.mk (n := n + m) (size := 1) hr3.out (by omega : n + m ≤ cap1) hm1 (by
      have h1 := congrArg List.length ht3.out; have h2 := HFIT.out; have h3 := HZ2.out; have h4 := hz1.out
      simp at h1 h2; omega)
    have h5 := two_copies cur1.toList (xs.take (i)) vs (xs.drop (i)) cur2.toList cur3.toList (i) (by have := ht1.out; rwa [Nat.mul_one] at this) (by have := HL.out; simp; omega) ht2.out (by rw [ht3.out, HVL.out, Nat.mul_one])
    rw [show (n + m) * 1 = i + vs.length + (xs.drop (i)).length by rw [HVL.out]; have := HL.out; simp; omega, h5] at ho
    simpa using ho
  · exact (hk1.out.trans' (hk2.out.trans (Kept.of_drew hk3.out)) (fun i hi => by subst hi; exact .inr (Nat.le_refl _))).mono (fun _ _ h => h.elim)
  · right; simp [Value.ownBlock] at hg'; omega
set_option maxRecDepth 100000 in
set_option maxHeartbeats 1000000 in
theorem ins_shiftP {w : World} {g n cap i : Nat} {xs : List Value} {cur : Array Value} (hgc : w.heap[g]? = some (.cells cur 69 (0, 0))) (hcs : cap ≤ cur.size) (htk : cur.toList.take (n) = xs) (h1 : ∀ u ∈ xs, u.oneCell' = true) (hi : i < n) (hcap : cap ≤ maxLen) {bg c m : Nat} {bcur : Array Value} {T : TypeId} (hbg : w.heap[bg]? = some (.cells bcur T (0, 0))) (hne : bg ≠ g) (vs : List Value) (hvs : ∀ j v, vs[j]? = some v → w.cell? ⟨bg, j, none⟩ = some v) (hvl : vs.length = m * 1) (hv1 : ∀ u ∈ vs, u.oneCell' = true) (hm : 0 < m) (hr : n + m ≤ cap) (hb : n + m ≤ 17592186044416) :
    Calls Try.prog 27 #[.slice (some ⟨g, 0, none⟩) n cap, .int .i64 i, .slice (some ⟨bg, 0, none⟩) m c] w (InsPostP w (.slice (some ⟨g, 0, none⟩) n cap) (n + m) (xs.take (i) ++ vs ++ xs.drop (i))) := by
  have hm0 : ((m : Int) == 0) = false := by simp; omega
  have hin : ((i : Int) == (n : Int)) = false := by simp; omega
  have hil : (i : Int) ≤ (n : Int) := by omega
  have hgt : ¬ (cap : Int) < (n : Int) + (m : Int) := by omega
  have hgt2 : (n : Int) + (m : Int) ≤ (cap : Int) := by omega
  have hgt3 : (i : Int) + (m : Int) ≤ (n : Int) + (m : Int) := by omega
  have hgt4 : (i : Int) ≤ (n : Int) + (m : Int) := by omega
  have hic : i ≤ cap := by omega
  have e1 : IntKind.i64.wrap ((n : Int) + (m : Int)) = (n : Int) + (m : Int) := by rw [IntKind.wrap_i64]; omega
  have e3 : IntKind.i64.wrap ((i : Int) + (m : Int)) = (i : Int) + (m : Int) := by rw [IntKind.wrap_i64]; omega
  have e4 : (0 : Int) ≤ (i : Int) + (m : Int) := by omega
  have e5 : ((i : Int) + (m : Int)).toNat = i + m := by omega
  have e6 : (0 : Int) ≤ (n : Int) + (m : Int) := by omega
  have e7 : ((n : Int) + (m : Int)).toNat = n + m := by omega
  have hlen : xs.length = n := by rw [← htk]; simp; omega
  have hcells : ∀ j v, xs[j]? = some v → w.cell? ⟨g, j, none⟩ = some v := fun j v hj => by
    rw [row_cell hgc]
    rw [← htk, List.getElem?_take] at hj
    split at hj
    · simpa using hj
    · cases hj
  have hcc : ¬ cap = i := by omega
  have hcim : ¬ cap = i + m := by omega
  unfold maxLen at hcap
  have hov : ∀ lb cb, (callFunc 38 #[.slice (some ⟨bg, 0, none⟩) m c, .slice (some ⟨g, (i + m), none⟩) lb cb]).run Try.prog w = .ok (.value (.bool false)) w := fun lb cb => by
    rw [run_callFunc_extern Try.func38 (by kernel_rfl) (by kernel_rfl) (by kernel_rfl) (e := Extern.SlicesOverlaps.overlaps #[62, 62] #[4]) (by kernel_rfl),
      Lib.run_overlaps_apart w 62 4 69 Try.underlying62 1 sizeOfSP ⟨bg, 0, none⟩ ⟨g, (i + m), none⟩ m c lb cb hne T 69 bcur.size cur.size (by simp [World.shape?, hbg]) (by simp [World.shape?, hgc]) (by omega) (row_free hbg _) (row_free hbg _)]
    rfl
  have HC := hid hcells; have HV := hid hvs; have HL := hid hlen; have HVL := hid hvl; have HX1 := hid h1; have HV1 := hid hv1; have HG := hid hgc; have HT := hid htk; have HCS := hid hcs
  have hfit : (i + m) + (xs.drop (i)).length ≤ cur.size := by simp [hlen]; omega
  have HFIT := hid hfit
  have hcc2 : ∀ j v, (xs.drop (i))[j]? = some v → w.drew.cell? ((⟨g, i, none⟩ : Addr).add j) = some v := fun j v hj => by
    rw [Addr.add_lit]
    rw [List.getElem?_drop] at hj
    exact HC.out _ _ hj
  have HCC := hid hcc2; clear hcc2
  clear hcells hvs hlen hvl h1 hv1 hgc htk hbg hfit hcs
  go_enter Try.func27, Try.ntmps27
  go_wp2_with (simp only [hov])
  go_region_law (refine step_copy_some rfl (.tmp 73) (.tmp 76) 62 62 rfl 69 1 Try.underlying62 sizeSP g ((i + m)) (n + m - (i + m)) (cap - (i + m)) ⟨g, i, none⟩ (n + m - i) (cap - i) (by simp [Act.eval, Act.put]) (by simp [Act.eval, Act.put]) cur 69 (by exact HG.out) (xs.drop (i)) (n - i) (by rw [show n + m - (i + m) = n - i from by omega]; exact Nat.min_eq_right (by omega)) (by simp [HL.out] <;> omega) (by exact HCC.out) (by exact HFIT.out) (by intro u hu; exact HX1.out u (List.mem_of_mem_drop hu)) ?_; intro w1 cur1 hr1 ht1 hk1)
  have hz1 : cur1.size = cur.size := by
    have h1 := congrArg List.length ht1.out; have h2 := HFIT.out
    simp at h1 h2; omega
  have HZ1 := hid hz1; clear hz1
  go_wp2_with (with_reducible refine wpList_at 82 ?_; (refine wpList_copy_some (o := ⟨some 82, _, _, _, _, _⟩) rfl (.tmp 80) (.tmp 81) 62 62 rfl 69 1 Try.underlying62 sizeSP g (i) (n + m - i) (cap - i) ⟨bg, 0, none⟩ m c (by simp [Act.eval, Act.put]) (by simp [Act.eval, Act.put]) cur1 69 (by exact hr1.out) vs m (Nat.min_eq_left (by omega)) (by exact HVL.out) (by intro j v hj; rw [Addr.add_lit, Nat.zero_add]; exact (Kept.of_drew hk1.out).cell (HV.out j v hj) (by simpa using hne)) (by rw [HVL.out, HZ1.out]; have := HCS.out; omega) (by exact HV1.out) ?_; intro w2 cur2 hr2 ht2 hk2))
  go_ret
  refine ⟨_, _, rfl, ?_, ?_, fun g' hg' => .inl hg'⟩
  · have ho := Seg.mk (n := n + m) (size := 1) hr2.out hr hcap (by
      have h1 := congrArg List.length ht2.out; have h2 := HZ1.out; have h3 := HVL.out; have h4 := HCS.out
      simp at h1; omega)
    have h5 := shift_copies cur.toList (xs.take (i)) vs (xs.drop (i)) cur1.toList cur2.toList (i) (by rw [← HT.out, List.take_take, Nat.min_eq_left (by omega)]) (by have := HL.out; simp; omega) (by have := HCS.out; have := HVL.out; simp; omega) (by rw [ht1.out, HVL.out, Nat.mul_one]) ht2.out
    rw [show (n + m) * 1 = i + vs.length + (xs.drop (i)).length by rw [HVL.out]; have := HL.out; simp; omega, h5] at ho
    simpa using ho
  · exact ((Kept.of_drew hk1.out).trans hk2.out).mono (fun i _ h => by subst h; rfl)
/-- slices.Insert of what lies in another row -/
theorem ins_anyP {w : World} {v : Value} {n : Nat} {xs : List Value} (h : Seg w 69 1 v n xs) (h1 : ∀ u ∈ xs, u.oneCell' = true) (i : Nat) (hi : i ≤ n) {x : Value} {m : Nat} {vs : List Value} (hx : Seg w 69 1 x m vs) (hv1 : ∀ u ∈ vs, u.oneCell' = true) (hne : ∀ g, x.ownBlock = some g → v.ownBlock ≠ some g) (hb : n + m ≤ 17592186044416) :
    Calls Try.prog 27 #[v, .int .i64 i, x] w (InsPostP w v (n + m) (xs.take (i) ++ vs ++ xs.drop (i))) := by
  rcases Nat.eq_zero_or_pos m with rfl | hm
  · obtain ⟨ao, c, rfl⟩ := hx.isSlice
    have hl : vs = [] := List.eq_nil_of_length_eq_zero (by simpa using hx.len)
    subst hl
    have := hx.shape
    rcases this with ⟨e, _⟩ | ⟨g, c', cur, e, _⟩ <;> (simp only [Value.slice.injEq] at e; obtain ⟨rfl, _, rfl⟩ := e; simpa using ins_noneP h i hi _ _)
  · rcases Nat.lt_or_ge i n with hlt | hge
    · rcases h.shape with ⟨_, h0, _⟩ | ⟨g, cap, cur, rfl, hg, hnc, hcm, hcs, htk⟩
      · omega
      · rcases hx.shape with ⟨_, h0, _⟩ | ⟨bg, bc, bcur, rfl, hbg, _⟩
        · omega
        · simp only [Nat.mul_one] at hcs htk
          have hsrc := hx.src hv1
          rcases Nat.lt_or_ge cap (n + m) with hgr | hro
          · exact ins_growP h h1 hlt hnc hcm _ _ _ _ hsrc hm hgr hb
          · refine ins_shiftP hg hcs htk h1 hlt hcm hbg (fun e => hne bg rfl (by simp [Value.ownBlock, e])) vs (fun j v hj => ?_) hx.len hv1 hm hro hb
            obtain ⟨hj', e⟩ := List.getElem?_eq_some_iff.1 hj
            rw [← e]; exact hx.cells rfl j hj'
    · obtain rfl : i = n := by omega
      have e : xs.take (i) ++ vs ++ xs.drop (i) = xs ++ vs := by rw [List.take_of_length_le (by rw [h.len]; omega), List.drop_of_length_le (by rw [h.len]; omega)]; simp
      rw [e]
      exact ins_endP h x m vs (hx.src hv1) hm hb

end Go.Proofs.Ytfmohmlpcielnaa
