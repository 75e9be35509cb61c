/- slices.Delete, slices.Insert at items (by tools/ins.py, out of span D and E). -/
import Derived.Test.YtfmohmlpcielnaaSto
import Derived.Test.YtfmohmlpcielnaaCopy
import Derived.StillTailTactics
import Derived.Deep.MidRow
namespace Go.Proofs.Ytfmohmlpcielnaa
open Go.RowKit

theorem infoS : (Try.prog.info? 33).map (fun i => (i.zero, i.size, i.bytes)) = some (some (.agg #[.int .u64 0, .int .u64 0]), 2, 16) := by kernel_rfl
theorem zeroS (w : World) : (zeroValue 33).run Try.prog w = .ok (.agg #[.int .u64 0, .int .u64 0]) w := by kernel_rfl
set_option maxRecDepth 100000 in
set_option maxHeartbeats 1000000 in
theorem del_any {w : World} {v : Value} {n : Nat} {xs : List Value} (h : Seg w 33 2 v n xs) (h1 : ∀ u ∈ xs, u.oneCell' = true) (i j : Nat) (hij : i < j) (hj : j ≤ n) :
    Calls Try.prog 29 #[v, .int .i64 i, .int .i64 j] w fun e w' => ∃ cap', e = .returned (.slice (v.ownBlock.map fun g => ⟨g, 0, none⟩) (i + (n - j)) cap') ∧ Seg w' 33 2 (.slice (v.ownBlock.map fun g => ⟨g, 0, none⟩) (i + (n - j)) cap') (i + (n - j)) (xs.take (i * 2) ++ xs.drop (j * 2)) ∧ Kept (fun k => v.ownBlock = some k) w w' := by
  rcases h.shape with ⟨_, h0, _⟩ | ⟨g, cap, cur, rfl, hg, hnc, hcm, hcs, htk⟩
  · omega
  · have hij' : ((i : Int) == (j : Int)) = false := by simp; omega
    have hil : (i : Int) ≤ (j : Int) := by omega
    have hjn : (j : Int) ≤ (n : Int) := by omega
    have hicap : i ≤ cap := by omega
    have hlen : xs.length = n * 2 := h.len
    have hsrc : ∀ (off : Nat), (j < n → off = j * 2) → ∀ a u, (xs.drop (j * 2))[a]? = some u → w.drew.cell? ((⟨g, off, none⟩ : Addr).add a) = some u := fun off hoff a u hu => by
      rw [List.getElem?_drop] at hu
      obtain ⟨ha, e⟩ := List.getElem?_eq_some_iff.1 hu
      rw [hoff (by omega), ← e, Addr.add_mid]
      exact h.cells rfl (j * 2 + a) ha
    have H1 := hid h1
    obtain ⟨oj, hA, hoj⟩ : ∃ oj, (if cap = j then some (⟨g, 0, none⟩ : Addr) else some ⟨g, j * 2, none⟩) = some ⟨g, oj, none⟩ ∧ (j < n → oj = j * 2) := by
      by_cases hcj : cap = j
      · exact ⟨0, by rw [if_pos hcj], fun h => by omega⟩
      · exact ⟨j * 2, by rw [if_neg hcj], fun _ => rfl⟩
    have HOJ := hid hoj; have HS := hid hsrc; have HL := hid hlen
    have HG := hid hg; have HT := hid htk; have HX := hid h; have HC := hid hcs; have HCM := hid hcm
    clear hg htk hcs h hoj hsrc hlen hcm h1
    go_enter Try.func29, Try.ntmps29
    go_wp2_with fail
    refine wp_region_still_tail 6 (by kernel_rfl) (by kernel_rfl) ?_
    simp only [List.take_succ_cons, List.take_zero, List.drop_succ_cons, List.drop_zero, World.drew_eq]
    iterate 6 still_step
    refine wpStill_nil ?_
    change wpList _ _ _ _ _ (World.drew _)
    refine wpList_app_roomS rfl (.tmp 22) (.tmp 25) 29 rfl 33 (.agg #[.int .u64 0, .int .u64 0]) 2 16 Try.underlying29 infoS g i cap cur (by exact HG.out) HC.out (by simp [Act.eval, Act.put]) ⟨g, oj, none⟩ (n - j) (cap - j) (by simp [Act.eval, Act.put]) (xs.drop (j * 2)) (by simp [HL.out]; omega) (by exact HS.out oj HOJ.out) (fun u hu => H1.out u (List.mem_of_mem_drop hu)) (by omega) ?_
    intro w1 cur1 hg1 hc1 hk1
    have hcz : cap * 2 ≤ cur1.size := by
      have h1 := HL.out; have h2 := HC.out; have h3 := congrArg List.length hc1.out
      simp at h3; omega
    obtain ⟨w2, cur2, hr, hg2, hc2, hz2, hk2⟩ := run_clear_some (P := Try.prog) w1 29 33 0 (.agg #[.int .u64 0, .int .u64 0]) 2 Try.underlying29 zeroS rfl (by simp [Value.cells, Value.oneCell']) g ((i + (n - j)) * 2) (n - (i + (n - j))) (cap - (i + (n - j))) cur1 hg1.out (by omega)
    have HCZ := hid hcz; clear hcz
    have HR := hid hr; clear hr
    have HG2 := hid hg2; clear hg2
    have HC2 := hid hc2; clear hc2
    have HZ2 := hid hz2; clear hz2
    have HK2 := hid hk2; clear hk2
    go_wp2_with fail
    rw [HR.out]
    go_wp2
    go_ret
    refine ⟨cap, rfl, ?_, ?_⟩
    · have ho := Seg.mk (n := i + (n - j)) (size := 2) HG2.out (by omega : i + (n - j) ≤ cap) HCM.out (by rw [HZ2.out]; exact HCZ.out)
      have e1 : cur2.toList.take ((i + (n - j)) * 2) = xs.take (i * 2) ++ xs.drop (j * 2) := by
        have h1 := HL.out; have h2 := HC.out; have h3 := HT.out
        rw [HC2.out, hc1.out]
        have l1 : ((cur.toList.take (i * 2) ++ xs.drop (j * 2)) ++ cur.toList.drop (i * 2 + (xs.drop (j * 2)).length)).take ((i + (n - j)) * 2) = cur.toList.take (i * 2) ++ xs.drop (j * 2) := by
          rw [List.take_left']
          simp; omega
        rw [l1, List.append_assoc, List.take_left' (by simp; omega), ← h3, List.take_take, Nat.min_eq_left (by omega)]
      rw [e1] at ho
      exact ho
    · exact (hk1.out.of_drew.trans HK2.out).mono (fun i _ h => by subst h; rfl)
set_option maxHeartbeats 1000000 in
theorem del_none {w : World} {ao : Option Addr} {n c : Nat} (i : Nat) (hi : i ≤ n) (hn : n ≤ c) (hc : c ≤ maxLen) :
    Calls Try.prog 29 #[.slice ao n c, .int .i64 i, .int .i64 i] w fun e w' => e = .returned (.slice ao n c) ∧ w = w' := by
  have hij : ((i : Int) == (i : Int)) = true := by simp
  have hil : (i : Int) ≤ (n : Int) := by omega
  unfold maxLen at hc
  go_enter Try.func29, Try.ntmps29
  go_wp2
  all_goals
    go_ret
    exact ⟨rfl, rfl⟩
theorem sizeS : (Try.prog.info? 33).map (·.size) = some 2 := by kernel_rfl
theorem sizeOfS (w : World) : (Go.sizeOf 33).run Try.prog w = .ok 2 w := by kernel_rfl
theorem two_copies {α : Type} (cur A vs B c1 c2 : List α) (o : Nat) (hA : cur.take o = A) (ho : A.length = o)
    (h1 : c1 = cur.take o ++ vs ++ cur.drop (o + vs.length)) (h2 : c2 = c1.take (o + vs.length) ++ B ++ c1.drop (o + vs.length + B.length)) :
    c2.take (o + vs.length + B.length) = A ++ vs ++ B := by
  rw [hA] at h1
  have e1 : c1.take (o + vs.length) = A ++ vs := by rw [h1]; exact List.take_left' (by simp [ho])
  rw [h2, e1]
  exact List.take_left' (by simp [ho]; omega)
theorem shift_copies {α : Type} (cur A vs B c1 c2 : List α) (o : Nat) (hA : cur.take o = A) (ho : A.length = o) (hfit : o + vs.length ≤ cur.length)
    (h1 : c1 = cur.take (o + vs.length) ++ B ++ cur.drop (o + vs.length + B.length)) (h2 : c2 = c1.take o ++ vs ++ c1.drop (o + vs.length)) :
    c2.take (o + vs.length + B.length) = A ++ vs ++ B := by
  have e1 : c1.take o = A := by
    rw [h1, List.append_assoc, List.take_append_of_le_length (by simp; omega), List.take_take, Nat.min_eq_left (by omega), hA]
  have e2 : c1.drop (o + vs.length) = B ++ cur.drop (o + vs.length + B.length) := by
    rw [h1, List.append_assoc]
    exact List.drop_left' (by simp; omega)
  rw [h2, e1, e2, ← List.append_assoc]
  exact List.take_left' (by simp [ho]; omega)
def InsPost (w : World) (v : Value) (n : Nat) (xs : List Value) (e : Ending) (w' : World) : Prop :=
  ∃ ao c, e = .returned (.slice ao n c) ∧ Seg w' 33 2 (.slice ao n c) n xs ∧ Kept (fun k => v.ownBlock = some k) w w' ∧ (∀ g, (Value.slice ao n c).ownBlock = some g → v.ownBlock = some g ∨ w.heap.size ≤ g)
set_option maxRecDepth 100000 in
set_option maxHeartbeats 1000000 in
theorem ins_none {w : World} {v : Value} {n : Nat} {xs : List Value} (h : Seg w 33 2 v n xs) (i : Nat) (hi : i ≤ n) (bo : Option Addr) (c : Nat) :
    Calls Try.prog 25 #[v, .int .i64 i, .slice bo 0 c] w (InsPost w v n xs) := by
  obtain ⟨ao, cap, hv, hn, hc⟩ : ∃ ao cap, v = .slice ao n cap ∧ n ≤ cap ∧ cap ≤ maxLen := by
    rcases h.shape with ⟨rfl, rfl, _⟩ | ⟨g, cap, cur, rfl, _, hnc, hcm, _⟩
    · exact ⟨none, 0, rfl, Nat.le_refl _, Nat.zero_le _⟩
    · exact ⟨_, cap, rfl, hnc, hcm⟩
  subst hv
  have HO := hid h; clear h
  unfold maxLen at hc
  have hil : (i : Int) ≤ (n : Int) := by omega
  by_cases hci : cap = i
  · subst hci
    go_enter Try.func25, Try.ntmps25
    go_wp2
    go_ret
    exact ⟨_, _, rfl, HO.out, Kept.refl _ _, fun g hg => .inl hg⟩
  · go_enter Try.func25, Try.ntmps25
    go_wp2
    go_ret
    exact ⟨_, _, rfl, HO.out, Kept.refl _ _, fun g hg => .inl hg⟩
set_option maxRecDepth 100000 in
set_option maxHeartbeats 1000000 in
theorem ins_end {w : World} {v : Value} {n : Nat} {xs : List Value} (h : Seg w 33 2 v n xs) (x : Value) (m : Nat) (vs : List Value) (hx : Src w 2 x m vs) (hm : 0 < m) (hb : n + m ≤ 8796093022208) :
    Calls Try.prog 25 #[v, .int .i64 n, x] w (InsPost w v (n + m) (xs ++ vs)) := by
  obtain ⟨ao, cap, hv, hn, hc⟩ : ∃ ao cap, v = .slice ao n cap ∧ n ≤ cap ∧ cap ≤ maxLen := by
    rcases h.shape with ⟨rfl, rfl, _⟩ | ⟨g, cap, cur, rfl, _, hnc, hcm, _⟩
    · exact ⟨none, 0, rfl, Nat.le_refl _, Nat.zero_le _⟩
    · exact ⟨_, cap, rfl, hnc, hcm⟩
  obtain ⟨bo, c, hxe⟩ : ∃ bo c, x = .slice bo m c := by
    obtain ⟨bo, c, e, _⟩ := hx
    exact ⟨bo, c, e⟩
  subst hv hxe
  have HO := hid h; have HX := hid hx; clear h hx
  unfold maxLen at hc
  have hm0 : ((m : Int) == 0) = false := by simp; omega
  have hil : (n : Int) ≤ (n : Int) := by omega
  by_cases hci : cap = n
  · subst hci
    go_enter Try.func25, Try.ntmps25
    go_wp2_with (at_builtin; refine wpList_app_seg (o := ⟨some 25, _, _, _, _, _⟩) rfl (.tmp 23) (.tmp 24) 29 rfl 33 (.agg #[.int .u64 0, .int .u64 0]) 2 16 Try.underlying29 infoS rfl (by decide) (.slice ao cap cap) cap xs (by simp [Act.eval, Act.put]) (by exact HO.out) (.slice bo m c) (by simp [Act.eval, Act.put]) m vs (by exact HX.out) (by unfold maxLen; omega) (by omega) ?_; intro a1 c1 w1 ho1 hk1 hf1; have HO1 := hid ho1; have HK1 := hid hk1; have HF1 := hid hf1; clear ho1 hk1 hf1)
    go_ret
    exact ⟨_, _, rfl, HO1.out, HK1.out, HF1.out⟩
  · go_enter Try.func25, Try.ntmps25
    go_wp2_with (at_builtin; refine wpList_app_seg (o := ⟨some 25, _, _, _, _, _⟩) rfl (.tmp 23) (.tmp 24) 29 rfl 33 (.agg #[.int .u64 0, .int .u64 0]) 2 16 Try.underlying29 infoS rfl (by decide) (.slice ao n cap) n xs (by simp [Act.eval, Act.put]) (by exact HO.out) (.slice bo m c) (by simp [Act.eval, Act.put]) m vs (by exact HX.out) (by unfold maxLen; omega) (by omega) ?_; intro a1 c1 w1 ho1 hk1 hf1; have HO1 := hid ho1; have HK1 := hid hk1; have HF1 := hid hf1; clear ho1 hk1 hf1)
    go_ret
    exact ⟨_, _, rfl, HO1.out, HK1.out, HF1.out⟩
set_option maxRecDepth 100000 in
set_option maxHeartbeats 1000000 in
theorem ins_grow {w : World} {g n cap i : Nat} {xs : List Value} (h : Seg w 33 2 (.slice (some ⟨g, 0, none⟩) n cap) n xs) (h1 : ∀ u ∈ xs, u.oneCell' = true) (hi : i < n) (hn : n ≤ cap) (hcap : cap ≤ maxLen) (bo : Addr) (c m : Nat) (vs : List Value) (hx : Src w 2 (.slice (some bo) m c) m vs) (hm : 0 < m) (hg : cap < n + m) (hb : n + m ≤ 8796093022208) :
    Calls Try.prog 25 #[.slice (some ⟨g, 0, none⟩) n cap, .int .i64 i, .slice (some bo) m c] w (InsPost w (.slice (some ⟨g, 0, none⟩) n cap) (n + m) (xs.take (i * 2) ++ vs ++ xs.drop (i * 2))) := by
  have hm0 : ((m : Int) == 0) = false := by simp; omega
  have hin : ((i : Int) == (n : Int)) = false := by simp; omega
  have hil : (i : Int) ≤ (n : Int) := by omega
  have hgt : (cap : Int) < (n : Int) + (m : Int) := by omega
  have hic : i ≤ cap := by omega
  have e1 : IntKind.i64.wrap ((n : Int) + (m : Int)) = (n : Int) + (m : Int) := by rw [IntKind.wrap_i64]; omega
  have e2 : IntKind.i64.wrap ((n : Int) + (m : Int) - (i : Int)) = ((n + m - i : Nat) : Int) := by rw [IntKind.wrap_i64]; omega
  have e3 : IntKind.i64.wrap ((i : Int) + (m : Int)) = (i : Int) + (m : Int) := by rw [IntKind.wrap_i64]; omega
  have e4 : (0 : Int) ≤ (i : Int) + (m : Int) := by omega
  have e5 : ((i : Int) + (m : Int)).toNat = i + m := by omega
  have hlen : xs.length = n * 2 := h.len
  have hcells : ∀ j v, xs[j]? = some v → w.cell? ⟨g, j, none⟩ = some v := fun j v hj => by
    obtain ⟨hj', e⟩ := List.getElem?_eq_some_iff.1 hj
    rw [← e]; exact h.cells rfl j hj'
  have hgl : g < w.heap.size := h.lt rfl
  have hsub : i + (n + m - i) = n + m := by omega
  have hcc : ¬ cap = i := by omega
  unfold maxLen at hcap
  obtain ⟨bo', c', he, hvl, _, hvs, hv1⟩ := hx
  simp only [Value.slice.injEq] at he
  obtain ⟨rfl, _, rfl⟩ := he
  have hvs := hvs bo rfl
  have hbl : bo.block < w.heap.size := by
    have hv0 : 0 < vs.length := by rw [hvl]; omega
    have h0 := hvs 0 vs[0] (by simp)
    have h2 := World.block_lt_of_cell? w _ h0
    unfold Addr.add at h2
    split at h2 <;> exact h2
  have HC := hid hcells; have HV := hid hvs; have HL := hid hlen; have HVL := hid hvl; have HX1 := hid h1; have HV1 := hid hv1; have HB := hid hbl; have HG := hid hgl
  clear hcells hvs hlen hvl h1 hv1 hbl hgl h
  go_enter Try.func25, Try.ntmps25
  go_wp2_with (first
    | (at_builtin; refine wpList_app_zeros (o := ⟨some 40, _, _, _, _, _⟩) rfl (.tmp 34) (.tmp 39) 29 3 rfl 33 (.agg #[.int .u64 0, .int .u64 0]) 2 16 Try.underlying29 Try.underlying3 infoS rfl (by decide) g i cap (xs.take (i * 2)) (by simp [Act.eval, Act.put]) (n + m - i) (by simp [Act.eval, Act.put, e2]) (by simp [HL.out]; omega) (by intro j v hj; exact HC.out j v (by rw [List.getElem?_take] at hj; split at hj; exact hj; cases hj)) (by omega) (by omega) (by unfold maxLen; omega) (by omega) ?_; intro w1 cur1 cap1 hr1 ht1 hz1 hn1 hm1 hk1; rw [hsub]; have hm1' : cap1 ≤ 9223372036854775807 := hm1; have hci1 : ¬ cap1 = i := by omega)
    | (with_reducible refine wpList_at 45 ?_; (refine wpList_copy_some (o := ⟨some 45, _, _, _, _, _⟩) rfl (.tmp 43) (.tmp 44) 29 29 rfl 33 2 Try.underlying29 sizeS w.heap.size (i * 2) (n + m - i) (cap1 - i) bo m c (by simp [Act.eval, Act.put]) (by simp [Act.eval, Act.put]) cur1 33 (by exact hr1.out) vs m (Nat.min_eq_left (by omega)) (by exact HVL.out) (by intro j v hj; exact hk1.out.cell (HV.out j v hj) id) (by rw [HVL.out, hz1.out]; omega) (by exact HV1.out) ?_; intro w2 cur2 hr2 ht2 hk2)))
  have hcc2 : ∀ j v, (xs.drop (i * 2))[j]? = some v → w2.drew.cell? ((⟨g, i * 2, none⟩ : Addr).add j) = some v := fun j v hj => by
    rw [Addr.add_lit]
    rw [List.getElem?_drop] at hj
    exact hk2.out.cell (hk1.out.cell (HC.out _ _ hj) id) (by have := HG.out; simp only; omega)
  have HCC := hid hcc2; clear hcc2
  have hz2 : cur2.size = cur1.size := by
    have h1 := congrArg List.length ht2.out; have h2 := HVL.out; have h3 := hz1.out
    simp at h1; omega
  have hfit : (i + m) * 2 + (xs.drop (i * 2)).length ≤ cur2.size := by rw [hz2, hz1.out]; have := HL.out; simp; omega
  have HFIT := hid hfit; have HZ2 := hid hz2; clear hfit hz2
  have hcim : ¬ cap1 = i + m := by omega
  go_region_law (refine step_copy_some rfl (.tmp 50) (.tmp 53) 29 29 rfl 33 2 Try.underlying29 sizeS w.heap.size ((i + m) * 2) (n + m - (i + m)) (cap1 - (i + m)) ⟨g, i * 2, none⟩ (n - i) (cap - i) (by simp [Act.eval, Act.put]) (by simp [Act.eval, Act.put]) cur2 33 (by exact hr2.out) (xs.drop (i * 2)) (n - i) (Nat.min_eq_left (by omega)) (by simp [HL.out]; omega) (by exact HCC.out) (by exact HFIT.out) (by intro u hu; exact HX1.out u (List.mem_of_mem_drop hu)) ?_; intro w3 cur3 hr3 ht3 hk3)
  go_wp2
  go_ret
  refine ⟨_, _, rfl, ?_, ?_, fun g' hg' => ?_⟩
  · have ho := Seg.mk (n := n + m) (size := 2) hr3.out (by omega : n + m ≤ cap1) hm1 (by
      have h1 := congrArg List.length ht3.out; have h2 := HFIT.out; have h3 := HZ2.out; have h4 := hz1.out
      simp at h1 h2; omega)
    have h5 := two_copies cur1.toList _ vs (xs.drop (i * 2)) cur2.toList cur3.toList (i * 2) ht1.out (by have := HL.out; simp; omega) ht2.out (by rw [ht3.out, HVL.out, Nat.add_mul])
    rw [show (n + m) * 2 = i * 2 + vs.length + (xs.drop (i * 2)).length by rw [HVL.out]; have := HL.out; simp; omega, h5] at ho
    simpa using ho
  · exact (hk1.out.trans' (hk2.out.trans (Kept.of_drew hk3.out)) (fun i hi => by subst hi; exact .inr (Nat.le_refl _))).mono (fun _ _ h => h.elim)
  · right; simp [Value.ownBlock] at hg'; omega
set_option maxRecDepth 100000 in
set_option maxHeartbeats 1000000 in
theorem ins_shift {w : World} {g n cap i : Nat} {xs : List Value} {cur : Array Value} (hgc : w.heap[g]? = some (.cells cur 33 (0, 0))) (hcs : cap * 2 ≤ cur.size) (htk : cur.toList.take (n * 2) = xs) (h1 : ∀ u ∈ xs, u.oneCell' = true) (hi : i < n) (hcap : cap ≤ maxLen) {bg c m : Nat} {bcur : Array Value} {T : TypeId} (hbg : w.heap[bg]? = some (.cells bcur T (0, 0))) (hne : bg ≠ g) (vs : List Value) (hvs : ∀ j v, vs[j]? = some v → w.cell? ⟨bg, j, none⟩ = some v) (hvl : vs.length = m * 2) (hv1 : ∀ u ∈ vs, u.oneCell' = true) (hm : 0 < m) (hr : n + m ≤ cap) (hb : n + m ≤ 8796093022208) :
    Calls Try.prog 25 #[.slice (some ⟨g, 0, none⟩) n cap, .int .i64 i, .slice (some ⟨bg, 0, none⟩) m c] w (InsPost w (.slice (some ⟨g, 0, none⟩) n cap) (n + m) (xs.take (i * 2) ++ vs ++ xs.drop (i * 2))) := by
  have hm0 : ((m : Int) == 0) = false := by simp; omega
  have hin : ((i : Int) == (n : Int)) = false := by simp; omega
  have hil : (i : Int) ≤ (n : Int) := by omega
  have hgt : ¬ (cap : Int) < (n : Int) + (m : Int) := by omega
  have hgt2 : (n : Int) + (m : Int) ≤ (cap : Int) := by omega
  have hgt3 : (i : Int) + (m : Int) ≤ (n : Int) + (m : Int) := by omega
  have hgt4 : (i : Int) ≤ (n : Int) + (m : Int) := by omega
  have hic : i ≤ cap := by omega
  have e1 : IntKind.i64.wrap ((n : Int) + (m : Int)) = (n : Int) + (m : Int) := by rw [IntKind.wrap_i64]; omega
  have e3 : IntKind.i64.wrap ((i : Int) + (m : Int)) = (i : Int) + (m : Int) := by rw [IntKind.wrap_i64]; omega
  have e4 : (0 : Int) ≤ (i : Int) + (m : Int) := by omega
  have e5 : ((i : Int) + (m : Int)).toNat = i + m := by omega
  have e6 : (0 : Int) ≤ (n : Int) + (m : Int) := by omega
  have e7 : ((n : Int) + (m : Int)).toNat = n + m := by omega
  have hlen : xs.length = n * 2 := by rw [← htk]; simp; omega
  have hcells : ∀ j v, xs[j]? = some v → w.cell? ⟨g, j, none⟩ = some v := fun j v hj => by
    rw [row_cell hgc]
    rw [← htk, List.getElem?_take] at hj
    split at hj
    · simpa using hj
    · cases hj
  have hcc : ¬ cap = i := by omega
  have hcim : ¬ cap = i + m := by omega
  unfold maxLen at hcap
  have hov : ∀ lb cb, (callFunc 36 #[.slice (some ⟨bg, 0, none⟩) m c, .slice (some ⟨g, (i + m) * 2, none⟩) lb cb]).run Try.prog w = .ok (.value (.bool false)) w := fun lb cb => by
    rw [run_callFunc_extern Try.func36 (by kernel_rfl) (by kernel_rfl) (by kernel_rfl) (e := Extern.SlicesOverlaps.overlaps #[29, 29] #[4]) (by kernel_rfl),
      Lib.run_overlaps_apart w 29 4 33 Try.underlying29 2 sizeOfS ⟨bg, 0, none⟩ ⟨g, (i + m) * 2, none⟩ m c lb cb hne T 33 bcur.size cur.size (by simp [World.shape?, hbg]) (by simp [World.shape?, hgc]) (by omega) (row_free hbg _) (row_free hbg _)]
    rfl
  have HC := hid hcells; have HV := hid hvs; have HL := hid hlen; have HVL := hid hvl; have HX1 := hid h1; have HV1 := hid hv1; have HG := hid hgc; have HT := hid htk; have HCS := hid hcs
  have hfit : (i + m) * 2 + (xs.drop (i * 2)).length ≤ cur.size := by simp [hlen]; omega
  have HFIT := hid hfit
  have hcc2 : ∀ j v, (xs.drop (i * 2))[j]? = some v → w.drew.cell? ((⟨g, i * 2, none⟩ : Addr).add j) = some v := fun j v hj => by
    rw [Addr.add_lit]
    rw [List.getElem?_drop] at hj
    exact HC.out _ _ hj
  have HCC := hid hcc2; clear hcc2
  clear hcells hvs hlen hvl h1 hv1 hgc htk hbg hfit hcs
  go_enter Try.func25, Try.ntmps25
  go_wp2_with (simp only [hov])
  go_region_law (refine step_copy_some rfl (.tmp 73) (.tmp 76) 29 29 rfl 33 2 Try.underlying29 sizeS g ((i + m) * 2) (n + m - (i + m)) (cap - (i + m)) ⟨g, i * 2, none⟩ (n + m - i) (cap - i) (by simp [Act.eval, Act.put]) (by simp [Act.eval, Act.put]) cur 33 (by exact HG.out) (xs.drop (i * 2)) (n - i) (by rw [show n + m - (i + m) = n - i from by omega]; exact Nat.min_eq_right (by omega)) (by simp [HL.out]; omega) (by exact HCC.out) (by exact HFIT.out) (by intro u hu; exact HX1.out u (List.mem_of_mem_drop hu)) ?_; intro w1 cur1 hr1 ht1 hk1)
  have hz1 : cur1.size = cur.size := by
    have h1 := congrArg List.length ht1.out; have h2 := HFIT.out
    simp at h1 h2; omega
  have HZ1 := hid hz1; clear hz1
  go_wp2_with (with_reducible refine wpList_at 82 ?_; (refine wpList_copy_some (o := ⟨some 82, _, _, _, _, _⟩) rfl (.tmp 80) (.tmp 81) 29 29 rfl 33 2 Try.underlying29 sizeS g (i * 2) (n + m - i) (cap - i) ⟨bg, 0, none⟩ m c (by simp [Act.eval, Act.put]) (by simp [Act.eval, Act.put]) cur1 33 (by exact hr1.out) vs m (Nat.min_eq_left (by omega)) (by exact HVL.out) (by intro j v hj; rw [Addr.add_lit, Nat.zero_add]; exact (Kept.of_drew hk1.out).cell (HV.out j v hj) (by simpa using hne)) (by rw [HVL.out, HZ1.out]; have := HCS.out; omega) (by exact HV1.out) ?_; intro w2 cur2 hr2 ht2 hk2))
  go_ret
  refine ⟨_, _, rfl, ?_, ?_, fun g' hg' => .inl hg'⟩
  · have ho := Seg.mk (n := n + m) (size := 2) hr2.out hr hcap (by
      have h1 := congrArg List.length ht2.out; have h2 := HZ1.out; have h3 := HVL.out; have h4 := HCS.out
      simp at h1; omega)
    have h5 := shift_copies cur.toList (xs.take (i * 2)) vs (xs.drop (i * 2)) cur1.toList cur2.toList (i * 2) (by rw [← HT.out, List.take_take, Nat.min_eq_left (by omega)]) (by have := HL.out; simp; omega) (by have := HCS.out; have := HVL.out; simp; omega) (by rw [ht1.out, HVL.out, Nat.add_mul]) ht2.out
    rw [show (n + m) * 2 = i * 2 + vs.length + (xs.drop (i * 2)).length by rw [HVL.out]; have := HL.out; simp; omega, h5] at ho
    simpa using ho
  · exact ((Kept.of_drew hk1.out).trans hk2.out).mono (fun i _ h => by subst h; rfl)
/-- slices.Insert of what lies in another row -/
theorem ins_any {w : World} {v : Value} {n : Nat} {xs : List Value} (h : Seg w 33 2 v n xs) (h1 : ∀ u ∈ xs, u.oneCell' = true) (i : Nat) (hi : i ≤ n) {x : Value} {m : Nat} {vs : List Value} (hx : Seg w 33 2 x m vs) (hv1 : ∀ u ∈ vs, u.oneCell' = true) (hne : ∀ g, x.ownBlock = some g → v.ownBlock ≠ some g) (hb : n + m ≤ 8796093022208) :
    Calls Try.prog 25 #[v, .int .i64 i, x] w (InsPost w v (n + m) (xs.take (i * 2) ++ vs ++ xs.drop (i * 2))) := by
  rcases Nat.eq_zero_or_pos m with rfl | hm
  · obtain ⟨ao, c, rfl⟩ := hx.isSlice
    have hl : vs = [] := List.eq_nil_of_length_eq_zero (by simpa using hx.len)
    subst hl
    have := hx.shape
    rcases this with ⟨e, _⟩ | ⟨g, c', cur, e, _⟩ <;> (simp only [Value.slice.injEq] at e; obtain ⟨rfl, _, rfl⟩ := e; simpa using ins_none h i hi _ _)
  · rcases Nat.lt_or_ge i n with hlt | hge
    · rcases h.shape with ⟨_, h0, _⟩ | ⟨g, cap, cur, rfl, hg, hnc, hcm, hcs, htk⟩
      · omega
      · rcases hx.shape with ⟨_, h0, _⟩ | ⟨bg, bc, bcur, rfl, hbg, _⟩
        · omega
        · have hsrc := hx.src hv1
          rcases Nat.lt_or_ge cap (n + m) with hgr | hro
          · exact ins_grow h h1 hlt hnc hcm _ _ _ _ hsrc hm hgr hb
          · refine ins_shift hg hcs htk h1 hlt hcm hbg (fun e => hne bg rfl (by simp [Value.ownBlock, e])) vs (fun j v hj => ?_) hx.len hv1 hm hro hb
            obtain ⟨hj', e⟩ := List.getElem?_eq_some_iff.1 hj
            rw [← e]; exact hx.cells rfl j hj'
    · obtain rfl : i = n := by omega
      have e : xs.take (i * 2) ++ vs ++ xs.drop (i * 2) = xs ++ vs := by rw [List.take_of_length_le (by rw [h.len]; omega), List.drop_of_length_le (by rw [h.len]; omega)]; simp
      rw [e]
      exact ins_end h x m vs (hx.src hv1) hm hb

end Go.Proofs.Ytfmohmlpcielnaa
