/- The document's Less and DocCmp. -/
import Derived.Test.YtnicaiofjficnaaDoorE
namespace Go.Proofs.YtnicaiofjficnaaDoor
open Go.RowKit
theorem bytes_at {s : ByteArray} {k : Nat} (h : k < s.size) : s.data.toList.drop k = (s[k]'h) :: s.data.toList.drop (k + 1) := by
  have hl : k < s.data.toList.length := by rw [Array.length_toList]; exact h
  rw [List.drop_eq_getElem_cons hl, ByteArray.getElem_eq_getElem_data, Array.getElem_toList]
theorem bytes_end {s : ByteArray} {k : Nat} (h : s.size ≤ k) : s.data.toList.drop k = [] := List.drop_eq_nil_of_le (by rw [Array.length_toList]; exact h)
theorem two_vals (w : World) (k1 n1 : Int) (s1 : ByteArray) (k2 n2 : Int) (s2 : ByteArray) :
    ∃ w1, (w.alloc (.cells #[.int .u8 k1, .int .i64 n1, .string s1] 23)).alloc (.cells #[.int .u8 k2, .int .i64 n2, .string s2] 23) = w1 ∧
      w1.heap[w.heap.size]? = some (.cells #[.int .u8 k1, .int .i64 n1, .string s1] 23 (0, 0)) ∧ w1.heap[w.heap.size + 1]? = some (.cells #[.int .u8 k2, .int .i64 n2, .string s2] 23 (0, 0)) ∧ Kept (fun _ => False) w w1 := by
  have htw := two_new w (.cells #[.int .u8 k1, .int .i64 n1, .string s1] 23) (.cells #[.int .u8 k2, .int .i64 n2, .string s2] 23)
  exact ⟨_, rfl, htw.1, htw.2, ((Kept.refl _ _).alloc _).alloc _⟩
set_option maxHeartbeats 2000000 in
set_option maxRecDepth 100000 in
theorem less_any (a b : Vv) (ha : a.2.2.size ≤ 4611686018427387904) (hb : b.2.2.size ≤ 4611686018427387904) (w : World) : Calls Tryd.prog 13 #[vv a, vv b] w fun e w' => e = .returned (.bool (lessV a b)) ∧ Kept (fun _ => False) w w' := by
  obtain ⟨k1, n1, s1⟩ := a
  obtain ⟨k2, n2, s2⟩ := b
  simp only at ha hb
  unfold vv
  obtain ⟨w1, hw1, hr1, hr2, hk⟩ := two_vals w k1 n1 s1 k2 n2 s2
  obtain ⟨ab, hab⟩ : ∃ ab, w.heap.size = ab := ⟨_, rfl⟩
  rw [hab] at hr1 hr2
  obtain ⟨c0, c1, c2⟩ := encV_cells (v := (k1, n1, s1)) hr1
  obtain ⟨d0, d1, d2⟩ := encV_cells (v := (k2, n2, s2)) hr2
  simp only at c0 c1 c2 d0 d1 d2
  have K := hid hk
  clear hk
  by_cases hkk : k1 = k2
  · subst hkk
    have hkb : (k1 != k1) = false := by simp
    by_cases h1 : k1 = 1
    · subst h1
      have HF := hid (show lessV (1, n1, s1) (1, n2, s2) = decide (n1 < n2) by simp [lessV])
      clear hr1 hr2
      go_enter Tryd.func13, Tryd.ntmps13
      go_wp2_with fail
      go_ret
      exact ⟨ret_bool HF.out.symm, K.out⟩
    · have h1b : (k1 == 1) = false := by simpa using h1
      have HF := hid (show lessV (k1, n1, s1) (k1, n2, s2) = lessL s1.data.toList s2.data.toList by simp [lessV, h1])
      have R1 := hid hr1; have R2 := hid hr2
      clear hr1 hr2 h1
      go_enter Tryd.func13, Tryd.ntmps13
      go_wp2_with fail
      clear c0 c1 c2 d0 d1 d2 hw1 hab
      go_loopw [5] (fun i wr => ∃ k : Nat, k ≤ s1.size ∧ k ≤ s2.size ∧ i = .int .i64 k ∧ lessL (s1.data.toList.drop k) (s2.data.toList.drop k) = lessL s1.data.toList s2.data.toList ∧ Kept (fun _ => False) w1 wr) (fun i _ => s1.size - (RowKit.intOf i).toNat)
      case atStart => exact ⟨0, Nat.zero_le _, Nat.zero_le _, rfl, rfl, Kept.refl _ _⟩
      case round =>
        rename World => wr
        obtain ⟨k, hk1, hk2, rfl, hd, hkp⟩ := hrel
        have HD := hid hd; have KR := hid hkp
        obtain ⟨_, _, c2⟩ := encV_cells (v := (k1, n1, s1)) ((hkp.block _ (row_lt R1.out) id).trans R1.out)
        obtain ⟨_, _, d2⟩ := encV_cells (v := (k1, n2, s2)) ((hkp.block _ (row_lt R2.out) id).trans R2.out)
        simp only at c2 d2
        clear hd hkp
        by_cases hlt1 : k < s1.size
        · have hltI1 : (k : Int) < (s1.size : Int) := by omega
          by_cases hlt2 : k < s2.size
          · have hltI2 : (k : Int) < (s2.size : Int) := by omega
            have hd1 : decide ((k : Int) < (s1.size : Int)) = true := by simpa using hlt1
            have hd2 : decide ((k : Int) < (s2.size : Int)) = true := by simpa using hlt2
            obtain ⟨x, hx⟩ : ∃ c, (s1[k]'hlt1).toNat = c := ⟨_, rfl⟩
            obtain ⟨y, hy⟩ : ∃ c, (s2[k]'hlt2).toNat = c := ⟨_, rfl⟩
            have HE := hid (show lessL (s1.data.toList.drop k) (s2.data.toList.drop k) = if x ≠ y then decide (x < y) else lessL (s1.data.toList.drop (k + 1)) (s2.data.toList.drop (k + 1)) by
              rw [bytes_at hlt1, bytes_at hlt2]
              simp only [lessL]
              have e1 : (s1[k]'hlt1 ≠ s2[k]'hlt2) ↔ x ≠ y := by rw [← hx, ← hy]; exact not_congr UInt8.toNat_inj.symm
              have e2 : (s1[k]'hlt1 < s2[k]'hlt2) ↔ x < y := by rw [← hx, ← hy]; exact UInt8.lt_iff_toNat_lt
              simp only [e1, e2])
            have HLT := hid hlt1; have HLT2 := hid hlt2
            by_cases hxy : x = y
            · subst hxy
              have hb : ((x : Int) != (x : Int)) = false := by simp
              have HS := hid (show lessL (s1.data.toList.drop (k + 1)) (s2.data.toList.drop (k + 1)) = lessL s1.data.toList s2.data.toList by rw [← HD.out, HE.out]; simp)
              go_wp2_with fail
              go_quiet (fail)
              have KQ := hid (KR.out.trans (kept_drewN (F := fun _ => False) wr nq))
              go_wp2
              go_roundw
              case rel => exact ⟨k + 1, by have := HLT.out; omega, by have := HLT2.out; omega, by go_num, HS.out, KQ.out⟩
              case measure => (have := HLT.out; simp only [RowKit.intOf]; omega)
            · have hb : ((x : Int) != (y : Int)) = true := by simp; omega
              have HS := hid (show lessL s1.data.toList s2.data.toList = decide ((x : Int) < (y : Int)) by rw [← HD.out, HE.out]; simp [hxy])
              clear hxy
              go_wp2_with fail
              go_quiet (fail)
              have KQ := hid (KR.out.trans (kept_drewN (F := fun _ => False) wr nq))
              obtain ⟨wq, hwq⟩ : ∃ wq, wr.drewN nq = wq := ⟨_, rfl⟩
              rw [hwq] at KQ
              have c2' : wq.cell? ⟨ab, 2, none⟩ = some (.string s1) := by rw [← hwq]; exact c2
              have d2' : wq.cell? ⟨ab + 1, 2, none⟩ = some (.string s2) := by rw [← hwq]; exact d2
              go_wp2_with fail
              try rw [hwq]
              clear hwq
              go_quiet (fail)
              have KZ := hid ((K.out.trans KQ.out).trans (kept_drewN (F := fun _ => False) wq nq))
              go_wp2_with fail
              go_ret
              exact ⟨ret_bool (by rw [HF.out, HS.out, decide_eq_decide]; omega), KZ.out⟩
          · obtain rfl : k = s2.size := by omega
            have HE := hid (show lessL s1.data.toList s2.data.toList = false by rw [← HD.out, bytes_at hlt1, bytes_end (Nat.le_refl _)]; rfl)
            have hd1 : decide ((s2.size : Int) < (s1.size : Int)) = true := by simpa using hlt1
            have hn : ¬ (s1.size : Int) < (s2.size : Int) := by omega
            go_wp2_with fail
            go_ret
            exact ⟨ret_bool (by rw [HF.out, HE.out]), K.out.trans KR.out⟩
        · obtain rfl : k = s1.size := by omega
          have HE := hid (show lessL s1.data.toList s2.data.toList = decide ((s1.size : Int) < (s2.size : Int)) by
            rw [← HD.out, bytes_end (Nat.le_refl _)]
            by_cases hlt2 : s1.size < s2.size
            · rw [bytes_at hlt2]; simp [lessL, hlt2]
            · rw [bytes_end (by omega)]; simp [lessL, hlt2])
          go_wp2_with fail
          go_ret
          exact ⟨ret_bool (by rw [HF.out, HE.out, decide_eq_decide]; omega), K.out.trans KR.out⟩
  · have hkb : (k1 != k2) = true := by simpa using hkk
    have HF := hid (show lessV (k1, n1, s1) (k2, n2, s2) = decide (k1 < k2) by simp [lessV, hkk])
    clear hr1 hr2
    go_enter Tryd.func13, Tryd.ntmps13
    go_wp2_with fail
    go_ret
    exact ⟨ret_bool HF.out.symm, K.out⟩
end Go.Proofs.YtnicaiofjficnaaDoor
