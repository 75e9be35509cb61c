/- The document's Form and Less. -/
import Derived.Test.YtnicaiofjficnaaDoorD
import Derived.Deep.QuietTactic
import Derived.BigQuiet
namespace Go.Proofs.YtnicaiofjficnaaDoor
open Go.RowKit
theorem kept_drewN {F : Nat → Prop} (w : World) (n : Nat) : Kept F w (w.drewN n) := ⟨rfl, rfl, rfl, Nat.le_refl _, fun _ _ _ => rfl⟩
set_option maxHeartbeats 2000000 in
set_option maxRecDepth 100000 in
theorem form_any (v : Vv) (hs : v.2.2.size ≤ 4611686018427387904) (w : World) : Calls Tryd.prog 12 #[vv v] w fun e w' => e = .returned (.bool (formB v)) ∧ Kept (fun _ => False) w w' := by
  obtain ⟨k, n, s⟩ := v
  simp only at hs
  unfold vv
  have hr := row_new w (.cells #[.int .u8 k, .int .i64 n, .string s] 23)
  have hk := (Kept.refl (fun _ => False) w).alloc (.cells #[.int .u8 k, .int .i64 n, .string s] 23)
  obtain ⟨w1, hw1⟩ : ∃ w1, w.alloc (.cells #[.int .u8 k, .int .i64 n, .string s] 23) = w1 := ⟨_, rfl⟩
  rw [hw1] at hr hk
  obtain ⟨c0, c1, c2⟩ := encV_cells (v := (k, n, s)) hr
  simp only at c0 c1 c2
  have K := hid hk
  clear hr hk
  obtain ⟨bn, hbn⟩ : ∃ b, (n == 0) = b := ⟨_, rfl⟩
  have he := emptyS s
  obtain ⟨bs, hbs⟩ : ∃ b, s.toList.isEmpty = b := ⟨_, rfl⟩
  rw [hbs] at he
  by_cases h0 : k = 0
  · subst h0
    have HF := hid (show formB (0, n, s) = (bn && bs) by simp only [formB, hbn, ← he]; rfl)
    clear he
    have hE : bs = true → s = { data := #[] } := fun h => by
      have : s.data.toList = [] := by rw [← hbs, ByteArray.toList_eq] at h; simpa using h
      exact toList_inj (by rw [this])
    have hN : bs = false → ¬ s = { data := #[] } := fun h e => by rw [e] at hbs; rw [← hbs] at h; simp [ByteArray.toList_eq] at h
    cases bn with
    | false =>
      have hn : ¬ n = 0 := by simpa using hbn
      clear hE hN
      go_enter Tryd.func12, Tryd.ntmps12
      go_wp2
      go_ret
      exact ⟨ret_bool (by rw [HF.out]; rfl), K.out⟩
    | true =>
      have hn : n = 0 := by simpa using hbn
      subst hn
      cases bs with
      | true =>
        have e := hE rfl
        subst e
        clear hE hN
        go_enter Tryd.func12, Tryd.ntmps12
        go_wp2
        go_ret
        exact ⟨ret_bool (by rw [HF.out]; rfl), K.out⟩
      | false =>
        have e := hN rfl
        clear hE hN
        go_enter Tryd.func12, Tryd.ntmps12
        go_wp2
        go_ret
        exact ⟨ret_bool (by rw [HF.out]; rfl), K.out⟩
  · by_cases h1 : k = 1
    · subst h1
      have hz : ((s.size : Int) == 0) = bs := by rw [he, Bool.eq_iff_iff]; simp
      have HF := hid (show formB (1, n, s) = bs by simp only [formB, ← he]; rfl)
      clear he
      go_enter Tryd.func12, Tryd.ntmps12
      go_wp2
      go_ret
      exact ⟨ret_bool HF.out.symm, K.out⟩
    · by_cases h2 : k = 2
      · subst h2
        clear he hbs
        obtain ⟨b8, hb8⟩ : ∃ b, decide (8 < (s.size : Int)) = b := ⟨_, rfl⟩
        have hbn' : (n != 0) = !bn := by rw [← hbn]; rfl
        have HF := hid (show formB (2, n, s) = (bn && textB s) by simp [formB, hbn])
        have HB8 := hid hb8
        cases bn with
        | false =>
          simp only [Bool.not_false] at hbn'
          go_enter Tryd.func12, Tryd.ntmps12
          go_wp2
          go_ret
          exact ⟨ret_bool (by rw [HF.out]; rfl), K.out⟩
        | true =>
          simp only [Bool.not_true] at hbn'
          cases b8 with
          | true =>
            have HT := hid (show textB s = false by unfold textB; have : ¬ s.size ≤ 8 := by simp at hb8; omega
                                                    simp [this])
            go_enter Tryd.func12, Tryd.ntmps12
            go_wp2
            go_ret
            exact ⟨ret_bool (by rw [HF.out, HT.out]; rfl), K.out⟩
          | false =>
            go_enter Tryd.func12, Tryd.ntmps12
            go_wp2_with fail
            go_loopw [3] (fun i wr => ∃ k : Nat, k ≤ s.size ∧ i = .int .i64 k ∧ w1 = wr ∧ ∀ j (hj : j < s.size), j < k → letterN (s[j]'hj).toNat = true) (fun i _ => s.size - (RowKit.intOf i).toNat)
            case atStart => exact ⟨0, Nat.zero_le _, rfl, rfl, fun j _ h => absurd h (Nat.not_lt_zero _)⟩
            case round =>
              obtain ⟨k, hk, rfl, rfl, hz⟩ := hrel
              have HZ := hid hz
              clear hz
              by_cases hlt : k < s.size
              · have hltI : (k : Int) < (s.size : Int) := by omega
                have HLT := hid hlt
                obtain ⟨c, hc⟩ : ∃ c, (s[k]'hlt).toNat = c := ⟨_, rfl⟩
                have HC := hid hc
                go_wp2
                all_goals try (go_ret; exact ⟨ret_bool (by rw [HF.out, text_no HLT.out (by rw [HC.out]; clear HZ; simp [letterN] at * <;> omega)]; rfl), K.out⟩)
                all_goals go_roundw
                all_goals try (case measure => (have := HLT.out; simp only [RowKit.intOf]; omega))
                all_goals
                  refine ⟨k + 1, by have := HLT.out; omega, by go_num, (by first | rfl | trivial), fun j hj h => ?_⟩
                  by_cases e : j = k
                  · subst e; rw [HC.out]; clear HZ; simp [letterN] at * <;> omega
                  · exact HZ.out j hj (by omega)
              · obtain rfl : k = s.size := by omega
                have HT := hid (show textB s = true by rw [text_yes (fun j hj => HZ.out j hj hj)]; have := HB8.out; simp at this ⊢; omega)
                go_wp2
                go_ret
                exact ⟨ret_bool (by rw [HF.out, HT.out]; rfl), K.out⟩
      · have HF := hid (show formB (k, n, s) = false by simp [formB, h0, h1, h2])
        go_enter Tryd.func12, Tryd.ntmps12
        go_wp2
        go_ret
        exact ⟨ret_bool HF.out.symm, K.out⟩
end Go.Proofs.YtnicaiofjficnaaDoor
