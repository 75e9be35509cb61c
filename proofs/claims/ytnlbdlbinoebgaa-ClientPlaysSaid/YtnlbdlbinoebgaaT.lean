/- value.Check and the document's Form, exactly (turned from value/XA, XD, XE). -/
import Derived.Test.YtnlbdlbinoebgaaS
import Derived.Deep.QuietTactic
import Derived.BigQuiet
namespace Go.Proofs.Ytnlbdlbinoebgaa
open Go.RowKit
abbrev Vv := Int × Int × ByteArray
def vv (v : Vv) : Value := .agg #[.int .u8 v.1, .int .i64 v.2.1, .string v.2.2]
def letterN (b : Nat) : Bool := (97 ≤ b && b ≤ 122) || (48 ≤ b && b ≤ 57) || b == 46 || b == 45
def textB (s : ByteArray) : Bool := s.data.toList.all (fun b => letterN b.toNat) && decide (s.size ≤ 8)
def formB (v : Vv) : Bool := if v.1 = 0 then v.2.1 == 0 && v.2.2.size == 0 else if v.1 = 1 then v.2.2.size == 0 else if v.1 = 2 then v.2.1 == 0 && textB v.2.2 else false
theorem toList_inj {a b : ByteArray} (h : a.data.toList = b.data.toList) : a = b := by
  cases a; cases b; simp only [ByteArray.mk.injEq]; exact Array.ext' h
set_option maxHeartbeats 1000000 in
set_option maxRecDepth 100000 in
theorem letter_any (n : Nat) (w : World) : Calls Try.prog 45 #[.int .u8 n] w fun e w' => e = .returned (.bool (letterN n)) ∧ w = w' := by
  go_enter Try.func45, Try.ntmps45
  go_wp2
  all_goals (go_ret; refine ⟨ret_bool ?_, rfl⟩)
  all_goals (rw [Bool.eq_iff_iff]; simp [letterN]; try omega)
theorem text_no {s : ByteArray} {k : Nat} (hk : k < s.size) (h : letterN (s[k]'hk).toNat = false) : textB s = false := by
  have hm : (s[k]'hk) ∈ s.data.toList := by rw [ByteArray.getElem_eq_getElem_data]; simp
  unfold textB
  rw [Bool.and_eq_false_iff]
  exact .inl (List.all_eq_false.2 ⟨_, hm, by simp [h]⟩)
theorem text_yes {s : ByteArray} (h : ∀ j (hj : j < s.size), letterN (s[j]'hj).toNat = true) : textB s = decide (s.size ≤ 8) := by
  have : s.data.toList.all (fun b => letterN b.toNat) = true := by
    rw [List.all_eq_true]
    intro x hx
    obtain ⟨j, hj, e⟩ := List.mem_iff_getElem.1 hx
    have hj' : j < s.size := by rw [Array.length_toList] at hj; exact hj
    have h1 := h j hj'
    rw [ByteArray.getElem_eq_getElem_data] at h1
    rw [Array.getElem_toList] at e
    rw [← e]; exact h1
  unfold textB
  rw [this, Bool.true_and]
set_option maxHeartbeats 1000000 in
set_option maxRecDepth 100000 in
theorem text_any (s : ByteArray) (hs : s.size ≤ 9223372036854775807) (w : World) : Calls Try.prog 44 #[.string s] w fun e w' => e = .returned (.bool (textB s)) ∧ w = w' := by
  go_enter Try.func44, Try.ntmps44
  go_wp2_with fail
  go_loopw [6] (fun i wr => ∃ k : Nat, k ≤ s.size ∧ i = .int .i64 k ∧ w = wr ∧ ∀ j (hj : j < s.size), j < k → letterN (s[j]'hj).toNat = true) (fun i _ => s.size - (RowKit.intOf i).toNat)
  case atStart => exact ⟨0, Nat.zero_le _, rfl, rfl, fun j _ h => absurd h (Nat.not_lt_zero _)⟩
  case round =>
    obtain ⟨k, hk, rfl, rfl, hz⟩ := hrel
    have HZ := hid hz
    clear hz
    by_cases hlt : k < s.size
    · have hltI : (k : Int) < (s.size : Int) := by omega
      go_wp2_with fail
      refine (letter_any _ _).mono ?_; rintro e w' ⟨rfl, rfl⟩
      obtain ⟨b, hb⟩ : ∃ b, letterN (s[k]'hlt).toNat = b := ⟨_, rfl⟩
      rw [hb]
      have HB := hid hb
      have HLT := hid hlt
      clear hb
      cases b with
      | true =>
        go_wp2
        go_roundw
        case rel =>
          refine ⟨k + 1, by have := HLT.out; omega, by go_num, (by first | rfl | trivial), fun j hj h => ?_⟩
          by_cases e : j = k
          · subst e; exact HB.out
          · exact HZ.out j hj (by omega)
        case measure => (have := HLT.out; simp only [RowKit.intOf]; omega)
      | false =>
        go_wp2
        go_ret
        exact ⟨ret_bool (text_no hlt HB.out).symm, rfl⟩
    · obtain rfl : k = s.size := by omega
      go_wp2
      go_ret
      exact ⟨ret_bool (by rw [text_yes (fun j hj => HZ.out j hj hj)]; rw [decide_eq_decide]; omega), rfl⟩
def chkV (b : Bool) : Int := if b then 0 else 3
theorem emptyS (s : ByteArray) : s.toList.isEmpty = (s.size == 0) := by
  rw [ByteArray.toList_eq]
  cases h : s.data.toList with
  | nil => have : s.size = 0 := by show s.data.size = 0; rw [← Array.length_toList, h]; rfl
           simp [this]
  | cons a l => have : s.size = l.length + 1 := by show s.data.size = _; rw [← Array.length_toList, h]; rfl
                simp [this]
theorem encV_cells {w : World} {b T : Nat} {v : Vv} (h : w.heap[b]? = some (.cells #[.int .u8 v.1, .int .i64 v.2.1, .string v.2.2] T (0, 0))) : w.cell? ⟨b, 0, none⟩ = some (.int .u8 v.1) ∧ w.cell? ⟨b, 1, none⟩ = some (.int .i64 v.2.1) ∧ w.cell? ⟨b, 2, none⟩ = some (.string v.2.2) :=
  ⟨by rw [row_cell h]; rfl, by rw [row_cell h]; rfl, by rw [row_cell h]; rfl⟩
set_option maxHeartbeats 1000000 in
set_option maxRecDepth 100000 in
theorem check_any (v : Vv) (hs : v.2.2.size ≤ 9223372036854775807) (w : World) : Calls Try.prog 42 #[vv v] w fun e w' => e = .returned (.int .i64 (chkV (formB v))) ∧ Kept (fun _ => False) w w' := by
  obtain ⟨k, n, s⟩ := v
  simp only at hs
  unfold vv
  have hr := row_new w (.cells #[.int .u8 k, .int .i64 n, .string s] 75)
  have hk := (Kept.refl (fun _ => False) w).alloc (.cells #[.int .u8 k, .int .i64 n, .string s] 75)
  obtain ⟨w1, hw1⟩ : ∃ w1, w.alloc (.cells #[.int .u8 k, .int .i64 n, .string s] 75) = w1 := ⟨_, rfl⟩
  rw [hw1] at hr hk
  obtain ⟨c0, c1, c2⟩ := encV_cells (v := (k, n, s)) hr
  simp only at c0 c1 c2
  have K := hid hk
  clear hr hk
  obtain ⟨bn, hbn⟩ : ∃ b, (n == 0) = b := ⟨_, rfl⟩
  by_cases h2 : k = 2
  · subst h2
    have HF := hid (show formB (2, n, s) = (bn && textB s) by simp [formB, hbn])
    obtain ⟨bt, hbt⟩ : ∃ b, textB s = b := ⟨_, rfl⟩
    rw [hbt] at HF
    have HT := hid hbt
    clear hbt
    go_enter Try.func42, Try.ntmps42
    cases bn with
    | true =>
      go_wp2_with fail
      refine (text_any _ hs _).mono ?_; rintro e w' ⟨rfl, rfl⟩
      rw [HT.out]
      cases bt with
      | true => go_wp2; go_ret; exact ⟨ret_int (by rw [HF.out]; rfl), K.out⟩
      | false => go_wp2; go_ret; exact ⟨ret_int (by rw [HF.out]; rfl), K.out⟩
    | false =>
      go_wp2
      go_ret
      exact ⟨ret_int (by rw [HF.out]; rfl), K.out⟩
  · have he := emptyS s
    obtain ⟨bs, hbs⟩ : ∃ b, s.toList.isEmpty = b := ⟨_, rfl⟩
    rw [hbs] at he
    by_cases h0 : k = 0
    · subst h0
      have HF := hid (show formB (0, n, s) = (bn && bs) by simp only [formB, hbn, ← he]; rfl)
      clear he
      go_enter Try.func42, Try.ntmps42
      cases bn with
      | true =>
        cases bs with
        | true => go_wp2; go_ret; exact ⟨ret_int (by rw [HF.out]; rfl), K.out⟩
        | false => go_wp2; go_ret; exact ⟨ret_int (by rw [HF.out]; rfl), K.out⟩
      | false =>
        go_wp2
        go_ret
        exact ⟨ret_int (by rw [HF.out]; rfl), K.out⟩
    · by_cases h1 : k = 1
      · subst h1
        have HF := hid (show formB (1, n, s) = bs by simp only [formB, ← he]; rfl)
        clear he
        go_enter Try.func42, Try.ntmps42
        cases bs with
        | true => go_wp2; go_ret; exact ⟨ret_int (by rw [HF.out]; rfl), K.out⟩
        | false => go_wp2; go_ret; exact ⟨ret_int (by rw [HF.out]; rfl), K.out⟩
      · have HF := hid (show formB (k, n, s) = false by simp [formB, h0, h1, h2])
        go_enter Try.func42, Try.ntmps42
        go_wp2
        go_ret
        exact ⟨ret_int (by rw [HF.out]; rfl), K.out⟩
theorem kept_drewN {F : Nat → Prop} (w : World) (n : Nat) : Kept F w (w.drewN n) := ⟨rfl, rfl, rfl, Nat.le_refl _, fun _ _ _ => rfl⟩
set_option maxHeartbeats 2000000 in
set_option maxRecDepth 100000 in
theorem form_any (v : Vv) (hs : v.2.2.size ≤ 9223372036854775807) (w : World) : Calls Try.prog 43 #[vv v] w fun e w' => e = .returned (.bool (formB v)) ∧ Kept (fun _ => False) w w' := by
  obtain ⟨k, n, s⟩ := v
  simp only at hs
  unfold vv
  have hr := row_new w (.cells #[.int .u8 k, .int .i64 n, .string s] 75)
  have hk := (Kept.refl (fun _ => False) w).alloc (.cells #[.int .u8 k, .int .i64 n, .string s] 75)
  obtain ⟨w1, hw1⟩ : ∃ w1, w.alloc (.cells #[.int .u8 k, .int .i64 n, .string s] 75) = w1 := ⟨_, rfl⟩
  rw [hw1] at hr hk
  obtain ⟨c0, c1, c2⟩ := encV_cells (v := (k, n, s)) hr
  simp only at c0 c1 c2
  have K := hid hk
  clear hr hk
  obtain ⟨bn, hbn⟩ : ∃ b, (n == 0) = b := ⟨_, rfl⟩
  have he := emptyS s
  obtain ⟨bs, hbs⟩ : ∃ b, s.toList.isEmpty = b := ⟨_, rfl⟩
  rw [hbs] at he
  by_cases h0 : k = 0
  · subst h0
    have HF := hid (show formB (0, n, s) = (bn && bs) by simp only [formB, hbn, ← he]; rfl)
    clear he
    have hE : bs = true → s = { data := #[] } := fun h => by
      have : s.data.toList = [] := by rw [← hbs, ByteArray.toList_eq] at h; simpa using h
      exact toList_inj (by rw [this])
    have hN : bs = false → ¬ s = { data := #[] } := fun h e => by rw [e] at hbs; rw [← hbs] at h; simp [ByteArray.toList_eq] at h
    cases bn with
    | false =>
      have hn : ¬ n = 0 := by simpa using hbn
      clear hE hN
      go_enter Try.func43, Try.ntmps43
      go_wp2
      go_ret
      exact ⟨ret_bool (by rw [HF.out]; rfl), K.out⟩
    | true =>
      have hn : n = 0 := by simpa using hbn
      subst hn
      cases bs with
      | true =>
        have e := hE rfl
        subst e
        clear hE hN
        go_enter Try.func43, Try.ntmps43
        go_wp2
        go_ret
        exact ⟨ret_bool (by rw [HF.out]; rfl), K.out⟩
      | false =>
        have e := hN rfl
        clear hE hN
        go_enter Try.func43, Try.ntmps43
        go_wp2
        go_ret
        exact ⟨ret_bool (by rw [HF.out]; rfl), K.out⟩
  · by_cases h1 : k = 1
    · subst h1
      have hz : ((s.size : Int) == 0) = bs := by rw [he, Bool.eq_iff_iff]; simp
      have HF := hid (show formB (1, n, s) = bs by simp only [formB, ← he]; rfl)
      clear he
      go_enter Try.func43, Try.ntmps43
      go_wp2
      go_ret
      exact ⟨ret_bool HF.out.symm, K.out⟩
    · by_cases h2 : k = 2
      · subst h2
        clear he hbs
        obtain ⟨b8, hb8⟩ : ∃ b, decide (8 < (s.size : Int)) = b := ⟨_, rfl⟩
        have hbn' : (n != 0) = !bn := by rw [← hbn]; rfl
        have HF := hid (show formB (2, n, s) = (bn && textB s) by simp [formB, hbn])
        have HB8 := hid hb8
        cases bn with
        | false =>
          simp only [Bool.not_false] at hbn'
          go_enter Try.func43, Try.ntmps43
          go_wp2
          go_ret
          exact ⟨ret_bool (by rw [HF.out]; rfl), K.out⟩
        | true =>
          simp only [Bool.not_true] at hbn'
          cases b8 with
          | true =>
            have HT := hid (show textB s = false by unfold textB; have : ¬ s.size ≤ 8 := by simp at hb8; omega
                                                    simp [this])
            go_enter Try.func43, Try.ntmps43
            go_wp2
            go_ret
            exact ⟨ret_bool (by rw [HF.out, HT.out]; rfl), K.out⟩
          | false =>
            go_enter Try.func43, Try.ntmps43
            go_wp2_with fail
            go_loopw [3] (fun i wr => ∃ k : Nat, k ≤ s.size ∧ i = .int .i64 k ∧ w1 = wr ∧ ∀ j (hj : j < s.size), j < k → letterN (s[j]'hj).toNat = true) (fun i _ => s.size - (RowKit.intOf i).toNat)
            case atStart => exact ⟨0, Nat.zero_le _, rfl, rfl, fun j _ h => absurd h (Nat.not_lt_zero _)⟩
            case round =>
              obtain ⟨k, hk, rfl, rfl, hz⟩ := hrel
              have HZ := hid hz
              clear hz
              by_cases hlt : k < s.size
              · have hltI : (k : Int) < (s.size : Int) := by omega
                have HLT := hid hlt
                obtain ⟨c, hc⟩ : ∃ c, (s[k]'hlt).toNat = c := ⟨_, rfl⟩
                have HC := hid hc
                go_wp2
                all_goals try (go_ret; exact ⟨ret_bool (by rw [HF.out, text_no HLT.out (by rw [HC.out]; clear HZ; simp [letterN] at * <;> omega)]; rfl), K.out⟩)
                all_goals go_roundw
                all_goals try (case measure => (have := HLT.out; simp only [RowKit.intOf]; omega))
                all_goals
                  refine ⟨k + 1, by have := HLT.out; omega, by go_num, (by first | rfl | trivial), fun j hj h => ?_⟩
                  by_cases e : j = k
                  · subst e; rw [HC.out]; clear HZ; simp [letterN] at * <;> omega
                  · exact HZ.out j hj (by omega)
              · obtain rfl : k = s.size := by omega
                have HT := hid (show textB s = true by rw [text_yes (fun j hj => HZ.out j hj hj)]; have := HB8.out; simp at this ⊢; omega)
                go_wp2
                go_ret
                exact ⟨ret_bool (by rw [HF.out, HT.out]; rfl), K.out⟩
      · have HF := hid (show formB (k, n, s) = false by simp [formB, h0, h1, h2])
        go_enter Try.func43, Try.ntmps43
        go_wp2
        go_ret
        exact ⟨ret_bool HF.out.symm, K.out⟩
end Go.Proofs.Ytnlbdlbinoebgaa
