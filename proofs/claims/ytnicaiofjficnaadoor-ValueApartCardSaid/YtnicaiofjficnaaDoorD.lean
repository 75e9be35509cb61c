/- Compare, Or, strings.Compare, letter, text, Check. -/
import Derived.Test.YtnicaiofjficnaaDoorB
import Derived.Test.YtnicaiofjficnaaDoorLies
import Derived.Deep.RegionHeld3
namespace Go.Proofs.YtnicaiofjficnaaDoor
open Go.RowKit
set_option maxHeartbeats 400000 in
theorem nani64 (x : Int) (w : World) : Calls Tryd.prog 28 #[.int .i64 x] w fun e w' => e = .returned (.bool false) ∧ w = w' := by
  go_enter Tryd.func28, Tryd.ntmps28
  go_wp2
  go_ret
  exact ⟨ret_bool (by simp), rfl⟩
set_option maxHeartbeats 400000 in
theorem comparei64 (x y : Int) (w : World) : Calls Tryd.prog 20 #[.int .i64 x, .int .i64 y] w fun e w' => e = .returned (.int .i64 (cmpI x y)) ∧ w = w' := by
  go_enter Tryd.func20, Tryd.ntmps20
  go_wp2_with fail
  refine (nani64 _ _).mono ?_; rintro e w' ⟨rfl, rfl⟩
  go_wp2_with fail
  refine (nani64 _ _).mono ?_; rintro e w' ⟨rfl, rfl⟩
  rcases Int.lt_trichotomy x y with h | h | h
  · have hc : cmpI x y = -1 := by simp [cmpI, h]
    go_wp2
    go_ret
    exact ⟨ret_int hc.symm, rfl⟩
  · have hc : cmpI x y = 0 := by simp [cmpI, h]
    have h1 : ¬ x < y := by omega
    have h2 : ¬ y < x := by omega
    clear h
    go_wp2
    go_ret
    exact ⟨ret_int hc.symm, rfl⟩
  · have hc : cmpI x y = 1 := by simp [cmpI, h]; omega
    have h1 : ¬ x < y := by omega
    go_wp2
    go_ret
    exact ⟨ret_int hc.symm, rfl⟩
set_option maxHeartbeats 400000 in
theorem nanu8 (x : Int) (w : World) : Calls Tryd.prog 27 #[.int .u8 x] w fun e w' => e = .returned (.bool false) ∧ w = w' := by
  go_enter Tryd.func27, Tryd.ntmps27
  go_wp2
  go_ret
  exact ⟨ret_bool (by simp), rfl⟩
set_option maxHeartbeats 400000 in
theorem compareu8 (x y : Int) (w : World) : Calls Tryd.prog 19 #[.int .u8 x, .int .u8 y] w fun e w' => e = .returned (.int .i64 (cmpI x y)) ∧ w = w' := by
  go_enter Tryd.func19, Tryd.ntmps19
  go_wp2_with fail
  refine (nanu8 _ _).mono ?_; rintro e w' ⟨rfl, rfl⟩
  go_wp2_with fail
  refine (nanu8 _ _).mono ?_; rintro e w' ⟨rfl, rfl⟩
  rcases Int.lt_trichotomy x y with h | h | h
  · have hc : cmpI x y = -1 := by simp [cmpI, h]
    go_wp2
    go_ret
    exact ⟨ret_int hc.symm, rfl⟩
  · have hc : cmpI x y = 0 := by simp [cmpI, h]
    have h1 : ¬ x < y := by omega
    have h2 : ¬ y < x := by omega
    clear h
    go_wp2
    go_ret
    exact ⟨ret_int hc.symm, rfl⟩
  · have hc : cmpI x y = 1 := by simp [cmpI, h]; omega
    have h1 : ¬ x < y := by omega
    go_wp2
    go_ret
    exact ⟨ret_int hc.symm, rfl⟩
set_option maxHeartbeats 1000000 in
set_option maxRecDepth 100000 in
theorem bcmp_any (a b : ByteArray) (w : World) : Calls Tryd.prog 29 #[.string a, .string b] w fun e w' => e = .returned (.int .i64 (cmpS a b)) ∧ w = w' := by
  go_enter Tryd.func29, Tryd.ntmps29
  go_wp2
  rw [run_callFunc_extern Tryd.func35 (by kernel_rfl) (by kernel_rfl) (by kernel_rfl) (e := Extern.BytealgCompare.compare) (by kernel_rfl), Lib.run_compareString]
  simp only [Result.andThen]
  rw [Oper.upon_value]
  go_wp2
  go_ret
  exact ⟨rfl, rfl⟩
theorem scmp_any (a b : ByteArray) (w : World) : Calls Tryd.prog 21 #[.string a, .string b] w fun e w' => e = .returned (.int .i64 (cmpS a b)) ∧ w = w' := by
  go_enter Tryd.func21, Tryd.ntmps21
  go_wp2_with fail
  refine (bcmp_any _ _ _).mono ?_; rintro e w' ⟨rfl, rfl⟩
  go_wp2
  go_ret
  exact ⟨rfl, rfl⟩
set_option maxHeartbeats 1000000 in
set_option maxRecDepth 100000 in
theorem letter_any (n : Nat) (w : World) : Calls Tryd.prog 30 #[.int .u8 n] w fun e w' => e = .returned (.bool (letterN n)) ∧ w = w' := by
  go_enter Tryd.func30, Tryd.ntmps30
  go_wp2
  all_goals (go_ret; refine ⟨ret_bool ?_, rfl⟩)
  all_goals (rw [Bool.eq_iff_iff]; simp [letterN]; try omega)
theorem text_no {s : ByteArray} {k : Nat} (hk : k < s.size) (h : letterN (s[k]'hk).toNat = false) : textB s = false := by
  have hm : (s[k]'hk) ∈ s.data.toList := by rw [ByteArray.getElem_eq_getElem_data]; simp
  unfold textB
  rw [Bool.and_eq_false_iff]
  exact .inl (List.all_eq_false.2 ⟨_, hm, by simp [h]⟩)
theorem text_yes {s : ByteArray} (h : ∀ j (hj : j < s.size), letterN (s[j]'hj).toNat = true) : textB s = decide (s.size ≤ 8) := by
  have : s.data.toList.all (fun b => letterN b.toNat) = true := by
    rw [List.all_eq_true]
    intro x hx
    obtain ⟨j, hj, e⟩ := List.mem_iff_getElem.1 hx
    have hj' : j < s.size := by rw [Array.length_toList] at hj; exact hj
    have h1 := h j hj'
    rw [ByteArray.getElem_eq_getElem_data] at h1
    rw [Array.getElem_toList] at e
    rw [← e]; exact h1
  unfold textB
  rw [this, Bool.true_and]
set_option maxHeartbeats 1000000 in
set_option maxRecDepth 100000 in
theorem text_any (s : ByteArray) (hs : s.size ≤ 4611686018427387904) (w : World) : Calls Tryd.prog 22 #[.string s] w fun e w' => e = .returned (.bool (textB s)) ∧ w = w' := by
  go_enter Tryd.func22, Tryd.ntmps22
  go_wp2_with fail
  go_loopw [6] (fun i wr => ∃ k : Nat, k ≤ s.size ∧ i = .int .i64 k ∧ w = wr ∧ ∀ j (hj : j < s.size), j < k → letterN (s[j]'hj).toNat = true) (fun i _ => s.size - (RowKit.intOf i).toNat)
  case atStart => exact ⟨0, Nat.zero_le _, rfl, rfl, fun j _ h => absurd h (Nat.not_lt_zero _)⟩
  case round =>
    obtain ⟨k, hk, rfl, rfl, hz⟩ := hrel
    have HZ := hid hz
    clear hz
    by_cases hlt : k < s.size
    · have hltI : (k : Int) < (s.size : Int) := by omega
      go_wp2_with fail
      refine (letter_any _ _).mono ?_; rintro e w' ⟨rfl, rfl⟩
      obtain ⟨b, hb⟩ : ∃ b, letterN (s[k]'hlt).toNat = b := ⟨_, rfl⟩
      rw [hb]
      have HB := hid hb
      have HLT := hid hlt
      clear hb
      cases b with
      | true =>
        go_wp2
        go_roundw
        case rel =>
          refine ⟨k + 1, by have := HLT.out; omega, by go_num, (by first | rfl | trivial), fun j hj h => ?_⟩
          by_cases e : j = k
          · subst e; exact HB.out
          · exact HZ.out j hj (by omega)
        case measure => (have := HLT.out; simp only [RowKit.intOf]; omega)
      | false =>
        go_wp2
        go_ret
        exact ⟨ret_bool (text_no hlt HB.out).symm, rfl⟩
    · obtain rfl : k = s.size := by omega
      go_wp2
      go_ret
      exact ⟨ret_bool (by rw [text_yes (fun j hj => HZ.out j hj hj)]; rw [decide_eq_decide]; omega), rfl⟩
def chk (b : Bool) : Int := if b then 0 else 3
theorem emptyS (s : ByteArray) : s.toList.isEmpty = (s.size == 0) := by
  rw [ByteArray.toList_eq]
  cases h : s.data.toList with
  | nil => have : s.size = 0 := by show s.data.size = 0; rw [← Array.length_toList, h]; rfl
           simp [this]
  | cons a l => have : s.size = l.length + 1 := by show s.data.size = _; rw [← Array.length_toList, h]; rfl
                simp [this]
theorem encV_cells {w : World} {b T : Nat} {v : Vv} (h : w.heap[b]? = some (.cells #[.int .u8 v.1, .int .i64 v.2.1, .string v.2.2] T (0, 0))) : w.cell? ⟨b, 0, none⟩ = some (.int .u8 v.1) ∧ w.cell? ⟨b, 1, none⟩ = some (.int .i64 v.2.1) ∧ w.cell? ⟨b, 2, none⟩ = some (.string v.2.2) :=
  ⟨by rw [row_cell h]; rfl, by rw [row_cell h]; rfl, by rw [row_cell h]; rfl⟩
set_option maxHeartbeats 1000000 in
set_option maxRecDepth 100000 in
theorem check_any (v : Vv) (hs : v.2.2.size ≤ 4611686018427387904) (w : World) : Calls Tryd.prog 10 #[vv v] w fun e w' => e = .returned (.int .i64 (chk (formB v))) ∧ Kept (fun _ => False) w w' := by
  obtain ⟨k, n, s⟩ := v
  simp only at hs
  unfold vv
  have hr := row_new w (.cells #[.int .u8 k, .int .i64 n, .string s] 23)
  have hk := (Kept.refl (fun _ => False) w).alloc (.cells #[.int .u8 k, .int .i64 n, .string s] 23)
  obtain ⟨w1, hw1⟩ : ∃ w1, w.alloc (.cells #[.int .u8 k, .int .i64 n, .string s] 23) = w1 := ⟨_, rfl⟩
  rw [hw1] at hr hk
  obtain ⟨c0, c1, c2⟩ := encV_cells (v := (k, n, s)) hr
  simp only at c0 c1 c2
  have K := hid hk
  clear hr hk
  obtain ⟨bn, hbn⟩ : ∃ b, (n == 0) = b := ⟨_, rfl⟩
  by_cases h2 : k = 2
  · subst h2
    have HF := hid (show formB (2, n, s) = (bn && textB s) by simp [formB, hbn])
    obtain ⟨bt, hbt⟩ : ∃ b, textB s = b := ⟨_, rfl⟩
    rw [hbt] at HF
    have HT := hid hbt
    clear hbt
    go_enter Tryd.func10, Tryd.ntmps10
    cases bn with
    | true =>
      go_wp2_with fail
      refine (text_any _ hs _).mono ?_; rintro e w' ⟨rfl, rfl⟩
      rw [HT.out]
      cases bt with
      | true => go_wp2; go_ret; exact ⟨ret_int (by rw [HF.out]; rfl), K.out⟩
      | false => go_wp2; go_ret; exact ⟨ret_int (by rw [HF.out]; rfl), K.out⟩
    | false =>
      go_wp2
      go_ret
      exact ⟨ret_int (by rw [HF.out]; rfl), K.out⟩
  · have he := emptyS s
    obtain ⟨bs, hbs⟩ : ∃ b, s.toList.isEmpty = b := ⟨_, rfl⟩
    rw [hbs] at he
    by_cases h0 : k = 0
    · subst h0
      have HF := hid (show formB (0, n, s) = (bn && bs) by simp only [formB, hbn, ← he]; rfl)
      clear he
      go_enter Tryd.func10, Tryd.ntmps10
      cases bn with
      | true =>
        cases bs with
        | true => go_wp2; go_ret; exact ⟨ret_int (by rw [HF.out]; rfl), K.out⟩
        | false => go_wp2; go_ret; exact ⟨ret_int (by rw [HF.out]; rfl), K.out⟩
      | false =>
        go_wp2
        go_ret
        exact ⟨ret_int (by rw [HF.out]; rfl), K.out⟩
    · by_cases h1 : k = 1
      · subst h1
        have HF := hid (show formB (1, n, s) = bs by simp only [formB, ← he]; rfl)
        clear he
        go_enter Tryd.func10, Tryd.ntmps10
        cases bs with
        | true => go_wp2; go_ret; exact ⟨ret_int (by rw [HF.out]; rfl), K.out⟩
        | false => go_wp2; go_ret; exact ⟨ret_int (by rw [HF.out]; rfl), K.out⟩
      · have HF := hid (show formB (k, n, s) = false by simp [formB, h0, h1, h2])
        go_enter Tryd.func10, Tryd.ntmps10
        go_wp2
        go_ret
        exact ⟨ret_int (by rw [HF.out]; rfl), K.out⟩
end Go.Proofs.YtnicaiofjficnaaDoor
