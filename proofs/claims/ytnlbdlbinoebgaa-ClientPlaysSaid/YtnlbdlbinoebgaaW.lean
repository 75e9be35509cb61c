/- Requests in form, exactly: the program's check. -/
import Derived.Test.YtnlbdlbinoebgaaV
namespace Go.Proofs.Ytnlbdlbinoebgaa
open Go.RowKit
open Classical in
/-- 1: all in form; else 0 -/
noncomputable def allI (l : List O) : Int := if ∀ x ∈ l, OpF x then 1 else 0
theorem allI_one {l : List O} (h : ∀ (j : Nat) x, l[j]? = some x → OpF x) : allI l = 1 := by
  unfold allI
  rw [if_pos]
  intro x hx
  obtain ⟨j, hj, rfl⟩ := List.mem_iff_getElem.1 hx
  exact h j _ (List.getElem?_eq_getElem hj)
theorem allI_zero {l : List O} {j : Nat} {x : O} (hj : l[j]? = some x) (h : ¬ OpF x) : allI l = 0 := by
  unfold allI
  rw [if_neg]
  intro hh
  exact h (hh _ (List.mem_of_getElem? hj))
theorem allI_two (l : List O) : allI l = 0 ∨ allI l = 1 := by unfold allI; split <;> simp
/-- a request's error -/
def chkI (kd len v k t f : Int) : Int :=
  if kd = 1 then (if len = 0 ∨ 6 < len then 2 else if v ≠ 0 ∨ k ≠ 0 ∨ t ≠ 0 ∨ f ≠ 1 then 3 else 0)
  else if kd = 2 then (if k < 0 ∨ 8 < k then 1 else if t ≠ 0 ∨ 0 < len ∨ v < 1 ∨ 40 < v then 3 else 0)
  else if kd = 3 then (if t < 0 ∨ 3 < t then 1 else if k ≠ 0 ∨ 0 < len ∨ v < 1 ∨ 40 < v then 3 else 0)
  else 1
noncomputable def chk (R : Rq) : Int := chkI R.kd R.ops.length R.v R.k R.t (allI R.ops)
def AllP (f : Int) (w : World) (e : Ending) (w' : World) : Prop := ((e = .returned (.bool true) ∧ f = 1) ∨ (e = .returned (.bool false) ∧ f = 0)) ∧ Kept (fun _ => False) w w'
def ChkP (c : Int) (w : World) (e : Ending) (w' : World) : Prop := e = .returned (.int .i64 c) ∧ Kept (fun _ => False) w w'
theorem ChkP.mk {c a : Int} {w w' : World} (k : Kept (fun _ => False) w w') (h : a = c) : ChkP c w (.returned (.int .i64 a)) w' := by subst h; exact ⟨rfl, k⟩
set_option linter.unusedSimpArgs false in
set_option maxRecDepth 100000 in
set_option maxHeartbeats 1000000 in
theorem all_is {F : Nat → Prop} {w : World} {v : Value} {R : Rq} (h : ReqIn F w v R) : Calls Try.prog 31 #[v] w (AllP (allI R.ops) w) := by
  have H := hid h
  obtain ⟨ao, c, rfl, m1, m2, _⟩ := h.l
  unfold maxLen at m2
  clear h
  go_enter Try.func31, Try.ntmps31
  go_wp2
  go_loopw [7] (fun i wr => ∃ k : Nat, k ≤ R.ops.length ∧ i = .int .i64 k ∧ Kept (fun _ => False) w wr ∧ ∀ (j : Nat) x, R.ops[j]? = some x → j < k → OpF x) (fun i _ => R.ops.length - (intOf i).toNat)
  case atStart => exact ⟨0, Nat.zero_le _, rfl, Kept.refl _ _, fun j _ _ h => absurd h (Nat.not_lt_zero _)⟩
  case round =>
    obtain ⟨k, hk, rfl, hkp, hall⟩ := hrel
    have HK := hid hkp; clear hkp
    have HA := hid hall; clear hall
    by_cases hlt : k < R.ops.length
    · obtain ⟨g1, o1, q1, e1, n1, _, _, _, z1⟩ := H.out.l.cell (by omega)
      simp only [Value.slice.injEq] at e1
      obtain ⟨rfl, _, rfl⟩ := e1
      have HLT := hid hlt
      obtain ⟨x, hxx⟩ : ∃ x, R.ops[k]? = some x := ⟨_, List.getElem?_eq_getElem hlt⟩
      have hx := fun r hr => flat_at ocell 7 (fun _ => rfl) R.ops k x r hxx hr
      have hs := H.out.s x (List.mem_of_getElem? hxx)
      have HX := hid hxx; clear hxx
      obtain ⟨a, b, cc, d, e, f, s⟩ := x
      have y0 := HK.out.cell (z1 (k * 7 + 0) _ (hx 0 (by decide))) id
      have y1 := HK.out.cell (z1 (k * 7 + 1) _ (hx 1 (by decide))) id
      have y2 := HK.out.cell (z1 (k * 7 + 2) _ (hx 2 (by decide))) id
      have y3 := HK.out.cell (z1 (k * 7 + 3) _ (hx 3 (by decide))) id
      have y4 := HK.out.cell (z1 (k * 7 + 4) _ (hx 4 (by decide))) id
      have y5 := HK.out.cell (z1 (k * 7 + 5) _ (hx 5 (by decide))) id
      have y6 := HK.out.cell (z1 (k * 7 + 6) _ (hx 6 (by decide))) id
      simp only [← Nat.add_assoc, Nat.add_zero] at y0 y1 y2 y3 y4 y5 y6
      clear hx z1 n1
      have HS := hid hs; clear hs
      go_wp2_with fail
      refine (formed_is ⟨_, _, _, _, _, _, _⟩ HS.out _).mono ?_
      rintro e w8 ⟨b8, rfl, hb8, hk8⟩
      have HK8 := hid ((HK.out.alloc _).trans hk8)
      have HB := hid hb8
      clear hk8 hb8 y0 y1 y2 y3 y4 y5 y6 HK
      cases b8
      · go_wp2
        go_ret
        exact ⟨.inr ⟨rfl, allI_zero HX.out (fun h => nomatch HB.out.2 h)⟩, HK8.out⟩
      · go_wp2
        go_roundw
        case rel =>
          refine ⟨k + 1, by have := HLT.out; omega, by go_num, HK8.out, fun j x hj h => ?_⟩
          by_cases e : j = k
          · subst e
            have e2 := HX.out
            rw [hj] at e2
            cases e2
            exact HB.out.1 (by first | rfl | trivial)
          · exact HA.out j x hj (by omega)
        case measure => (have := HLT.out; simp [intOf]; omega)
    · obtain rfl : k = R.ops.length := by omega
      go_wp2
      go_ret
      exact ⟨.inl ⟨rfl, allI_one fun j x hj => HA.out j x hj (List.getElem?_eq_some_iff.1 hj).1⟩, HK.out⟩
set_option linter.unusedSimpArgs false in
set_option maxRecDepth 100000 in
set_option maxHeartbeats 4000000 in
theorem check_is {F : Nat → Prop} {w : World} {v : Value} {R : Rq} (h : ReqIn F w v R) : Calls Try.prog 17 #[.agg #[.int .u8 R.kd, v, .int .u32 R.v, .int .i64 R.k, .int .i64 R.t]] w (ChkP (chk R) w) := by
  have H := hid h
  obtain ⟨ao, c, rfl, m1, m2, _⟩ := h.l
  unfold maxLen at m2
  clear h
  obtain ⟨kd, ops, vv, k, t⟩ := R
  simp only at m1 m2 ⊢
  by_cases hz : 0 < ops.length
  · have z1 : (0 : Int) < (ops.length : Int) := by omega
    have z2 : ((ops.length : Int) == 0) = false := beq_eq_false_iff_ne.2 (by omega)
    have z3 : decide ((0 : Int) < (ops.length : Int)) = true := decide_eq_true (by omega)
    have z4 : decide (0 < ops.length) = true := by simpa using hz
    go_enter Try.func17, Try.ntmps17
    go_wp2_with (first | (go_at_call 31; refine (all_is (by exact H.out.same ((Kept.refl _ _).alloc _))).mono ?_; rintro e w8 ⟨⟨rfl, hf⟩ | ⟨rfl, hf⟩, hk8⟩ <;> (have HF := hid hf; have HK8 := hid (((Kept.refl (fun _ => False) w).alloc _).trans hk8); clear hk8 hf)) | (go_at_call 32; refine (number_b _ _).mono ?_; rintro e w' ⟨⟨rfl, h2⟩ | ⟨rfl, h2⟩, rfl⟩ <;> (have HNB := hid h2; clear h2)))
    all_goals
      go_ret
      exact ChkP.mk (by first | exact (Kept.refl _ _).alloc _ | exact HK8.out) (by
  (try have f2 := HF.out)
  (try have f3 := HNB.out)
  (try simp only [bne_eq_false_iff_eq, bne_iff_ne, ne_eq, beq_iff_eq, beq_eq_false_iff_ne, decide_eq_true_eq, decide_eq_false_iff_not] at *)
  unfold chk chkI
  dsimp only
  (repeat' split) <;> omega)
  · have z1 : ¬ (0 : Int) < (ops.length : Int) := by omega
    have z2 : ((ops.length : Int) == 0) = true := beq_iff_eq.2 (by omega)
    have z3 : decide ((0 : Int) < (ops.length : Int)) = false := decide_eq_false (by omega)
    have z4 : decide (0 < ops.length) = false := by simpa using hz
    go_enter Try.func17, Try.ntmps17
    go_wp2_with (first | (go_at_call 31; refine (all_is (by exact H.out.same ((Kept.refl _ _).alloc _))).mono ?_; rintro e w8 ⟨⟨rfl, hf⟩ | ⟨rfl, hf⟩, hk8⟩ <;> (have HF := hid hf; have HK8 := hid (((Kept.refl (fun _ => False) w).alloc _).trans hk8); clear hk8 hf)) | (go_at_call 32; refine (number_b _ _).mono ?_; rintro e w' ⟨⟨rfl, h2⟩ | ⟨rfl, h2⟩, rfl⟩ <;> (have HNB := hid h2; clear h2)))
    all_goals
      go_ret
      exact ChkP.mk (by first | exact (Kept.refl _ _).alloc _ | exact HK8.out) (by
  (try have f2 := HF.out)
  (try have f3 := HNB.out)
  (try simp only [bne_eq_false_iff_eq, bne_iff_ne, ne_eq, beq_iff_eq, beq_eq_false_iff_ne, decide_eq_true_eq, decide_eq_false_iff_not] at *)
  unfold chk chkI
  dsimp only
  (repeat' split) <;> omega)
end Go.Proofs.Ytnlbdlbinoebgaa
