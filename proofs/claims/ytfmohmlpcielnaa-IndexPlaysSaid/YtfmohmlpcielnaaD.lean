/- The two searches. -/
import Derived.Test.YtfmohmlpcielnaaC
namespace Go.Proofs.Ytfmohmlpcielnaa
open Go.RowKit

/-- how many keys stand ahead of n -/
def aft (S : List Int) (n : Int) : Nat := (S.takeWhile fun x => decide (x < n)).length
theorem aft_is : ∀ (S : List Int) (n : Int) (i : Nat), i ≤ S.length → (∀ p, p < i → ∀ x, S[p]? = some x → x < n) → (∀ x, S[i]? = some x → n ≤ x) → i = aft S n
  | [], n, i, h, _, _ => by simp at h; subst h; rfl
  | y :: S, n, 0, _, _, h2 => by
    have := h2 y (by simp)
    have hd : decide (y < n) = false := by simp; omega
    simp [aft, List.takeWhile_cons, hd]
  | y :: S, n, i + 1, h, h1, h2 => by
    have h0 := h1 0 (by omega) y (by simp)
    have := aft_is S n i (by simpa using h) (fun p hp x hx => h1 (p + 1) (by omega) x (by simpa using hx)) (fun x hx => h2 x (by simpa using hx))
    have hd : decide (y < n) = true := by simpa using h0
    simp only [aft, List.takeWhile_cons, hd, if_true, List.length_cons] at this ⊢
    omega
def SearchPost (w : World) (S : List Int) (n : Int) (e : Ending) (w' : World) : Prop := e = .returned (.tuple #[.int .i64 (aft S n), .bool (decide (S[aft S n]? = some n))]) ∧ Kept (fun _ => False) w w'
theorem SearchPost.mk {w w' : World} {S : List Int} {n : Int} {k : Nat} {b : Bool} (h : k = aft S n) (hb : b = decide (S[k]? = some n)) (hk : Kept (fun _ => False) w w') : SearchPost w S n (.returned (.tuple #[.int .i64 k, .bool b])) w' := by
  subst h; subst hb; exact ⟨rfl, hk⟩
def Rising (S : List Int) : Prop := ∀ (p q : Nat) (x y : Int), p < q → S[p]? = some x → S[q]? = some y → x < y
theorem cmpI_eq (a n : Int) : (cmpI a n == 0) = decide (a = n) := by
  unfold cmpI
  rw [Bool.eq_iff_iff]
  simp only [beq_iff_eq, decide_eq_true_eq]
  split <;> (try split) <;> omega

set_option maxRecDepth 100000 in
set_option maxHeartbeats 2000000 in
theorem sitem_any {w : World} {v : Value} {S : List It} (h : Seg w 33 2 v S.length (icells S)) (hr : Rising (S.map (·.1))) (hb : S.length ≤ 17592186043904) (n : Int) :
    Calls Try.prog 33 #[v, .int .u64 n, (.func (.func 34) #[] #[])] w (SearchPost w (S.map (·.1)) n) := by
  have H := hid h
  have HR := hid hr
  obtain ⟨ao, c, rfl⟩ := h.isSlice
  obtain ⟨m1, m2⟩ := h.caps
  unfold maxLen at m2
  clear hr h
  go_enter Try.func33, Try.ntmps33
  go_wp2_with fail
  go_loopw [9, 10] (fun i j wr => ∃ p q : Nat, p ≤ q ∧ q ≤ S.length ∧ i = .int .i64 p ∧ j = .int .i64 q ∧ (∀ r, r < p → ∀ x, (S.map (·.1))[r]? = some x → x < n) ∧ (∀ r, q ≤ r → ∀ x, (S.map (·.1))[r]? = some x → n ≤ x) ∧ Kept (fun _ => False) w wr) (fun i j _ => (intOf j).toNat - (intOf i).toNat)
  case atStart => exact ⟨0, S.length, Nat.zero_le _, Nat.le_refl _, rfl, rfl, fun r hr => absurd hr (by omega), fun r hr x hx => absurd (List.getElem?_eq_some_iff.1 hx).1 (by simp; omega), Kept.refl _ _⟩
  case round =>
    obtain ⟨p, q, hpq, hq, rfl, rfl, h1, h2, hk⟩ := hrel
    have H1 := hid h1; have H2 := hid h2; have HK := hid hk; clear h1 h2 hk
    by_cases hlt : p < q
    · obtain ⟨hh, hdiv⟩ : ∃ hh : Nat, ((p : Int) + (q : Int)) / 2 = (hh : Int) := ⟨(p + q) / 2, by omega⟩
      have l1 : p ≤ hh := by omega
      have l2 : hh < q := by omega
      have w1 : IntKind.i64.wrap ((p : Int) + (q : Int)) = (p : Int) + (q : Int) := by rw [IntKind.wrap_i64]; omega
      have w2 : IntKind.u64.wrap ((p : Int) + (q : Int)) = (p : Int) + (q : Int) := by simp [IntKind.wrap, IntKind.bits, IntKind.signed]; omega
      have w3 : IntKind.i64.wrap (hh : Int) = (hh : Int) := by rw [IntKind.wrap_i64]; omega
      obtain ⟨g1, q1, e1, n1, _⟩ := H.out.some_of_pos (by omega)
      simp only [Value.slice.injEq] at e1
      obtain ⟨rfl, _, rfl⟩ := e1
      obtain ⟨x0, x1⟩ := icells_at S hh (S[hh]'(by omega)) (by simp)
      obtain ⟨⟨kk, vv⟩, hsx⟩ : ∃ sx, S[hh]'(by omega) = sx := ⟨_, rfl⟩
      rw [hsx] at x0 x1
      have HSX := hid (show (S.map (·.1))[hh]? = some kk by rw [List.getElem?_map, List.getElem?_eq_getElem (by omega), hsx]; rfl)
      obtain ⟨i0, j0⟩ := List.getElem?_eq_some_iff.1 x0
      obtain ⟨i1, j1⟩ := List.getElem?_eq_some_iff.1 x1
      have y0 := HK.out.cell ((H.out.cells rfl _ i0).trans (by rw [j0])) id
      have y1 := HK.out.cell ((H.out.cells rfl _ i1).trans (by rw [j1])) id
      clear x0 x1 n1 hsx i0 j0 i1 j1
      go_wp2_with fail
      refine (item_any _ _ _ _).mono ?_; rintro e w8 ⟨rfl, hk8⟩
      have HK8 := hid (HK.out.trans hk8); clear hk8 y0 y1
      by_cases hc : kk < n
      · have hcv : cmpI kk n = -1 := by simp [cmpI, hc]
        rw [hcv]
        go_wp2
        go_roundw
        case rel => exact ⟨hh + 1, q, by omega, hq, by go_num, rfl, fun r hr x hx => by
          by_cases e : r = hh
          · subst e; rw [HSX.out] at hx; cases hx; exact hc
          · have := HR.out r hh x _ (by omega) hx HSX.out; omega, H2.out, HK8.out⟩
        case measure => simp [intOf]; omega
      · have hcv : ¬ cmpI kk n < 0 := by unfold cmpI; split <;> (try split) <;> omega
        obtain ⟨cv, hcv'⟩ : ∃ cv, cmpI kk n = cv := ⟨_, rfl⟩
        rw [hcv'] at hcv ⊢
        clear hcv'
        go_wp2
        go_roundw
        case rel => exact ⟨p, hh, l1, by omega, rfl, rfl, H1.out, fun r hr x hx => by
          by_cases e : r = hh
          · subst e; rw [HSX.out] at hx; cases hx; omega
          · have := HR.out hh r _ x (by omega) HSX.out hx; omega, HK8.out⟩
        case measure => simp [intOf]; omega
    · obtain rfl : p = q := by omega
      have he : p = aft (S.map (·.1)) n := aft_is (S.map (·.1)) n p (by simpa using hq) H1.out (fun x hx => H2.out p (Nat.le_refl _) x hx)
      have HE := hid he; clear he
      by_cases hpl : p < S.length
      · obtain ⟨hh, hhe⟩ : ∃ hh, hh = p := ⟨_, rfl⟩
        have l2 : hh < S.length := by omega
        obtain ⟨g1, q1, e1, n1, _⟩ := H.out.some_of_pos (by omega)
        simp only [Value.slice.injEq] at e1
        obtain ⟨rfl, _, rfl⟩ := e1
        obtain ⟨x0, x1⟩ := icells_at S hh (S[hh]'(by omega)) (by simp)
        obtain ⟨⟨kk, vv⟩, hsx⟩ : ∃ sx, S[hh]'(by omega) = sx := ⟨_, rfl⟩
        rw [hsx] at x0 x1
        have HSX := hid (show (S.map (·.1))[hh]? = some kk by rw [List.getElem?_map, List.getElem?_eq_getElem (by omega), hsx]; rfl)
        obtain ⟨i0, j0⟩ := List.getElem?_eq_some_iff.1 x0
        obtain ⟨i1, j1⟩ := List.getElem?_eq_some_iff.1 x1
        have y0 := HK.out.cell ((H.out.cells rfl _ i0).trans (by rw [j0])) id
        have y1 := HK.out.cell ((H.out.cells rfl _ i1).trans (by rw [j1])) id
        clear x0 x1 n1 hsx i0 j0 i1 j1
        subst hhe
        go_wp2_with fail
        refine (item_any _ _ _ _).mono ?_; rintro e w8 ⟨rfl, hk8⟩
        have HK8 := hid (HK.out.trans hk8); clear hk8 y0 y1
        have hce := cmpI_eq kk n
        obtain ⟨cv, hcv⟩ : ∃ cv, cmpI kk n = cv := ⟨_, rfl⟩
        rw [hcv] at hce ⊢
        go_wp2
        go_ret2
        exact SearchPost.mk HE.out (by rw [HSX.out]; simp) HK8.out
      · go_wp2
        go_ret2
        exact SearchPost.mk HE.out (by rw [List.getElem?_eq_none (by simp; omega)]; simp) HK.out
set_option maxRecDepth 100000 in
set_option maxHeartbeats 2000000 in
theorem spage_any {w : World} {v : Value} {S : List (Nat × Value × List It)} (h : Seg w 69 1 v S.length (S.map fun x => .pointer (some ⟨x.1, 0, none⟩))) (hp : ∀ x ∈ S, PgAt w x.1 x.2.1 x.2.2 ∧ 0 < x.2.2.length) (hr : Rising (S.map fun x => lastK x.2.2)) (hb : S.length ≤ 17592186043904) (n : Int) :
    Calls Try.prog 31 #[v, .int .u64 n, (.func (.func 32) #[] #[])] w (SearchPost w (S.map fun x => lastK x.2.2) n) := by
  have H := hid h
  have HR := hid hr; have HP := hid hp
  obtain ⟨ao, c, rfl⟩ := h.isSlice
  obtain ⟨m1, m2⟩ := h.caps
  unfold maxLen at m2
  clear hr h hp
  go_enter Try.func31, Try.ntmps31
  go_wp2_with fail
  go_loopw [9, 10] (fun i j wr => ∃ p q : Nat, p ≤ q ∧ q ≤ S.length ∧ i = .int .i64 p ∧ j = .int .i64 q ∧ (∀ r, r < p → ∀ x, (S.map fun x => lastK x.2.2)[r]? = some x → x < n) ∧ (∀ r, q ≤ r → ∀ x, (S.map fun x => lastK x.2.2)[r]? = some x → n ≤ x) ∧ Kept (fun _ => False) w wr) (fun i j _ => (intOf j).toNat - (intOf i).toNat)
  case atStart => exact ⟨0, S.length, Nat.zero_le _, Nat.le_refl _, rfl, rfl, fun r hr => absurd hr (by omega), fun r hr x hx => absurd (List.getElem?_eq_some_iff.1 hx).1 (by simp; omega), Kept.refl _ _⟩
  case round =>
    obtain ⟨p, q, hpq, hq, rfl, rfl, h1, h2, hk⟩ := hrel
    have H1 := hid h1; have H2 := hid h2; have HK := hid hk; clear h1 h2 hk
    by_cases hlt : p < q
    · obtain ⟨hh, hdiv⟩ : ∃ hh : Nat, ((p : Int) + (q : Int)) / 2 = (hh : Int) := ⟨(p + q) / 2, by omega⟩
      have l1 : p ≤ hh := by omega
      have l2 : hh < q := by omega
      have w1 : IntKind.i64.wrap ((p : Int) + (q : Int)) = (p : Int) + (q : Int) := by rw [IntKind.wrap_i64]; omega
      have w2 : IntKind.u64.wrap ((p : Int) + (q : Int)) = (p : Int) + (q : Int) := by simp [IntKind.wrap, IntKind.bits, IntKind.signed]; omega
      have w3 : IntKind.i64.wrap (hh : Int) = (hh : Int) := by rw [IntKind.wrap_i64]; omega
      obtain ⟨g1, q1, e1, n1, _⟩ := H.out.some_of_pos (by omega)
      simp only [Value.slice.injEq] at e1
      obtain ⟨rfl, _, rfl⟩ := e1
      obtain ⟨⟨pb, pv, pl⟩, hsx⟩ : ∃ sx, S[hh]'(by omega) = sx := ⟨_, rfl⟩
      obtain ⟨hpg, hpl0⟩ := HP.out (S[hh]'(by omega)) (List.getElem_mem _)
      rw [hsx] at hpg hpl0
      obtain ⟨kk, hkk⟩ : ∃ kk, lastK pl = kk := ⟨_, rfl⟩
      have HSX := hid (show (S.map fun x => lastK x.2.2)[hh]? = some kk by rw [List.getElem?_map, List.getElem?_eq_getElem (by omega), hsx]; simp [hkk])
      have y0 : wr.cell? ⟨g1, hh, none⟩ = some (.pointer (some ⟨pb, 0, none⟩)) := HK.out.cell ((H.out.cells rfl hh (by simp; omega)).trans (by simp [hsx])) id
      have HPG := hid (hpg.same HK.out)
      clear n1 hsx hpg
      go_wp2_with fail
      refine (order_any HPG.out hpl0 n).mono ?_; rintro e w8 ⟨rfl, hk8⟩
      rw [hkk]
      have HK8 := hid (HK.out.trans hk8); clear hk8 y0 hkk
      by_cases hc : kk < n
      · have hcv : cmpI kk n = -1 := by simp [cmpI, hc]
        rw [hcv]
        go_wp2
        go_roundw
        case rel => exact ⟨hh + 1, q, by omega, hq, by go_num, rfl, fun r hr x hx => by
          by_cases e : r = hh
          · subst e; rw [HSX.out] at hx; cases hx; exact hc
          · have := HR.out r hh x _ (by omega) hx HSX.out; omega, H2.out, HK8.out⟩
        case measure => simp [intOf]; omega
      · have hcv : ¬ cmpI kk n < 0 := by unfold cmpI; split <;> (try split) <;> omega
        obtain ⟨cv, hcv'⟩ : ∃ cv, cmpI kk n = cv := ⟨_, rfl⟩
        rw [hcv'] at hcv ⊢
        clear hcv'
        go_wp2
        go_roundw
        case rel => exact ⟨p, hh, l1, by omega, rfl, rfl, H1.out, fun r hr x hx => by
          by_cases e : r = hh
          · subst e; rw [HSX.out] at hx; cases hx; omega
          · have := HR.out hh r _ x (by omega) HSX.out hx; omega, HK8.out⟩
        case measure => simp [intOf]; omega
    · obtain rfl : p = q := by omega
      have he : p = aft (S.map fun x => lastK x.2.2) n := aft_is (S.map fun x => lastK x.2.2) n p (by simpa using hq) H1.out (fun x hx => H2.out p (Nat.le_refl _) x hx)
      have HE := hid he; clear he
      by_cases hpl : p < S.length
      · obtain ⟨hh, hhe⟩ : ∃ hh, hh = p := ⟨_, rfl⟩
        have l2 : hh < S.length := by omega
        obtain ⟨g1, q1, e1, n1, _⟩ := H.out.some_of_pos (by omega)
        simp only [Value.slice.injEq] at e1
        obtain ⟨rfl, _, rfl⟩ := e1
        obtain ⟨⟨pb, pv, pl⟩, hsx⟩ : ∃ sx, S[hh]'(by omega) = sx := ⟨_, rfl⟩
        obtain ⟨hpg, hpl0⟩ := HP.out (S[hh]'(by omega)) (List.getElem_mem _)
        rw [hsx] at hpg hpl0
        obtain ⟨kk, hkk⟩ : ∃ kk, lastK pl = kk := ⟨_, rfl⟩
        have HSX := hid (show (S.map fun x => lastK x.2.2)[hh]? = some kk by rw [List.getElem?_map, List.getElem?_eq_getElem (by omega), hsx]; simp [hkk])
        have y0 : wr.cell? ⟨g1, hh, none⟩ = some (.pointer (some ⟨pb, 0, none⟩)) := HK.out.cell ((H.out.cells rfl hh (by simp; omega)).trans (by simp [hsx])) id
        have HPG := hid (hpg.same HK.out)
        clear n1 hsx hpg
        subst hhe
        go_wp2_with fail
        refine (order_any HPG.out hpl0 n).mono ?_; rintro e w8 ⟨rfl, hk8⟩
        rw [hkk]
        have HK8 := hid (HK.out.trans hk8); clear hk8 y0 hkk
        have hce := cmpI_eq kk n
        obtain ⟨cv, hcv⟩ : ∃ cv, cmpI kk n = cv := ⟨_, rfl⟩
        rw [hcv] at hce ⊢
        go_wp2
        go_ret2
        exact SearchPost.mk HE.out (by rw [HSX.out]; simp) HK8.out
      · go_wp2
        go_ret2
        exact SearchPost.mk HE.out (by rw [List.getElem?_eq_none (by simp; omega)]; simp) HK.out
end Go.Proofs.Ytfmohmlpcielnaa
