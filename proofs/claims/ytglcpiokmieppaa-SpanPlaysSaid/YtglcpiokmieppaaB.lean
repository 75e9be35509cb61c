/- The search; a set in memory; after. -/
import Derived.Test.YtglcpiokmieppaaA
namespace Go.Proofs.Ytglcpiokmieppaa
open Go.RowKit

/-- how many spans end ahead of n -/
def aft (S : List Sp) (n : Int) : Nat := (S.takeWhile fun x => decide (x.2 < n)).length
/-- i is it: all ahead of it end ahead of n, none from it on -/
theorem aft_is : ∀ (S : List Sp) (n : Int) (i : Nat), i ≤ S.length → (∀ p, p < i → ∀ x, S[p]? = some x → x.2 < n) → (∀ x, S[i]? = some x → n ≤ x.2) → i = aft S n
  | [], n, i, h, _, _ => by simp at h; subst h; rfl
  | y :: S, n, 0, _, _, h2 => by
    have := h2 y (by simp)
    have hd : decide (y.2 < n) = false := by simp; omega
    simp [aft, List.takeWhile_cons, hd]
  | y :: S, n, i + 1, h, h1, h2 => by
    have h0 := h1 0 (by omega) y (by simp)
    have := aft_is S n i (by simpa using h) (fun p hp x hx => h1 (p + 1) (by omega) x (by simpa using hx)) (fun x hx => h2 x (by simpa using hx))
    have hd : decide (y.2 < n) = true := by simpa using h0
    simp only [aft, List.takeWhile_cons, hd, if_true, List.length_cons] at this ⊢
    omega

def SearchPost (w : World) (m : Nat) (e : Ending) (w' : World) : Prop := ∃ b : Bool, e = .returned (.tuple #[.int .i64 m, .bool b]) ∧ Kept (fun _ => False) w w'
theorem SearchPost.mk {w w' : World} {m k : Nat} {b : Bool} (h : k = m) (hk : Kept (fun _ => False) w w') : SearchPost w m (.returned (.tuple #[.int .i64 k, .bool b])) w' := ⟨b, by rw [h], hk⟩
def Rising (S : List Sp) : Prop := ∀ (p q : Nat) (x y : Sp), p < q → S[p]? = some x → S[q]? = some y → x.2 ≤ y.2
set_option maxRecDepth 100000 in
set_option maxHeartbeats 2000000 in
theorem search_any {F : Nat → Prop} {w : World} {v : Value} {S : List Sp} (h : Lies F w 2 v S.length (scells S)) (hr : Rising S) (hb : S.length ≤ 17592186043904) (n : Int) :
    Calls Try.prog 35 #[v, .int .u32 n, (.func (.func 36) #[] #[])] w (SearchPost w (aft S n)) := by
  have H := hid h
  have HR := hid hr
  obtain ⟨ao, c, rfl, m1, m2, _⟩ := h
  unfold maxLen at m2
  clear hr
  go_enter Try.func35, Try.ntmps35
  go_wp2_with fail
  go_loopw [9, 10] (fun i j wr => ∃ p q : Nat, p ≤ q ∧ q ≤ S.length ∧ i = .int .i64 p ∧ j = .int .i64 q ∧ (∀ r, r < p → ∀ x, S[r]? = some x → x.2 < n) ∧ (∀ r, q ≤ r → ∀ x, S[r]? = some x → n ≤ x.2) ∧ Kept (fun _ => False) w wr) (fun i j _ => (intOf j).toNat - (intOf i).toNat)
  case atStart => exact ⟨0, S.length, Nat.zero_le _, Nat.le_refl _, rfl, rfl, fun r hr => absurd hr (by omega), fun r hr x hx => absurd (List.getElem?_eq_some_iff.1 hx).1 (by omega), Kept.refl _ _⟩
  case round =>
    obtain ⟨p, q, hpq, hq, rfl, rfl, h1, h2, hk⟩ := hrel
    have H1 := hid h1; have H2 := hid h2; have HK := hid hk; clear h1 h2 hk
    by_cases hlt : p < q
    · obtain ⟨hh, hdiv⟩ : ∃ hh : Nat, ((p : Int) + (q : Int)) / 2 = (hh : Int) := ⟨(p + q) / 2, by omega⟩
      have l1 : p ≤ hh := by omega
      have l2 : hh < q := by omega
      obtain ⟨g1, o1, q1, e1, n1, _, _, _, z1⟩ := H.out.cell (by omega)
      simp only [Value.slice.injEq] at e1
      obtain ⟨rfl, _, rfl⟩ := e1
      obtain ⟨x0, x1⟩ := scells_at S hh (S[hh]'(by omega)) (by simp)
      obtain ⟨sx, hsx⟩ : ∃ sx, S[hh]'(by omega) = sx := ⟨_, rfl⟩
      rw [hsx] at x0 x1
      have HSX := hid (show S[hh]? = some sx by rw [← hsx]; simp)
      obtain ⟨sa, sb⟩ := sx
      have y0 := HK.out.cell (z1 _ _ x0) id
      have y1 := HK.out.cell (z1 _ _ x1) id
      simp only [← Nat.add_assoc] at y0 y1
      have w1 : IntKind.i64.wrap ((p : Int) + (q : Int)) = (p : Int) + (q : Int) := by rw [IntKind.wrap_i64]; omega
      have w2 : IntKind.u64.wrap ((p : Int) + (q : Int)) = (p : Int) + (q : Int) := by simp [IntKind.wrap, IntKind.bits, IntKind.signed]; omega
      have w3 : IntKind.i64.wrap (hh : Int) = (hh : Int) := by rw [IntKind.wrap_i64]; omega
      clear x0 x1 z1 n1 hsx
      go_wp2_with fail
      refine (closure_any _ _ _ _).mono ?_; rintro e w8 ⟨rfl, hk8⟩
      have HK8 := hid (HK.out.trans hk8); clear hk8 y0 y1
      by_cases hc : sb < n
      · have hcv : cmpI sb n = -1 := by simp [cmpI, hc]
        rw [hcv]
        go_wp2
        go_roundw
        case rel => exact ⟨hh + 1, q, by omega, hq, by go_num, rfl, fun r hr x hx => by
          by_cases e : r = hh
          · subst e; rw [HSX.out] at hx; cases hx; exact hc
          · have := HR.out r hh x _ (by omega) hx HSX.out; simp only at this; omega, H2.out, HK8.out⟩
        case measure => simp [intOf]; omega
      · have hcv : ¬ cmpI sb n < 0 := by unfold cmpI; split <;> (try split) <;> omega
        obtain ⟨cv, hcv'⟩ : ∃ cv, cmpI sb n = cv := ⟨_, rfl⟩
        rw [hcv'] at hcv ⊢
        clear hcv'
        go_wp2
        go_roundw
        case rel => exact ⟨p, hh, l1, by omega, rfl, rfl, H1.out, fun r hr x hx => by
          by_cases e : r = hh
          · subst e; rw [HSX.out] at hx; cases hx; simp only; omega
          · have := HR.out hh r _ x (by omega) HSX.out hx; simp only at this; omega, HK8.out⟩
        case measure => simp [intOf]; omega
    · obtain rfl : p = q := by omega
      have he : p = aft S n := aft_is S n p hq H1.out (fun x hx => H2.out p (Nat.le_refl _) x hx)
      have HE := hid he; clear he
      by_cases hpl : p < S.length
      · obtain ⟨g1, o1, q1, e1, n1, _, _, _, z1⟩ := H.out.cell (by omega)
        simp only [Value.slice.injEq] at e1
        obtain ⟨rfl, _, rfl⟩ := e1
        obtain ⟨x0, x1⟩ := scells_at S p (S[p]'(by omega)) (by simp)
        obtain ⟨⟨sa, sb⟩, hsx⟩ : ∃ sx, S[p]'(by omega) = sx := ⟨_, rfl⟩
        rw [hsx] at x0 x1
        have y0 := HK.out.cell (z1 _ _ x0) id
        have y1 := HK.out.cell (z1 _ _ x1) id
        simp only [← Nat.add_assoc] at y0 y1
        clear x0 x1 z1 n1 hsx
        go_wp2_with fail
        refine (closure_any _ _ _ _).mono ?_; rintro e w8 ⟨rfl, hk8⟩
        have HK8 := hid (HK.out.trans hk8); clear hk8
        go_wp2
        go_ret2
        exact SearchPost.mk HE.out HK8.out
      · go_wp2
        go_ret2
        exact SearchPost.mk HE.out HK.out
end Go.Proofs.Ytglcpiokmieppaa
