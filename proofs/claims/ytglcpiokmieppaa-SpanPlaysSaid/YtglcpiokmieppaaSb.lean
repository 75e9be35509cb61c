/- Free of the document; calls of a nil set. -/
import Derived.Test.YtglcpiokmieppaaSa
namespace Go.Proofs.Ytglcpiokmieppaa
open Go.RowKit

theorem freeV_in {S : List Sp} (h : Good S) (x : Sp) (hx : x ∈ S) (n : Int) (h1 : x.1 ≤ n) (h2 : n ≤ x.2) : freeV S n = if x.2 = 4294967295 then (0, false) else (x.2 + 1, true) := by
  have hb : hasB S n = true := (has_iff h n).2 ⟨x, hx, h1, h2⟩
  unfold freeV
  rw [if_pos hb]
  unfold hasB at hb
  cases hy : S[aft S n]? with
  | none => rw [hy] at hb; cases hb
  | some y =>
    rw [hy] at hb
    simp only [decide_eq_true_eq] at hb
    have hyx : y = x := by
      have hym := List.mem_of_getElem? hy
      have c := cut_facts h n n (Int.le_refl _)
      have hyn : n ≤ y.2 := by
        obtain ⟨hl, e⟩ := List.getElem?_eq_some_iff.1 hy
        have hd : y ∈ S.drop (aft S n) := by rw [← e]; exact List.mem_drop_iff_getElem.2 ⟨0, by omega, by simp⟩
        have h3 := cut_split S n n
        have h4 : S.take (aft S n) ++ S.drop (aft S n) = S.take (aft S n) ++ (cutM S n n ++ S.drop (cutJ S n n)) := by rw [List.take_append_drop, ← List.append_assoc]; exact h3
        rw [List.append_cancel_left h4] at hd
        rcases List.mem_append.1 hd with hm | hm
        · exact (c.m y hm).2
        · have := c.r y hm; have := h.b y hym; omega
      obtain ⟨i, hi, ei⟩ := List.mem_iff_getElem.1 hx
      obtain ⟨j, hj, ej⟩ := List.mem_iff_getElem.1 hym
      have hp := List.pairwise_iff_getElem.1 h.pw
      rcases Nat.lt_trichotomy i j with hlt | heq | hgt
      · have := hp i j hi hj hlt; rw [ei, ej] at this; simp only [Apart] at this; omega
      · subst heq; rw [ei] at ej; exact ej.symm
      · have := hp j i hj hi hgt; rw [ei, ej] at this; simp only [Apart] at this; omega
    rw [hyx]
theorem freeV_out {S : List Sp} (h : Good S) (n : Int) (hn : ¬ Has S n) : freeV S n = (n, true) := by
  unfold freeV
  rw [if_neg (fun hb => hn ((has_iff h n).1 hb))]
set_option maxRecDepth 100000 in
set_option maxHeartbeats 4000000 in
theorem rfree_any {w : World} {rb : Nat} {D : List Dd} (hR : ∀ w', Kept (fun _ => False) w w' → RsAt w' [(rb, D)]) (n : Int) (hg : Good (spansD [(rb, D)])) :
    Calls Try.prog 20 #[.pointer (some ⟨rb, 0, none⟩), .int .u32 n] w fun e w' => e = .returned (.tuple #[.int .u32 (freeV (spansD [(rb, D)]) n).1, .bool (freeV (spansD [(rb, D)]) n).2]) ∧ Kept (fun _ => False) w w' := by
  have HR := hid hR
  obtain ⟨S, hS⟩ : ∃ S, S = spansD [(rb, D)] := ⟨_, rfl⟩
  rw [← hS] at hg ⊢
  have HG := hid hg; have HS := hid hS
  have nS := hg.len
  clear hR hg hS
  go_enter Try.func20, Try.ntmps20
  go_wp2_with fail
  refine (rspans_any (Rs := [(rb, D)]) (lies_ptr (cap := 1) (row_new w (.cells #[.pointer (some ⟨rb, 0, none⟩)] 27)) rfl (by simp) (by decide)) (HR.out _ ((Kept.refl _ _).alloc _))).mono ?_
  rintro e w1 ⟨v, rfl, hf, hk⟩
  rw [← HS.out] at hf
  obtain ⟨ao, c, rfl, ho, _⟩ := hf
  have HO := hid ho; have HK := hid (((Kept.refl (fun _ => False) w).alloc (.cells #[.pointer (some ⟨rb, 0, none⟩)] 27)).trans hk)
  clear ho hk
  go_wp2_with fail
  go_loopw [12] (fun i wr => ∃ k : Nat, k ≤ S.length ∧ i = .int .i64 k ∧ (∀ x ∈ S.take k, ¬ (x.1 ≤ n ∧ n ≤ x.2)) ∧ Kept (fun _ => False) w1 wr) (fun i _ => S.length - (intOf i).toNat)
  case atStart => exact ⟨0, Nat.zero_le _, rfl, by simp, Kept.refl _ _⟩
  case round =>
    obtain ⟨k, hk, rfl, hs, hkp⟩ := hrel
    have HK2 := hid hkp; have HSK := hid hs; clear hkp hs
    by_cases hlt : k < S.length
    · obtain ⟨g, cap, e, l1, l2, y0, y1⟩ := own_at3 HO.out k hlt
      simp only [Value.slice.injEq] at e
      obtain ⟨rfl, _, rfl⟩ := e
      have z0 := HK2.out.cell y0 id
      have z1 := HK2.out.cell y1 id
      have htk : S.take (k + 1) = S.take k ++ [S[k]] := List.take_succ_eq_append_getElem hlt
      have hfr := freeV_in HG.out S[k] (List.getElem_mem hlt) n
      have hbd := HG.out.b _ (List.getElem_mem hlt)
      obtain ⟨⟨p, q⟩, hpq⟩ : ∃ x, S[k] = x := ⟨_, rfl⟩
      rw [hpq] at z0 z1 htk hbd
      simp only [hpq] at hfr
      simp only at z0 z1 hbd
      have HTK := hid htk; have HFR := hid hfr
      clear y0 y1 hpq htk hfr
      by_cases h1 : p ≤ n
      · by_cases h2 : n ≤ q
        · have hv := HFR.out h1 h2
          have HV := hid hv; clear hv
          by_cases hq : q = 4294967295
          · have hqb : (q == 4294967295) = true := by simpa using hq
            go_wp2
            go_ret2
            rw [HV.out, if_pos hq]
            exact ⟨rfl, HK.out.trans (HK2.out.alloc _)⟩
          · have hqb : (q == 4294967295) = false := by simpa using hq
            have hw : IntKind.u32.wrap (q + 1) = q + 1 := by simp [IntKind.wrap, IntKind.bits, IntKind.signed]; omega
            go_wp2
            go_ret2
            rw [HV.out, if_neg hq]
            exact ⟨rfl, HK.out.trans (HK2.out.alloc _)⟩
        · go_wp2
          go_roundw
          case rel => exact ⟨k + 1, hlt, by go_num, fun x hx => by
            rw [HTK.out] at hx
            rcases List.mem_append.1 hx with hx | hx
            · exact HSK.out x hx
            · simp at hx; subst hx; exact fun h => h2 h.2, HK2.out.alloc _⟩
          case measure => simp [intOf]; omega
      · go_wp2
        go_roundw
        case rel => exact ⟨k + 1, hlt, by go_num, fun x hx => by
          rw [HTK.out] at hx
          rcases List.mem_append.1 hx with hx | hx
          · exact HSK.out x hx
          · simp at hx; subst hx; exact fun h => h1 h.1, HK2.out.alloc _⟩
        case measure => simp [intOf]; omega
    · obtain rfl : k = S.length := by omega
      have hv : freeV S n = (n, true) := freeV_out HG.out n (fun ⟨x, hx, g1, g2⟩ => HSK.out x (by rw [List.take_length]; exact hx) ⟨g1, g2⟩)
      have HV := hid hv; clear hv
      go_wp2
      go_ret2
      rw [HV.out]
      exact ⟨rfl, HK.out.trans HK2.out⟩
def chkN (a b : Int) : Int := if b < a then 1 else 6
set_option maxHeartbeats 1000000 in
theorem check_nil (a b : Int) (w : World) : Calls Try.prog 25 #[.pointer none, .int .u32 a, .int .u32 b] w fun e w' => e = .returned (.int .i64 (chkN a b)) ∧ w = w' := by
  by_cases h : b < a
  · go_enter Try.func25, Try.ntmps25
    go_wp2
    go_ret
    exact ⟨ret_int (by simp [chkN, h]), rfl⟩
  · go_enter Try.func25, Try.ntmps25
    go_wp2
    go_ret
    exact ⟨ret_int (by simp [chkN, h]), rfl⟩

set_option maxHeartbeats 1000000 in
theorem add_nil (a b : Int) (w : World) : Calls Try.prog 10 #[.pointer none, .int .u32 a, .int .u32 b] w fun e w' => e = .returned (.int .i64 (chkN a b)) ∧ w = w' := by
  have hne : (chkN a b != 0) = true := by simp [chkN]; split <;> decide
  go_enter Try.func10, Try.ntmps10
  go_wp2_with fail
  refine (check_nil a b _).mono ?_
  rintro e w1 ⟨rfl, rfl⟩
  go_wp2
  go_ret
  exact ⟨rfl, rfl⟩
set_option maxHeartbeats 1000000 in
theorem drop_nil (a b : Int) (w : World) : Calls Try.prog 11 #[.pointer none, .int .u32 a, .int .u32 b] w fun e w' => e = .returned (.int .i64 (chkN a b)) ∧ w = w' := by
  have hne : (chkN a b != 0) = true := by simp [chkN]; split <;> decide
  go_enter Try.func11, Try.ntmps11
  go_wp2_with fail
  refine (check_nil a b _).mono ?_
  rintro e w1 ⟨rfl, rfl⟩
  go_wp2
  go_ret
  exact ⟨rfl, rfl⟩
end Go.Proofs.Ytglcpiokmieppaa
