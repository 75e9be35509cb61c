/- Texts of this claim, merged: D, Reg. -/
import Derived.Deep.RegionHeld3
import Derived.Shelf.Abstract
import Derived.Test.YtpjhdpfaogdboaaPm1
import Derived.Test.YtpjhdpfaogdboaaPm2
import Derived.Test.YtpjhdpfaogdboaaPm3
import Derived.Test.YtpjhdpfaogdboaaPm4
/- slices.IndexFunc, ContainsFunc at wants and at owners; holds, rivals, waits. -/
namespace Go.Proofs.Ytpjhdpfaogdboaa
set_option linter.unusedSimpArgs false
set_option linter.unusedVariables false
open Go.RowKit
def ptrs (l : List Nat) : List Value := l.map ptr
theorem lies_ptr {F : Nat → Prop} {w : World} {a : Option Addr} {N c : Nat} {l : List Nat} (h : Lies F w 1 (.slice a N c) N (ptrs l)) {k : Nat} {x : Nat} (hx : l[k]? = some x) : k < N ∧ N ≤ c ∧ c ≤ maxLen ∧ ∃ g o, a = some ⟨g, o, none⟩ ∧ w.cell? ⟨g, o + k, none⟩ = some (ptr x) := by
  obtain ⟨a', c', e, h1, h2, h3, h4, h5, h6⟩ := h
  simp only [Value.slice.injEq] at e
  obtain ⟨rfl, _, rfl⟩ := e
  have hk := (List.getElem?_eq_some_iff.1 hx).1
  have hl : l.length = N := by simpa [ptrs] using h3
  obtain ⟨g, o, e, _, _, hc⟩ := h5 (by omega)
  exact ⟨by omega, h1, h2, g, o, e, hc k _ (by simp [ptrs, hx])⟩
theorem lies_w {F : Nat → Prop} {w : World} {a : Option Addr} {N c : Nat} {l : List Wt} (h : Lies F w 2 (.slice a N c) N (wcells l)) {k : Nat} {x : Wt} (hx : l[k]? = some x) : k < N ∧ N ≤ c ∧ c ≤ maxLen ∧ ∃ g o, a = some ⟨g, o, none⟩ ∧ w.cell? ⟨g, o + k * 2, none⟩ = some (.int .u32 x.1) ∧ w.cell? ⟨g, o + k * 2 + 1, none⟩ = some (.int .u8 x.2) := by
  obtain ⟨a', c', e, h1, h2, h3, h4, h5, h6⟩ := h
  simp only [Value.slice.injEq] at e
  obtain ⟨rfl, _, rfl⟩ := e
  have hk := (List.getElem?_eq_some_iff.1 hx).1
  have hl : l.length = N := by have := wcells_len l; omega
  obtain ⟨g, o, e, _, _, hc⟩ := h5 (by omega)
  obtain ⟨q1, q2⟩ := wcells_at l k x hx
  exact ⟨by omega, h1, h2, g, o, e, hc _ _ q1, by rw [Nat.add_assoc]; exact hc _ _ q2⟩
theorem lies_len {F : Nat → Prop} {w : World} {a : Option Addr} {N c s : Nat} {v : List Value} (h : Lies F w s (.slice a N c) N v) : N ≤ 9223372036854775807 := by
  obtain ⟨a', c', e, h1, h2, _⟩ := h
  unfold maxLen at h2
  omega
theorem any_take {α : Type} {l : List α} {k : Nat} {x : α} (h : l[k]? = some x) (p : α → Bool) : (l.take (k + 1)).any p = ((l.take k).any p || p x) := by
  have : l.take (k + 1) = l.take k ++ [x] := by rw [List.take_add_one, h]; rfl
  rw [this, List.any_append]
  simp
theorem any_hit {α : Type} {l : List α} {k : Nat} {x : α} (h : l[k]? = some x) (p : α → Bool) (hp : p x = true) : l.any p = true := List.any_eq_true.2 ⟨x, List.mem_of_getElem? h, hp⟩
set_option maxRecDepth 100000 in
set_option maxHeartbeats 2000000 in
theorem idxW {F : Nat → Prop} {w : World} {a : Option Addr} {c : Nat} {ws : List Wt} (hl : Lies F w 2 (.slice a ws.length c) ws.length (wcells ws)) (g : Nat) (lb : Array Value) (eg : ∀ args w, (callFunc g args).run Try.prog w = .ok (.enter g args) w) (p : Wt → Bool)
    (hp : ∀ W x, x ∈ ws → Kept (fun _ => False) w W → Calls Try.prog g (#[.agg #[.int .u32 x.1, .int .u8 x.2]] ++ lb) W fun e w' => e = .returned (.bool (p x)) ∧ Kept (fun _ => False) W w') :
    Calls Try.prog 66 #[.slice a ws.length c, .func (.func g) #[] lb] w fun e w' => ∃ r, e = .returned (.int .i64 r) ∧ decide (0 ≤ r) = ws.any p ∧ Kept (fun _ => False) w w' := by
  have HL := hid hl; have HP := hid hp
  have hbig := lies_len hl
  clear hl hp
  go_enter Try.func66, Try.ntmps66
  go_wp2
  go_loopw [8] (fun i wr => ∃ k : Nat, k ≤ ws.length ∧ i = .int .i64 k ∧ (ws.take k).any p = false ∧ Kept (fun _ => False) w wr) (fun i _ => ws.length - (RowKit.intOf i).toNat)
  case atStart => exact ⟨0, Nat.zero_le _, rfl, by simp, Kept.refl _ _⟩
  case round =>
    rename World => wr
    obtain ⟨k, hk, rfl, hany, hkp⟩ := hrel
    have HA := hid hany; have KR := hid hkp
    clear hany hkp
    by_cases hlt : k < ws.length
    · have hltI : (k : Int) < (ws.length : Int) := by omega
      obtain ⟨x, hx⟩ : ∃ x, ws[k]? = some x := ⟨_, List.getElem?_eq_getElem hlt⟩
      obtain ⟨_, hcap, hc1, gb, off, rfl, c0, c1⟩ := lies_w (HL.out.same KR.out) hx
      have HX := hid hx
      clear hx hc1
      cases hq : p x with
      | true =>
        have hcall := HP.out wr x (List.mem_of_getElem? HX.out) KR.out
        rw [hq] at hcall
        have HC := hid hcall
        have HY := hid (any_hit HX.out p hq)
        clear hcall hq
        go_wp2_with (go_at_fn g; refine (HC.out).mono ?_; rintro e w' ⟨rfl, hk'⟩)
        go_ret
        exact ⟨_, rfl, by rw [HY.out]; simp, KR.out.trans hk'⟩
      | false =>
        have hcall := HP.out wr x (List.mem_of_getElem? HX.out) KR.out
        rw [hq] at hcall
        have HC := hid hcall
        have HY := hid (show (ws.take (k + 1)).any p = false from by rw [any_take HX.out, HA.out, hq]; rfl)
        clear hcall hq
        go_wp2_with (go_at_fn g; refine (HC.out).mono ?_; rintro e w' ⟨rfl, hk'⟩)
        go_roundw
        case rel => exact ⟨k + 1, by omega, by go_num, HY.out, KR.out.trans hk'⟩
        case measure => (simp only [RowKit.intOf]; omega)
    · obtain rfl : k = ws.length := by omega
      have HY := hid (show ws.any p = false from by have := HA.out; rwa [List.take_of_length_le (Nat.le_refl _)] at this)
      go_wp2
      go_ret
      exact ⟨-1, rfl, by rw [HY.out]; rfl, KR.out⟩
set_option maxRecDepth 100000 in
set_option maxHeartbeats 2000000 in
theorem idxP {F : Nat → Prop} {w : World} {a : Option Addr} {c : Nat} {ws : List Nat} (hl : Lies F w 1 (.slice a ws.length c) ws.length (ptrs ws)) (g : Nat) (lb : Array Value) (eg : ∀ args w, (callFunc g args).run Try.prog w = .ok (.enter g args) w) (p : Nat → Bool)
    (hp : ∀ W x, x ∈ ws → Kept (fun _ => False) w W → Calls Try.prog g (#[ptr x] ++ lb) W fun e w' => e = .returned (.bool (p x)) ∧ Kept (fun _ => False) W w') :
    Calls Try.prog 67 #[.slice a ws.length c, .func (.func g) #[] lb] w fun e w' => ∃ r, e = .returned (.int .i64 r) ∧ decide (0 ≤ r) = ws.any p ∧ Kept (fun _ => False) w w' := by
  have HL := hid hl; have HP := hid hp
  have hbig := lies_len hl
  clear hl hp
  go_enter Try.func67, Try.ntmps67
  go_wp2
  go_loopw [8] (fun i wr => ∃ k : Nat, k ≤ ws.length ∧ i = .int .i64 k ∧ (ws.take k).any p = false ∧ Kept (fun _ => False) w wr) (fun i _ => ws.length - (RowKit.intOf i).toNat)
  case atStart => exact ⟨0, Nat.zero_le _, rfl, by simp, Kept.refl _ _⟩
  case round =>
    rename World => wr
    obtain ⟨k, hk, rfl, hany, hkp⟩ := hrel
    have HA := hid hany; have KR := hid hkp
    clear hany hkp
    by_cases hlt : k < ws.length
    · have hltI : (k : Int) < (ws.length : Int) := by omega
      obtain ⟨x, hx⟩ : ∃ x, ws[k]? = some x := ⟨_, List.getElem?_eq_getElem hlt⟩
      obtain ⟨_, hcap, hc1, gb, off, rfl, c0⟩ := lies_ptr (HL.out.same KR.out) hx
      have HX := hid hx
      clear hx hc1
      cases hq : p x with
      | true =>
        have hcall := HP.out wr x (List.mem_of_getElem? HX.out) KR.out
        rw [hq] at hcall
        have HC := hid hcall
        have HY := hid (any_hit HX.out p hq)
        clear hcall hq
        go_wp2_with (go_at_fn g; refine (HC.out).mono ?_; rintro e w' ⟨rfl, hk'⟩)
        go_ret
        exact ⟨_, rfl, by rw [HY.out]; simp, KR.out.trans hk'⟩
      | false =>
        have hcall := HP.out wr x (List.mem_of_getElem? HX.out) KR.out
        rw [hq] at hcall
        have HC := hid hcall
        have HY := hid (show (ws.take (k + 1)).any p = false from by rw [any_take HX.out, HA.out, hq]; rfl)
        clear hcall hq
        go_wp2_with (go_at_fn g; refine (HC.out).mono ?_; rintro e w' ⟨rfl, hk'⟩)
        go_roundw
        case rel => exact ⟨k + 1, by omega, by go_num, HY.out, KR.out.trans hk'⟩
        case measure => (simp only [RowKit.intOf]; omega)
    · obtain rfl : k = ws.length := by omega
      have HY := hid (show ws.any p = false from by have := HA.out; rwa [List.take_of_length_le (Nat.le_refl _)] at this)
      go_wp2
      go_ret
      exact ⟨-1, rfl, by rw [HY.out]; rfl, KR.out⟩
end Go.Proofs.Ytpjhdpfaogdboaa
/- A region that draws its order, walked by hand: the condition may be changed on the way. -/
namespace Go.Proofs.Ytpjhdpfaogdboaa
set_option linter.unusedSimpArgs false
set_option linter.unusedVariables false
open Go.RowKit

theorem wpAnyH_mono {P : Program} {md : Region.Mode} {ops : Array Oper} {Q : Exit → Act → World → Prop} {S S1 : World → Prop} (h : ∀ w, S1 w → S w) :
    ∀ (fuel : Nat) (listed : Array Bool) (a : Act) (w : World), wpAnyH P md ops Q S1 fuel listed a w → wpAnyH P md ops Q S fuel listed a w
  | 0, _, _, _, h0 => h0
  | fuel + 1, _, _, _, h0 => ⟨h0.1, fun i hi => wpOp_mono (fun a' w' h' => ⟨h w' h'.1, wpAnyH_mono h fuel _ a' w' h'.2⟩) (h0.2 i hi)⟩
/-- take number i first; its slot is written out -/
theorem wpAnyH_at {P : Program} {md : Region.Mode} {ops : Array Oper} {Q : Exit → Act → World → Prop} {S : World → Prop} {fuel : Nat} {listed : Array Bool} {a : Act} {w : World} (i : Nat) (d : Option Tmp) {v : Value} (hi : i < ops.size) (hd : ops[i].dst = d)
    (hs : Region.noSelect ops = true) (hf : Region.free md ops listed i = true) (hr : (Region.ready md ops listed).contains i = true)
    (hQ : ∀ c a w, Q (.panic c) (a.put d v) w → Q (.panic c) a w) (hy : YieldsIf P ops S ops[i] v a) (hS : S w)
    (h : wpAnyH P md ops Q S fuel (listed.setIfInBounds i true) (a.put d v) w) : wpAnyH P md ops Q S (fuel + 1) listed a w := by
  subst hd
  exact wpAnyH_take (by rw [Array.getElem?_eq_getElem hi]) hs hf hr hQ hy hS h
/-- in a region of reads: an operation whose guard says no -/
theorem still_no {P : Program} {ops : Array Oper} {w : World} {Q : Act → Prop} {a : Act} {o : Oper} {rest : List Oper} (hw : Region.wanted o (yielded ops a.tmps) = false) (h : wpStill P ops w Q rest (a.put o.dst undef)) : wpStill P ops w Q (o :: rest) a :=
  wpStill_step (fun K hK => by rw [if_neg (by rw [hw]; decide)]; exact hK _ h)
end Go.Proofs.Ytpjhdpfaogdboaa
