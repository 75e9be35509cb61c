/- The calls at whatever client; the arguments; awake. -/
import Derived.Test.YtekkickbbbkkgaaE
namespace Go.Proofs.Ytekkickbbbkkgaa
open Go.RowKit

set_option maxRecDepth 100000 in
set_option maxHeartbeats 1000000 in
theorem ask_no (tb : Nat) (c seq : Int) (w : World) (hc : 4 ≤ c ∨ seq = 0) :
    Calls Try.prog 10 #[.pointer (some ⟨tb, 0, none⟩), .int .u8 c, .int .u32 seq] w (AskPost w (0, zans, 1)) := by
  have HC := hid hc; clear hc
  go_enter Try.func10, Try.ntmps10
  go_wp2_with fail
  refine (at_no _ _ _ _ HC.out).mono ?_; rintro e w' ⟨rfl, rfl⟩
  go_wp2_with fail
  go_returns
  exact askPost_zero rfl rfl ((Kept.refl _ _).alloc _)

def good (c seq : Int) : Prop := c < 4 ∧ seq ≠ 0
instance (c seq : Int) : Decidable (good c seq) := by unfold good; infer_instance
def sAll (f : Nat → Cl) (c seq : Int) : Nat → Cl := if good c seq then upd f c.toNat (startR (f c.toNat) seq).2 else f
def fAll (f : Nat → Cl) (c seq : Int) : Nat → Cl := if good c seq then upd f c.toNat (failR (f c.toNat) seq) else f
def nAll (f : Nat → Cl) (c seq : Int) (A : Ans) : Nat → Cl := if good c seq then upd f c.toNat (finishR (f c.toNat) seq A).2 else f
def aAll (f : Nat → Cl) (c seq : Int) : Int × Ans × Int := if good c seq then askR (f c.toNat) seq else (0, zans, 1)

section
variable {F : Nat → Prop} {w : World} {tb : Nat} {f : Nat → Cl}
theorem start_all (h : TabAt F w tb f) (c seq : Int) (c0 : 0 ≤ c) (s0 : 0 ≤ seq) (s1 : seq ≤ 4294967295) :
    Calls Try.prog 7 #[.pointer (some ⟨tb, 0, none⟩), .int .u8 c, .int .u32 seq] w fun e w' => ∃ r, e = .returned (.int .i64 r) ∧ TabAt F w' tb (sAll f c seq) ∧ Kept (fun g => g = tb) w w' := by
  obtain ⟨n, rfl⟩ := Int.eq_ofNat_of_zero_le c0
  by_cases hg : good n seq
  · exact (start_yes h n seq (by have := hg.1; omega) hg.2 s0 s1).mono fun e w' ⟨h1, h2, h3⟩ => ⟨_, h1, by unfold sAll; rw [if_pos hg, Int.toNat_natCast]; exact h2, h3⟩
  · refine (start_no tb n seq w (by unfold good at hg; omega)).mono fun e w' ⟨h1, h2⟩ => ⟨_, h1, ?_, ?_⟩
    · subst h2; unfold sAll; rw [if_neg hg]; exact h
    · subst h2; exact Kept.refl _ _
theorem fail_all (h : TabAt F w tb f) (c seq : Int) (c0 : 0 ≤ c) :
    Calls Try.prog 11 #[.pointer (some ⟨tb, 0, none⟩), .int .u8 c, .int .u32 seq] w fun e w' => ∃ r, e = .returned (.int .i64 r) ∧ TabAt F w' tb (fAll f c seq) ∧ Kept (fun g => g = tb) w w' := by
  obtain ⟨n, rfl⟩ := Int.eq_ofNat_of_zero_le c0
  by_cases hg : good n seq
  · exact (fail_yes h n seq (by have := hg.1; omega) hg.2).mono fun e w' ⟨h1, h2, h3⟩ => ⟨_, h1, by unfold fAll; rw [if_pos hg, Int.toNat_natCast]; exact h2, h3⟩
  · refine (fail_no tb n seq w (by unfold good at hg; omega)).mono fun e w' ⟨h1, h2⟩ => ⟨_, h1, ?_, ?_⟩
    · subst h2; unfold fAll; rw [if_neg hg]; exact h
    · subst h2; exact Kept.refl _ _
theorem finish_all (h : TabAt F w tb f) (c seq : Int) (c0 : 0 ≤ c) (s0 : 0 ≤ seq) (s1 : seq ≤ 4294967295) {G : Nat → Prop} {v l : Value} {A : Ans} (ha : AnsIn G w v l A) :
    Calls Try.prog 8 #[.pointer (some ⟨tb, 0, none⟩), .int .u8 c, .int .u32 seq, .agg #[.int .i64 A.e, .int .i64 A.p, v, l]] w fun e w' => ∃ r, e = .returned (.int .i64 r) ∧ TabAt F w' tb (nAll f c seq A) ∧ Kept (fun g => g = tb) w w' := by
  obtain ⟨n, rfl⟩ := Int.eq_ofNat_of_zero_le c0
  by_cases hg : good n seq
  · exact (finish_yes h n seq (by have := hg.1; omega) hg.2 s0 s1 ha).mono fun e w' ⟨h1, h2, h3⟩ => ⟨_, h1, by unfold nAll; rw [if_pos hg, Int.toNat_natCast]; exact h2, h3⟩
  · refine (finish_no tb n seq A.e A.p v l w (by unfold good at hg; omega)).mono fun e w' ⟨h1, h2⟩ => ⟨_, h1, ?_, ?_⟩
    · unfold nAll; rw [if_neg hg]; exact h.same h2
    · exact h2.mono fun _ _ h => h.elim
theorem ask_all (h : TabAt F w tb f) (c seq : Int) (c0 : 0 ≤ c) (s0 : 0 ≤ seq) (s1 : seq ≤ 4294967295) :
    Calls Try.prog 10 #[.pointer (some ⟨tb, 0, none⟩), .int .u8 c, .int .u32 seq] w (AskPost w (aAll f c seq)) := by
  obtain ⟨n, rfl⟩ := Int.eq_ofNat_of_zero_le c0
  by_cases hg : good n seq
  · have := ask_yes h n seq (by have := hg.1; omega) hg.2 s0 s1
    unfold aAll; rw [if_pos hg, Int.toNat_natCast]; exact this
  · have := ask_no tb n seq w (by unfold good at hg; omega)
    unfold aAll; rw [if_neg hg]; exact this
end

theorem start_is {F : Nat → Prop} {w : World} {tb : Nat} {f : Nat → Cl} (h : TabAt F w tb f) (c : Nat) (seq r : Int) (x : Cl) (hr : startR (f c) seq = (r, x)) (hc : c < 4) (hs : seq ≠ 0) (s0 : 0 ≤ seq) (s1 : seq ≤ 4294967295) :
    Calls Try.prog 7 #[.pointer (some ⟨tb, 0, none⟩), .int .u8 c, .int .u32 seq] w fun e w' => e = .returned (.int .i64 r) ∧ TabAt F w' tb (upd f c x) ∧ Kept (fun g => g = tb) w w' := by
  have := start_yes h c seq hc hs s0 s1
  rw [hr] at this
  exact this
theorem finish_is {F : Nat → Prop} {w : World} {tb : Nat} {f : Nat → Cl} (h : TabAt F w tb f) (c : Nat) (seq r : Int) (x : Cl) {G : Nat → Prop} {v l : Value} {A : Ans} (ha : AnsIn G w v l A) (hr : finishR (f c) seq A = (r, x)) (hc : c < 4) (hs : seq ≠ 0) (s0 : 0 ≤ seq) (s1 : seq ≤ 4294967295) :
    Calls Try.prog 8 #[.pointer (some ⟨tb, 0, none⟩), .int .u8 c, .int .u32 seq, .agg #[.int .i64 A.e, .int .i64 A.p, v, l]] w fun e w' => e = .returned (.int .i64 r) ∧ TabAt F w' tb (upd f c x) ∧ Kept (fun g => g = tb) w w' := by
  have := finish_yes h c seq hc hs s0 s1 ha
  rw [hr] at this
  exact this
theorem ask_is {F : Nat → Prop} {w : World} {tb : Nat} {f : Nat → Cl} (h : TabAt F w tb f) (c : Nat) (seq n er : Int) (A : Ans) (hr : askR (f c) seq = (n, A, er)) (hc : c < 4) (hs : seq ≠ 0) (s0 : 0 ≤ seq) (s1 : seq ≤ 4294967295) :
    Calls Try.prog 10 #[.pointer (some ⟨tb, 0, none⟩), .int .u8 c, .int .u32 seq] w fun e w' => ∃ a1 c1 a2 c2, e = .returned (.tuple #[.int .i64 n, .agg #[.int .i64 A.e, .int .i64 A.p, .slice a1 A.vals.length c1, .slice a2 A.list.length c2], .int .i64 er]) ∧
    AnsIn (fun g => g < w.heap.size) w' (.slice a1 A.vals.length c1) (.slice a2 A.list.length c2) A ∧ Kept (fun _ => False) w w' := by
  have := ask_yes h c seq hc hs s0 s1
  rw [hr] at this
  exact this

def cl1 : Cl := ⟨0, 1, zans⟩
def cl2 : Cl := ⟨1, 0, ⟨0, 5, [], []⟩⟩
set_option maxRecDepth 100000 in
set_option maxHeartbeats 2000000 in
theorem awake_any (w : World) : Calls Try.prog 5 #[] w fun e w' => e = .returned (.bool true) ∧ Kept (fun _ => False) w w' := by
  go_enter Try.func5, Try.ntmps5
  go_wp2_with fail
  refine (new_any _).mono ?_; rintro e w1 ⟨rfl, ht1, hk1, hz1⟩
  have T1 := hid ht1; have K1 := hid hk1; clear ht1 hk1 hz1
  go_wp2_with fail
  refine (start_is T1.out 0 1 0 cl1 (by rfl) (by decide) (by decide) (by decide) (by decide)).mono ?_; rintro e w2 ⟨rfl, ht2, hk2⟩
  have T2 := hid ht2; have K2 := hid (K1.out.trans' hk2 (fun g hg => .inr (by omega))); clear ht2 hk2
  go_wp2_with fail
  refine (start_is T2.out 0 2 14 cl1 (by rfl) (by decide) (by decide) (by decide) (by decide)).mono ?_; rintro e w3 ⟨rfl, ht3, hk3⟩
  have T3 := hid ht3; have K3 := hid (K2.out.trans' hk3 (fun g hg => .inr (by omega))); clear ht3 hk3
  go_wp2_with fail
  refine (ask_is T3.out 0 1 1 0 zans (by rfl) (by decide) (by decide) (by decide) (by decide)).mono ?_; rintro e w4 ⟨a1, c1, a2, c2, rfl, _, hk4⟩
  have K4 := hid (K3.out.trans hk4); have T4 := hid (T3.out.same hk4); clear hk4
  go_wp2_with fail
  refine (finish_is (A := ⟨0, 5, [], []⟩) (T4.out.same ((Kept.refl _ _).alloc _)) 0 1 0 cl2 (AnsIn.nil (fun _ => False) _ _ _) (by rfl) (by decide) (by decide) (by decide) (by decide)).mono ?_; rintro e w5 ⟨rfl, ht5, hk5⟩
  have K5 := hid ((K4.out.alloc _).trans' hk5 (fun g hg => .inr (by omega))); have T5 := hid ht5; clear hk5 ht5
  go_wp2_with fail
  refine (ask_is T5.out 0 1 2 0 ⟨0, 5, [], []⟩ (by rfl) (by decide) (by decide) (by decide) (by decide)).mono ?_; rintro e w6 ⟨a3, c3, a4, c4, rfl, _, hk6⟩
  have K6 := hid (K5.out.trans hk6); clear hk6
  go_wp2
  go_ret
  exact ⟨rfl, K6.out.alloc _⟩
end Go.Proofs.Ytekkickbbbkkgaa
