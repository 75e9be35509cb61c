/- Start, Fail, Finish, Ask, Last. -/
import Derived.Test.YtekkickbbbkkgaaB
namespace Go.Proofs.Ytekkickbbbkkgaa
open Go.RowKit

def startR (x : Cl) (seq : Int) : Int × Cl :=
  if farB x.last seq = true then (4, x) else if seq ≤ x.last then (9, x) else if x.run ≠ 0 then (14, x) else (0, { x with run := seq })

set_option maxRecDepth 100000 in
set_option maxHeartbeats 1000000 in
theorem start_yes {F : Nat → Prop} {w : World} {tb : Nat} {f : Nat → Cl} (h : TabAt F w tb f) (c : Nat) (seq : Int) (hc : c < 4) (hs : seq ≠ 0) (s0 : 0 ≤ seq) (s1 : seq ≤ 4294967295) :
    Calls Try.prog 7 #[.pointer (some ⟨tb, 0, none⟩), .int .u8 c, .int .u32 seq] w fun e w' => e = .returned (.int .i64 (startR (f c) seq).1) ∧ TabAt F w' tb (upd f c (startR (f c) seq).2) ∧ Kept (fun g => g = tb) w w' := by
  obtain ⟨v, l, k0, k1, k2, k3, k4, k5, fz, ha, l0, l1⟩ := h.cell hc
  have H := hid h
  have HS := hid hs
  clear h hs ha k1 k2 k3 k4
  by_cases h1 : farB (f c).last seq = true
  · go_enter Try.func7, Try.ntmps7
    go_wp2_with fail
    refine (at_yes _ _ _ _ hc HS.out).mono ?_; rintro e w' ⟨rfl, rfl⟩
    go_wp2_with fail
    refine (far_any _ _ _ _ _ k0 l0 l1 s0 s1).mono ?_; rintro e w' ⟨rfl, rfl⟩
    go_wp2
    go_ret
    have e : startR (f c) seq = (4, f c) := by simp [startR, h1]
    rw [e]
    exact ⟨rfl, by rw [upd_same]; exact H.out, Kept.refl _ _⟩
  · have h1' : farB (f c).last seq = false := by simpa using h1
    by_cases h2 : seq ≤ (f c).last
    · go_enter Try.func7, Try.ntmps7
      go_wp2_with fail
      refine (at_yes _ _ _ _ hc HS.out).mono ?_; rintro e w' ⟨rfl, rfl⟩
      go_wp2_with fail
      refine (far_any _ _ _ _ _ k0 l0 l1 s0 s1).mono ?_; rintro e w' ⟨rfl, rfl⟩
      go_wp2
      go_ret
      have e : startR (f c) seq = (9, f c) := by simp [startR, h1', h2]
      rw [e]
      exact ⟨rfl, by rw [upd_same]; exact H.out, Kept.refl _ _⟩
    · by_cases h3 : (f c).run = 0
      · have e : startR (f c) seq = (0, { f c with run := seq }) := by simp [startR, h1', h2, h3]
        have E := hid e; clear e
        have h3' : ((f c).run != 0) = false := by simp [h3]
        have H3 := hid h3; clear h3
        go_enter Try.func7, Try.ntmps7
        go_wp2_with fail
        refine (at_yes _ _ _ _ hc HS.out).mono ?_; rintro e w' ⟨rfl, rfl⟩
        go_wp2_with fail
        refine (far_any _ _ _ _ _ k0 l0 l1 s0 s1).mono ?_; rintro e w' ⟨rfl, rfl⟩
        go_wp2
        go_ret
        rw [E.out]
        exact ⟨rfl, H.out.setRun hc seq, (Kept.refl (fun g => g = tb) _).setCell (p := ⟨tb, c * 6 + 5, none⟩) (.inl rfl) _⟩
      · have h3' : ((f c).run != 0) = true := by simpa using h3
        go_enter Try.func7, Try.ntmps7
        go_wp2_with fail
        refine (at_yes _ _ _ _ hc HS.out).mono ?_; rintro e w' ⟨rfl, rfl⟩
        go_wp2_with fail
        refine (far_any _ _ _ _ _ k0 l0 l1 s0 s1).mono ?_; rintro e w' ⟨rfl, rfl⟩
        go_wp2
        go_ret
        have e : startR (f c) seq = (14, f c) := by simp [startR, h1', h2, h3]
        rw [e]
        exact ⟨rfl, by rw [upd_same]; exact H.out, Kept.refl _ _⟩
set_option maxRecDepth 100000 in
set_option maxHeartbeats 1000000 in
theorem start_no (tb : Nat) (c seq : Int) (w : World) (hc : 4 ≤ c ∨ seq = 0) :
    Calls Try.prog 7 #[.pointer (some ⟨tb, 0, none⟩), .int .u8 c, .int .u32 seq] w fun e w' => e = .returned (.int .i64 1) ∧ w = w' := by
  have HC := hid hc; clear hc
  go_enter Try.func7, Try.ntmps7
  go_wp2_with fail
  refine (at_no _ _ _ _ HC.out).mono ?_; rintro e w' ⟨rfl, rfl⟩
  go_wp2
  go_ret
  exact ⟨rfl, rfl⟩

def failR (x : Cl) (seq : Int) : Cl := if x.run = seq then { x with run := 0 } else x
set_option maxRecDepth 100000 in
set_option maxHeartbeats 1000000 in
theorem fail_yes {F : Nat → Prop} {w : World} {tb : Nat} {f : Nat → Cl} (h : TabAt F w tb f) (c : Nat) (seq : Int) (hc : c < 4) (hs : seq ≠ 0) :
    Calls Try.prog 11 #[.pointer (some ⟨tb, 0, none⟩), .int .u8 c, .int .u32 seq] w fun e w' => e = .returned (.int .i64 0) ∧ TabAt F w' tb (upd f c (failR (f c) seq)) ∧ Kept (fun g => g = tb) w w' := by
  obtain ⟨v, l, k0, k1, k2, k3, k4, k5, fz, ha, l0, l1⟩ := h.cell hc
  have H := hid h
  have HS := hid hs
  clear h hs ha k0 k1 k2 k3 k4
  by_cases h1 : (f c).run = seq
  · have h1' : ((f c).run == seq) = true := by simp [h1]
    have H1 := hid h1; clear h1
    go_enter Try.func11, Try.ntmps11
    go_wp2_with fail
    refine (at_yes _ _ _ _ hc HS.out).mono ?_; rintro e w' ⟨rfl, rfl⟩
    go_wp2
    go_ret
    have e : failR (f c) seq = { f c with run := 0 } := by simp [failR, H1.out]
    rw [e]
    exact ⟨rfl, H.out.setRun hc 0, (Kept.refl (fun g => g = tb) _).setCell (p := ⟨tb, c * 6 + 5, none⟩) (.inl rfl) _⟩
  · have h1' : ((f c).run == seq) = false := by simp [h1]
    have H1 := hid h1; clear h1
    go_enter Try.func11, Try.ntmps11
    go_wp2_with fail
    refine (at_yes _ _ _ _ hc HS.out).mono ?_; rintro e w' ⟨rfl, rfl⟩
    go_wp2
    go_ret
    have e : failR (f c) seq = f c := by simp [failR, H1.out]
    rw [e]
    exact ⟨rfl, by rw [upd_same]; exact H.out, Kept.refl _ _⟩
set_option maxRecDepth 100000 in
set_option maxHeartbeats 1000000 in
theorem fail_no (tb : Nat) (c seq : Int) (w : World) (hc : 4 ≤ c ∨ seq = 0) :
    Calls Try.prog 11 #[.pointer (some ⟨tb, 0, none⟩), .int .u8 c, .int .u32 seq] w fun e w' => e = .returned (.int .i64 1) ∧ w = w' := by
  have HC := hid hc; clear hc
  go_enter Try.func11, Try.ntmps11
  go_wp2_with fail
  refine (at_no _ _ _ _ HC.out).mono ?_; rintro e w' ⟨rfl, rfl⟩
  go_wp2
  go_ret
  exact ⟨rfl, rfl⟩
set_option maxRecDepth 100000 in
set_option maxHeartbeats 1000000 in
theorem finish_no (tb : Nat) (c seq : Int) (e p : Int) (v l : Value) (w : World) (hc : 4 ≤ c ∨ seq = 0) :
    Calls Try.prog 8 #[.pointer (some ⟨tb, 0, none⟩), .int .u8 c, .int .u32 seq, .agg #[.int .i64 e, .int .i64 p, v, l]] w fun e w' => e = .returned (.int .i64 1) ∧ Kept (fun _ => False) w w' := by
  have HC := hid hc; clear hc
  go_enter Try.func8, Try.ntmps8
  go_wp2_with fail
  refine (at_no _ _ _ _ HC.out).mono ?_; rintro e w' ⟨rfl, rfl⟩
  go_wp2
  go_ret
  exact ⟨rfl, (Kept.refl _ _).alloc _⟩

theorem keptT {tb : Nat} {w0 w' : World} {o : Nat} {u : Value} (k : Kept (fun g => g = tb) w0 w') : Kept (fun g => g = tb) w0 (w'.setCell ⟨tb, o, none⟩ u) := k.setCell (p := ⟨tb, o, none⟩) (.inl rfl) u
theorem TabAt.put' {F : Nat → Prop} {w : World} {tb : Nat} {f : Nat → Cl} {y : Cl} {c k : Nat} (h : TabAt F w tb (upd f c y)) (hc : c < 4) (hk : k < 6) (u : Value) (x : Cl)
    (hx : ∀ cs v l, cs.size = 24 → ClIn F w cs c y v l → ∃ v' l', ClIn F w (cs.setIfInBounds (c * 6 + k) u) c x v' l') : TabAt F (w.setCell ⟨tb, c * 6 + k, none⟩ u) tb (upd f c x) := by
  have := h.put hc hk u x (fun cs v l hz q => hx cs v l hz (by rw [upd_at] at q; exact q))
  rwa [upd_upd] at this
theorem TabAt.setAll {F : Nat → Prop} {w : World} {tb : Nat} {f : Nat → Cl} (h : TabAt F w tb f) {c : Nat} (hc : c < 4) (seq : Int) (hs0 : 0 ≤ seq) (hs1 : seq ≤ 4294967295) (A : Ans) (v l : Value) (ha : AnsIn F w v l A) :
    TabAt F (((((w.setCell ⟨tb, c * 6, none⟩ (.int .u32 seq)).setCell ⟨tb, c * 6 + 1, none⟩ (.int .i64 A.e)).setCell ⟨tb, c * 6 + 1 + 1, none⟩ (.int .i64 A.p)).setCell ⟨tb, c * 6 + 1 + 2, none⟩ v).setCell ⟨tb, c * 6 + 1 + 3, none⟩ l) tb (upd f c ⟨seq, (f c).run, A⟩) := by
  have h0 : TabAt F w tb (upd f c (f c)) := by rw [upd_same]; exact h
  have K : ∀ o u, Kept F w (w.setCell ⟨tb, o, none⟩ u) := fun o u => (Kept.refl F w).setCell (.inl h.mem) u
  have h1 := h0.put' (k := 0) hc (by decide) (.int .u32 seq) { f c with last := seq } (fun cs v l hz q => ⟨v, l, by constructor <;> first | exact q.r0 | exact q.r1 | exact hs0 | exact hs1 | exact q.a | exact hA | (rw [Array.getElem?_setIfInBounds_ne (by omega)]; first | exact q.c0 | exact q.c1 | exact q.c2 | exact q.c3 | exact q.c4 | exact q.c5) | (rw [Array.getElem?_setIfInBounds]; simp; omega)⟩)
  have h2 := h1.put' (k := 1) hc (by decide) (.int .i64 A.e) { last := seq, run := (f c).run, a := { (f c).a with e := A.e } } (fun cs v l hz q => ⟨v, l, by have hA : AnsIn F (w.setCell ⟨tb, c * 6 + 0, none⟩ (.int .u32 seq)) v l { (f c).a with e := A.e } := ⟨q.a.v, q.a.l, q.a.vb, q.a.lb⟩; constructor <;> first | exact q.r0 | exact q.r1 | exact hs0 | exact hs1 | exact q.a | exact hA | (rw [Array.getElem?_setIfInBounds_ne (by omega)]; first | exact q.c0 | exact q.c1 | exact q.c2 | exact q.c3 | exact q.c4 | exact q.c5) | (rw [Array.getElem?_setIfInBounds]; simp; omega)⟩)
  have h3 := h2.put' (k := 2) hc (by decide) (.int .i64 A.p) { last := seq, run := (f c).run, a := { (f c).a with e := A.e, p := A.p } } (fun cs v l hz q => ⟨v, l, by have hA : AnsIn F ((w.setCell ⟨tb, c * 6 + 0, none⟩ (.int .u32 seq)).setCell ⟨tb, c * 6 + 1, none⟩ (.int .i64 A.e)) v l { (f c).a with e := A.e, p := A.p } := ⟨q.a.v, q.a.l, q.a.vb, q.a.lb⟩; constructor <;> first | exact q.r0 | exact q.r1 | exact hs0 | exact hs1 | exact q.a | exact hA | (rw [Array.getElem?_setIfInBounds_ne (by omega)]; first | exact q.c0 | exact q.c1 | exact q.c2 | exact q.c3 | exact q.c4 | exact q.c5) | (rw [Array.getElem?_setIfInBounds]; simp; omega)⟩)
  have a3 := ((ha.kept (K (c * 6 + 0) (.int .u32 seq)) fun _ _ h => h).kept ((Kept.refl F _).setCell (p := ⟨tb, c * 6 + 1, none⟩) (.inl h.mem) (.int .i64 A.e)) fun _ _ h => h).kept ((Kept.refl F _).setCell (p := ⟨tb, c * 6 + 2, none⟩) (.inl h.mem) (.int .i64 A.p)) fun _ _ h => h
  have h4 := h3.put' (k := 3) hc (by decide) v { last := seq, run := (f c).run, a := { (f c).a with e := A.e, p := A.p, vals := A.vals } } (fun cs v2 l hz q => ⟨v, l, by have hA : AnsIn F (((w.setCell ⟨tb, c * 6 + 0, none⟩ (.int .u32 seq)).setCell ⟨tb, c * 6 + 1, none⟩ (.int .i64 A.e)).setCell ⟨tb, c * 6 + 2, none⟩ (.int .i64 A.p)) v l { (f c).a with e := A.e, p := A.p, vals := A.vals } := ⟨a3.v, q.a.l, a3.vb, q.a.lb⟩; constructor <;> first | exact q.r0 | exact q.r1 | exact hs0 | exact hs1 | exact q.a | exact hA | (rw [Array.getElem?_setIfInBounds_ne (by omega)]; first | exact q.c0 | exact q.c1 | exact q.c2 | exact q.c3 | exact q.c4 | exact q.c5) | (rw [Array.getElem?_setIfInBounds]; simp; omega)⟩)
  have a4 := a3.kept ((Kept.refl F _).setCell (p := ⟨tb, c * 6 + 3, none⟩) (.inl h.mem) v) fun _ _ h => h
  have h5 := h4.put' (k := 4) hc (by decide) l ⟨seq, (f c).run, A⟩ (fun cs v2 l2 hz q => ⟨v2, l, by have hA : AnsIn F ((((w.setCell ⟨tb, c * 6 + 0, none⟩ (.int .u32 seq)).setCell ⟨tb, c * 6 + 1, none⟩ (.int .i64 A.e)).setCell ⟨tb, c * 6 + 2, none⟩ (.int .i64 A.p)).setCell ⟨tb, c * 6 + 3, none⟩ v) v2 l A := ⟨q.a.v, a4.l, q.a.vb, a4.lb⟩; constructor <;> first | exact q.r0 | exact q.r1 | exact hs0 | exact hs1 | exact q.a | exact hA | (rw [Array.getElem?_setIfInBounds_ne (by omega)]; first | exact q.c0 | exact q.c1 | exact q.c2 | exact q.c3 | exact q.c4 | exact q.c5) | (rw [Array.getElem?_setIfInBounds]; simp; omega)⟩)
  exact h5

def finishR (x : Cl) (seq : Int) (A : Ans) : Int × Cl := if seq ≤ x.last then (9, x) else (0, ⟨seq, if x.run ≤ seq then 0 else x.run, A⟩)
set_option maxRecDepth 100000 in
set_option maxHeartbeats 2000000 in
theorem finish_yes {F : Nat → Prop} {w : World} {tb : Nat} {f : Nat → Cl} (h : TabAt F w tb f) (c : Nat) (seq : Int) (hc : c < 4) (hs : seq ≠ 0) (s0 : 0 ≤ seq) (s1 : seq ≤ 4294967295) {G : Nat → Prop} {v l : Value} {A : Ans} (ha : AnsIn G w v l A) :
    Calls Try.prog 8 #[.pointer (some ⟨tb, 0, none⟩), .int .u8 c, .int .u32 seq, .agg #[.int .i64 A.e, .int .i64 A.p, v, l]] w fun e w' => e = .returned (.int .i64 (finishR (f c) seq A).1) ∧ TabAt F w' tb (upd f c (finishR (f c) seq A).2) ∧ Kept (fun g => g = tb) w w' := by
  obtain ⟨a1, q1, a2, q2, rfl, rfl⟩ := ha.shape
  have HA := hid ha
  have H := hid h
  have HS := hid hs
  clear h hs ha
  by_cases h1 : seq ≤ (f c).last
  · obtain ⟨v, l, k0, k1, k2, k3, k4, k5, fz, ha, l0, l1⟩ := (H.out.same ((Kept.refl _ _).alloc (.cells #[.int .i64 A.e, .int .i64 A.p, .slice a1 A.vals.length q1, .slice a2 A.list.length q2] 28))).cell hc
    clear k1 k2 k3 k4 ha
    go_enter Try.func8, Try.ntmps8
    go_wp2_with fail
    refine (at_yes _ _ _ _ hc HS.out).mono ?_; rintro e w' ⟨rfl, rfl⟩
    go_wp2
    go_ret
    have e : finishR (f c) seq A = (9, f c) := by simp [finishR, h1]
    rw [e]
    exact ⟨rfl, by rw [upd_same]; exact H.out.same ((Kept.refl _ _).alloc _), (Kept.refl _ _).alloc _⟩
  · obtain ⟨v, l, k0, k1, k2, k3, k4, k5, fz, ha, l0, l1⟩ := (H.out.same ((Kept.refl _ _).alloc (.cells #[.int .i64 A.e, .int .i64 A.p, .slice a1 A.vals.length q1, .slice a2 A.list.length q2] 28))).cell hc
    clear k1 k2 k3 k4 ha
    go_enter Try.func8, Try.ntmps8
    go_wp2_with fail
    refine (at_yes _ _ _ _ hc HS.out).mono ?_; rintro e w' ⟨rfl, rfl⟩
    go_wp2_with fail
    refine (copied_any (by exact HA.out.same ((Kept.refl _ _).alloc _))).mono ?_; rintro e w2 ⟨b1, d1, b2, d2, rfl, ha2, hk2⟩
    have HA2 := hid ha2; have HK2 := hid hk2
    have H2 := hid ((H.out.same ((Kept.refl _ _).alloc _)).same hk2)
    clear ha2 hk2 k0 k5 fz l0 l1
    obtain ⟨v, l, k0, k1, k2, k3, k4, k5, fz, ha, l0, l1⟩ := H2.out.cell hc
    clear ha
    have HAF := hid (HA2.out.mono (G := F) fun g _ hg => H.out.same ((Kept.refl _ _).alloc (.cells #[.int .i64 A.e, .int .i64 A.p, .slice a1 A.vals.length q1, .slice a2 A.list.length q2] 28)) |>.lt g hg)
    have HK := hid (((Kept.refl (fun g => g = tb) w).alloc (.cells #[.int .i64 A.e, .int .i64 A.p, .slice a1 A.vals.length q1, .slice a2 A.list.length q2] 28)).trans (HK2.out.mono (fun _ _ h => h.elim)))
    have e : finishR (f c) seq A = (0, ⟨seq, if (f c).run ≤ seq then 0 else (f c).run, A⟩) := by simp [finishR, h1]
    have E := hid e; clear e
    by_cases h3 : (f c).run ≤ seq
    · go_wp2_with fail
      go_ret
      rw [E.out, if_pos h3]
      have := (H2.out.setAll hc seq s0 s1 A _ _ HAF.out).setRun hc 0
      rw [upd_at, upd_upd] at this
      exact ⟨rfl, this, keptT (keptT (keptT (keptT (keptT (keptT HK.out)))))⟩
    · go_wp2_with fail
      go_ret
      rw [E.out, if_neg (by omega)]
      exact ⟨rfl, H2.out.setAll hc seq s0 s1 A _ _ HAF.out, keptT (keptT (keptT (keptT (keptT HK.out))))⟩
end Go.Proofs.Ytekkickbbbkkgaa
