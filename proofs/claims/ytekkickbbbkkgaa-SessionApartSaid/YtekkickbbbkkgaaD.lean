/- Ask, Last. -/
import Derived.Test.YtekkickbbbkkgaaC
namespace Go.Proofs.Ytekkickbbbkkgaa
open Go.RowKit

def askR (x : Cl) (seq : Int) : Int × Ans × Int :=
  if farB x.last seq = true then (0, zans, 4) else if seq < x.last then (0, zans, 15) else if seq = x.last then (2, x.a, 0) else if seq = x.run then (1, zans, 0) else (0, zans, 0)
def AskPost (w : World) (r : Int × Ans × Int) (e : Ending) (w' : World) : Prop :=
  ∃ a1 c1 a2 c2, e = .returned (.tuple #[.int .i64 r.1, .agg #[.int .i64 r.2.1.e, .int .i64 r.2.1.p, .slice a1 r.2.1.vals.length c1, .slice a2 r.2.1.list.length c2], .int .i64 r.2.2]) ∧
    AnsIn (fun g => g < w.heap.size) w' (.slice a1 r.2.1.vals.length c1) (.slice a2 r.2.1.list.length c2) r.2.1 ∧ Kept (fun _ => False) w w'
theorem askPost_zero {w w' : World} {r : Int × Ans × Int} {n er : Int} {e : Ending} (hr : r = (n, zans, er)) (he : e = .returned (.tuple #[.int .i64 n, .agg #[.int .i64 0, .int .i64 0, .slice none 0 0, .slice none 0 0], .int .i64 er])) (k : Kept (fun _ => False) w w') : AskPost w r e w' := by
  subst hr
  exact ⟨none, 0, none, 0, he, AnsIn.nil _ _ _ _, k⟩

set_option maxRecDepth 100000 in
set_option maxHeartbeats 2000000 in
theorem ask_yes {F : Nat → Prop} {w : World} {tb : Nat} {f : Nat → Cl} (h : TabAt F w tb f) (c : Nat) (seq : Int) (hc : c < 4) (hs : seq ≠ 0) (s0 : 0 ≤ seq) (s1 : seq ≤ 4294967295) :
    Calls Try.prog 10 #[.pointer (some ⟨tb, 0, none⟩), .int .u8 c, .int .u32 seq] w (AskPost w (askR (f c) seq)) := by
  have H := hid (h.same ((Kept.refl _ _).alloc (.cells #[.int .i64 0, .int .i64 0, .slice none 0 0, .slice none 0 0] 28)))
  obtain ⟨v, l, k0, k1, k2, k3, k4, k5, fz, ha, l0, l1⟩ := H.out.cell hc
  obtain ⟨a1, q1, a2, q2, rfl, rfl⟩ := ha.shape
  have HA := hid ha
  have HS := hid hs
  clear h hs ha
  by_cases h1 : farB (f c).last seq = true
  · have e : askR (f c) seq = (0, zans, 4) := by simp [askR, h1]
    have E := hid e; clear e
    go_enter Try.func10, Try.ntmps10
    go_wp2_with fail
    refine (at_yes _ _ _ _ hc HS.out).mono ?_; rintro e w' ⟨rfl, rfl⟩
    go_wp2_with fail
    refine (far_any _ _ _ _ _ k0 l0 l1 s0 s1).mono ?_; rintro e w' ⟨rfl, rfl⟩
    go_wp2_with fail
    go_returns
    exact askPost_zero E.out rfl ((Kept.refl _ _).alloc _)
  · have h1' : farB (f c).last seq = false := by simpa using h1
    by_cases h2 : seq < (f c).last
    · have e : askR (f c) seq = (0, zans, 15) := by simp [askR, h1', h2]
      have E := hid e; clear e
      go_enter Try.func10, Try.ntmps10
      go_wp2_with fail
      refine (at_yes _ _ _ _ hc HS.out).mono ?_; rintro e w' ⟨rfl, rfl⟩
      go_wp2_with fail
      refine (far_any _ _ _ _ _ k0 l0 l1 s0 s1).mono ?_; rintro e w' ⟨rfl, rfl⟩
      go_wp2_with fail
      go_returns
      exact askPost_zero E.out rfl ((Kept.refl _ _).alloc _)
    · by_cases h3 : seq = (f c).last
      · have e : askR (f c) seq = (2, (f c).a, 0) := by rw [h3] at h1' ⊢; simp [askR, h1']
        have E := hid e; clear e
        have h3' : (seq == (f c).last) = true := by simp [h3]
        have H3 := hid h3; clear h3
        go_enter Try.func10, Try.ntmps10
        go_wp2_with fail
        refine (at_yes _ _ _ _ hc HS.out).mono ?_; rintro e w' ⟨rfl, rfl⟩
        go_wp2_with fail
        refine (far_any _ _ _ _ _ k0 l0 l1 s0 s1).mono ?_; rintro e w' ⟨rfl, rfl⟩
        go_wp2_with fail
        refine (copied_any (by exact HA.out)).mono ?_; rintro e w2 ⟨b1, d1, b2, d2, rfl, ha2, hk2⟩
        have HA2 := hid ha2; have HK2 := hid hk2
        have hb := (hk2.block _ (row_lt (row_new w (.cells #[.int .i64 0, .int .i64 0, .slice none 0 0, .slice none 0 0] 28))) id).trans (row_new w _)
        clear ha2 hk2
        obtain ⟨z0, z1, z2, z3, z4⟩ := cells4 hb
        obtain ⟨y0, y1, y2, y3⟩ := set4c hb (.int .i64 (f c).a.e) (.int .i64 (f c).a.p) (.slice b1 (f c).a.vals.length d1) (.slice b2 (f c).a.list.length d2)
        have HB := hid hb; clear hb
        have hk0 := HK2.out.cell k0 id
        go_wp2_with fail
        refine bodyPost_ret (v := .tuple #[.int .i64 2, .agg #[.int .i64 (f c).a.e, .int .i64 (f c).a.p, .slice b1 (f c).a.vals.length d1, .slice b2 (f c).a.list.length d2], .int .i64 0]) (by simp [results, Try.results10, go_sem, y0, y1, y2, y3]) rfl ?_
        rw [E.out]
        have K := ((((Kept.refl (fun g => g = w.heap.size) w2).setCell (p := ⟨w.heap.size, 0, none⟩) (.inl rfl) (.int .i64 (f c).a.e)).setCell (p := ⟨w.heap.size, 1, none⟩) (.inl rfl) (.int .i64 (f c).a.p)).setCell (p := ⟨w.heap.size, 2, none⟩) (.inl rfl) (.slice b1 (f c).a.vals.length d1)).setCell (p := ⟨w.heap.size, 3, none⟩) (.inl rfl) (.slice b2 (f c).a.list.length d2)
        exact ⟨b1, d1, b2, d2, rfl, (HA2.out.kept K fun g _ hg => by subst hg; simp).mono fun g _ hg => by simp; omega, (((Kept.refl _ _).alloc _).trans HK2.out).trans' K fun g hg => .inr (by omega)⟩
      · have h3' : (seq == (f c).last) = false := by simpa using h3
        by_cases h4 : seq = (f c).run
        · have e : askR (f c) seq = (1, zans, 0) := by simp [askR, h1', h2, h3, ← h4]
          have E := hid e; clear e
          have h4' : (seq == (f c).run) = true := by simp [h4]
          have H4 := hid h4; clear h4
          go_enter Try.func10, Try.ntmps10
          go_wp2_with fail
          refine (at_yes _ _ _ _ hc HS.out).mono ?_; rintro e w' ⟨rfl, rfl⟩
          go_wp2_with fail
          refine (far_any _ _ _ _ _ k0 l0 l1 s0 s1).mono ?_; rintro e w' ⟨rfl, rfl⟩
          go_wp2_with fail
          go_returns
          exact askPost_zero E.out rfl ((Kept.refl _ _).alloc _)
        · have e : askR (f c) seq = (0, zans, 0) := by simp [askR, h1', h2, h3, h4]
          have E := hid e; clear e
          have h4' : (seq == (f c).run) = false := by simpa using h4
          go_enter Try.func10, Try.ntmps10
          go_wp2_with fail
          refine (at_yes _ _ _ _ hc HS.out).mono ?_; rintro e w' ⟨rfl, rfl⟩
          go_wp2_with fail
          refine (far_any _ _ _ _ _ k0 l0 l1 s0 s1).mono ?_; rintro e w' ⟨rfl, rfl⟩
          go_wp2_with fail
          go_returns
          exact askPost_zero E.out rfl ((Kept.refl _ _).alloc _)

def AskPost' (w : World) (k : IntKind) (r : Int × Ans × Int) (e : Ending) (w' : World) : Prop :=
  ∃ a1 c1 a2 c2, e = .returned (.tuple #[.int k r.1, .agg #[.int .i64 r.2.1.e, .int .i64 r.2.1.p, .slice a1 r.2.1.vals.length c1, .slice a2 r.2.1.list.length c2], .int .i64 r.2.2]) ∧
    AnsIn (fun g => g < w.heap.size) w' (.slice a1 r.2.1.vals.length c1) (.slice a2 r.2.1.list.length c2) r.2.1 ∧ Kept (fun _ => False) w w'
set_option maxRecDepth 100000 in
set_option maxHeartbeats 2000000 in
theorem last_yes {F : Nat → Prop} {w : World} {tb : Nat} {f : Nat → Cl} (h : TabAt F w tb f) (c : Nat) (hc : c < 4) :
    Calls Try.prog 13 #[.pointer (some ⟨tb, 0, none⟩), .int .u8 c] w (AskPost' w .u32 ((f c).last, (f c).a, 0)) := by
  have H := hid (h.same ((Kept.refl _ _).alloc (.cells #[.int .i64 0, .int .i64 0, .slice none 0 0, .slice none 0 0] 28)))
  obtain ⟨v, l, k0, k1, k2, k3, k4, k5, fz, ha, l0, l1⟩ := H.out.cell hc
  obtain ⟨a1, q1, a2, q2, rfl, rfl⟩ := ha.shape
  have HA := hid ha
  have hne : ¬ tb = w.heap.size := by have := h.lt _ h.mem; omega
  clear h ha
  go_enter Try.func13, Try.ntmps13
  go_wp2_with fail
  refine (at_yes _ _ _ _ hc (by decide)).mono ?_; rintro e w' ⟨rfl, rfl⟩
  go_wp2_with fail
  have n0 := row_new w (.cells #[.int .i64 0, .int .i64 0, .slice none 0 0, .slice none 0 0] 28)
  have N0 := hid n0; clear n0
  go_region_held3 (fun w' => w'.cell? ⟨tb, c * 6, none⟩ = some (.int .u32 (f c).last) ∧ w'.cell? ⟨tb, c * 6 + 1, none⟩ = some (.int .i64 (f c).a.e) ∧ w'.cell? ⟨tb, c * 6 + 1 + 1, none⟩ = some (.int .i64 (f c).a.p) ∧ w'.cell? ⟨tb, c * 6 + 1 + 2, none⟩ = some (.slice a1 (f c).a.vals.length q1) ∧ w'.cell? ⟨tb, c * 6 + 1 + 3, none⟩ = some (.slice a2 (f c).a.list.length q2))
    (first | exact ⟨k0, k1, k2, k3, k4⟩ | exact ⟨j0, j1, j2, j3, j4⟩ | exact ⟨i0, i1, i2, i3, i4⟩)
    (first | (go_at_call 16; refine (copied_any (by exact HA.out.same (Kept.refl _ _).drew)).mono ?_; rintro e w2 ⟨b1, d1, b2, d2, rfl, ha2, hk2⟩; have HA2 := hid ha2; have HK2 := hid hk2.of_drew; have j0 := HK2.out.cell k0 id; have j1 := HK2.out.cell k1 id; have j2 := HK2.out.cell k2 id; have j3 := HK2.out.cell k3 id; have j4 := HK2.out.cell k4 id; have hb := (HK2.out.block _ (row_lt N0.out) id).trans N0.out; clear ha2 hk2; obtain ⟨z0, z1, z2, z3, z4⟩ := cells4 hb; obtain ⟨y0, y1, y2, y3⟩ := set4c hb (.int .i64 (f c).a.e) (.int .i64 (f c).a.p) (.slice b1 (f c).a.vals.length d1) (.slice b2 (f c).a.list.length d2); have K4 := hid (((((Kept.refl (fun g => g = w.heap.size) w2).setCell (p := ⟨w.heap.size, 0, none⟩) (.inl rfl) (.int .i64 (f c).a.e)).setCell (p := ⟨w.heap.size, 1, none⟩) (.inl rfl) (.int .i64 (f c).a.p)).setCell (p := ⟨w.heap.size, 2, none⟩) (.inl rfl) (.slice b1 (f c).a.vals.length d1)).setCell (p := ⟨w.heap.size, 3, none⟩) (.inl rfl) (.slice b2 (f c).a.list.length d2)); have i0 := K4.out.cell j0 hne; have i1 := K4.out.cell j1 hne; have i2 := K4.out.cell j2 hne; have i3 := K4.out.cell j3 hne; have i4 := K4.out.cell j4 hne))
  all_goals
    go_wp2_with fail
    refine bodyPost_ret (v := .tuple #[.int .u32 (f c).last, .agg #[.int .i64 (f c).a.e, .int .i64 (f c).a.p, .slice b1 (f c).a.vals.length d1, .slice b2 (f c).a.list.length d2], .int .i64 0]) (by simp [results, Try.results13, go_sem, y0, y1, y2, y3]) rfl ?_
    exact ⟨b1, d1, b2, d2, rfl, (HA2.out.kept K4.out fun g _ hg => by subst hg; simp).mono fun g _ hg => by simp; omega, (((Kept.refl _ _).alloc _).trans HK2.out).trans' K4.out fun g hg => .inr (by omega)⟩
end Go.Proofs.Ytekkickbbbkkgaa
