/- cmp.Compare, cmp.Or of four; elder: the order of two owners. -/
import Derived.Test.YtpjhdpfaogdboaaA
import Derived.Test.YtpjhdpfaogdboaaOwn
import Derived.Deep.RegionHeld3
import Derived.Sort.Grow
namespace Go.Proofs.Ytpjhdpfaogdboaa
set_option linter.unusedSimpArgs false
set_option linter.unusedVariables false
open Go.RowKit
def cmpI (x y : Int) : Int := if x < y then -1 else if y < x then 1 else 0
set_option maxHeartbeats 400000 in
theorem nanu8 (x : Int) (w : World) : Calls Try.prog 64 #[.int .u8 x] w fun e w' => e = .returned (.bool false) ∧ w = w' := by
  go_enter Try.func64, Try.ntmps64
  go_wp2
  go_ret
  exact ⟨ret_bool (by simp), rfl⟩
set_option maxHeartbeats 400000 in
theorem compareu8 (x y : Int) (w : World) : Calls Try.prog 45 #[.int .u8 x, .int .u8 y] w fun e w' => e = .returned (.int .i64 (cmpI x y)) ∧ w = w' := by
  go_enter Try.func45, Try.ntmps45
  go_wp2_with fail
  refine (nanu8 _ _).mono ?_; rintro e w' ⟨rfl, rfl⟩
  go_wp2_with fail
  refine (nanu8 _ _).mono ?_; rintro e w' ⟨rfl, rfl⟩
  rcases Int.lt_trichotomy x y with h | h | h
  · have hc : cmpI x y = -1 := by simp [cmpI, h]
    go_wp2
    go_ret
    exact ⟨ret_int hc.symm, rfl⟩
  · have hc : cmpI x y = 0 := by simp [cmpI, h]
    have h1 : ¬ x < y := by omega
    have h2 : ¬ y < x := by omega
    clear h
    go_wp2
    go_ret
    exact ⟨ret_int hc.symm, rfl⟩
  · have hc : cmpI x y = 1 := by simp [cmpI, h]; omega
    have h1 : ¬ x < y := by omega
    go_wp2
    go_ret
    exact ⟨ret_int hc.symm, rfl⟩
set_option maxHeartbeats 400000 in
theorem nanu32 (x : Int) (w : World) : Calls Try.prog 65 #[.int .u32 x] w fun e w' => e = .returned (.bool false) ∧ w = w' := by
  go_enter Try.func65, Try.ntmps65
  go_wp2
  go_ret
  exact ⟨ret_bool (by simp), rfl⟩
set_option maxHeartbeats 400000 in
theorem compareu32 (x y : Int) (w : World) : Calls Try.prog 46 #[.int .u32 x, .int .u32 y] w fun e w' => e = .returned (.int .i64 (cmpI x y)) ∧ w = w' := by
  go_enter Try.func46, Try.ntmps46
  go_wp2_with fail
  refine (nanu32 _ _).mono ?_; rintro e w' ⟨rfl, rfl⟩
  go_wp2_with fail
  refine (nanu32 _ _).mono ?_; rintro e w' ⟨rfl, rfl⟩
  rcases Int.lt_trichotomy x y with h | h | h
  · have hc : cmpI x y = -1 := by simp [cmpI, h]
    go_wp2
    go_ret
    exact ⟨ret_int hc.symm, rfl⟩
  · have hc : cmpI x y = 0 := by simp [cmpI, h]
    have h1 : ¬ x < y := by omega
    have h2 : ¬ y < x := by omega
    clear h
    go_wp2
    go_ret
    exact ⟨ret_int hc.symm, rfl⟩
  · have hc : cmpI x y = 1 := by simp [cmpI, h]; omega
    have h1 : ¬ x < y := by omega
    go_wp2
    go_ret
    exact ⟨ret_int hc.symm, rfl⟩
set_option maxHeartbeats 400000 in
theorem nanu64 (x : Int) (w : World) : Calls Try.prog 63 #[.int .u64 x] w fun e w' => e = .returned (.bool false) ∧ w = w' := by
  go_enter Try.func63, Try.ntmps63
  go_wp2
  go_ret
  exact ⟨ret_bool (by simp), rfl⟩
set_option maxHeartbeats 400000 in
theorem compareu64 (x y : Int) (w : World) : Calls Try.prog 44 #[.int .u64 x, .int .u64 y] w fun e w' => e = .returned (.int .i64 (cmpI x y)) ∧ w = w' := by
  go_enter Try.func44, Try.ntmps44
  go_wp2_with fail
  refine (nanu64 _ _).mono ?_; rintro e w' ⟨rfl, rfl⟩
  go_wp2_with fail
  refine (nanu64 _ _).mono ?_; rintro e w' ⟨rfl, rfl⟩
  rcases Int.lt_trichotomy x y with h | h | h
  · have hc : cmpI x y = -1 := by simp [cmpI, h]
    go_wp2
    go_ret
    exact ⟨ret_int hc.symm, rfl⟩
  · have hc : cmpI x y = 0 := by simp [cmpI, h]
    have h1 : ¬ x < y := by omega
    have h2 : ¬ y < x := by omega
    clear h
    go_wp2
    go_ret
    exact ⟨ret_int hc.symm, rfl⟩
  · have hc : cmpI x y = 1 := by simp [cmpI, h]; omega
    have h1 : ¬ x < y := by omega
    go_wp2
    go_ret
    exact ⟨ret_int hc.symm, rfl⟩
def orI (a b c d : Int) : Int := if a ≠ 0 then a else if b ≠ 0 then b else if c ≠ 0 then c else d
def nth3 (a b c d : Int) (k : Nat) : Int := if k = 0 then a else if k = 1 then b else if k = 2 then c else d
set_option maxRecDepth 100000 in
set_option maxHeartbeats 1000000 in
theorem or_any {w : World} {lb : Nat} {a b c d : Int} (h : w.heap[lb]? = some (.cells #[.int .i64 a, .int .i64 b, .int .i64 c, .int .i64 d] 3 (0, 0))) :
    Calls Try.prog 43 #[.slice (some ⟨lb, 0, none⟩) 4 4] w fun e w' => e = .returned (.int .i64 (orI a b c d)) ∧ w = w' := by
  have HC := hid (fun (k : Nat) (hk : k < 4) => show w.cell? ⟨lb, k, none⟩ = some (.int .i64 (nth3 a b c d k)) from by
    rw [row_cell h]
    match k, hk with
    | 0, _ => rfl
    | 1, _ => rfl
    | 2, _ => rfl
    | 3, _ => rfl)
  clear h
  go_enter Try.func43, Try.ntmps43
  go_wp2_with fail
  go_loopw [8] (fun i wr => ∃ k : Nat, k ≤ 4 ∧ i = .int .i64 k ∧ w = wr ∧ ∀ j, j < k → nth3 a b c d j = 0) (fun i _ => 4 - (RowKit.intOf i).toNat)
  case atStart => exact ⟨0, by omega, rfl, rfl, fun j h => absurd h (Nat.not_lt_zero _)⟩
  case round =>
    obtain ⟨k, hk, rfl, rfl, hz⟩ := hrel
    have HZ := hid hz
    clear hz
    by_cases hlt : k < 4
    · have hltI : (k : Int) < 4 := by omega
      have cc := HC.out k hlt
      obtain ⟨x, hx⟩ : ∃ x, nth3 a b c d k = x := ⟨_, rfl⟩
      rw [hx] at cc
      have HX := hid hx
      obtain ⟨bz, hbz⟩ : ∃ b, (x != 0) = b := ⟨_, rfl⟩
      clear hx
      cases bz with
      | true =>
        have hor : orI a b c d = x := by
          have h1 : x ≠ 0 := by simpa using hbz
          have h2 := HX.out
          match k, hlt with
          | 0, _ => simp [nth3] at h2; simp [orI, h2, h1]
          | 1, _ => have e0 := HZ.out 0 (by omega); simp [nth3] at h2 e0; simp [orI, e0, h2, h1]
          | 2, _ => have e0 := HZ.out 0 (by omega); have e1 := HZ.out 1 (by omega); simp [nth3] at h2 e0 e1; simp [orI, e0, e1, h2, h1]
          | 3, _ => have e0 := HZ.out 0 (by omega); have e1 := HZ.out 1 (by omega); have e2 := HZ.out 2 (by omega); simp [nth3] at h2 e0 e1 e2; simp [orI, e0, e1, e2, h2]
        have HOR := hid hor
        clear hor
        go_wp2
        go_ret
        exact ⟨ret_int HOR.out.symm, rfl⟩
      | false =>
        have hx0 : x = 0 := by simpa using hbz
        have HX0 := hid hx0
        clear hx0
        go_wp2
        go_roundw
        case rel => exact ⟨k + 1, by omega, by go_num, (by first | rfl | trivial), fun j hj => by
          rcases Nat.lt_succ_iff_lt_or_eq.1 hj with h1 | rfl
          · exact HZ.out j h1
          · rw [HX.out, HX0.out]⟩
        case measure => (simp only [RowKit.intOf]; omega)
    · obtain rfl : k = 4 := by omega
      have hor : orI a b c d = 0 := by
        have e0 := HZ.out 0 (by omega); have e1 := HZ.out 1 (by omega); have e2 := HZ.out 2 (by omega); have e3 := HZ.out 3 (by omega)
        simp [nth3] at e0 e1 e2 e3
        simp [orI, e0, e1, e2, e3]
      have HOR := hid hor
      clear hor
      go_wp2
      go_ret
      exact ⟨ret_int HOR.out.symm, rfl⟩

def ordO (x y : Int × Tx) : Int := orI (cmpI x.1 y.1) (cmpI x.2.1 y.2.1) (cmpI x.2.2.1 y.2.2.1) (cmpI x.2.2.2 y.2.2.2)
set_option maxRecDepth 100000 in
set_option maxHeartbeats 2000000 in
theorem elder_grow {x0 x1 x2 x3 y0 y1 y2 y3 : Int} {xb yb : Nat} {W : World} (s0 : W.cell? ⟨xb, 0, none⟩ = some (.int .u8 x1) ∧ W.cell? ⟨xb, 1, none⟩ = some (.int .u32 x2) ∧ W.cell? ⟨xb, 2, none⟩ = some (.int .u32 x3) ∧ W.cell? ⟨xb, 3, none⟩ = some (.int .u64 x0) ∧ W.cell? ⟨yb, 0, none⟩ = some (.int .u8 y1) ∧ W.cell? ⟨yb, 1, none⟩ = some (.int .u32 y2) ∧ W.cell? ⟨yb, 2, none⟩ = some (.int .u32 y3) ∧ W.cell? ⟨yb, 3, none⟩ = some (.int .u64 y0)) :
    Calls Try.prog 28 #[.pointer (some ⟨xb, 0, none⟩), .pointer (some ⟨yb, 0, none⟩)] W fun e w' => e = .returned (.int .i64 (ordO (x0, x1, x2, x3) (y0, y1, y2, y3))) ∧ ∃ q os', w' = Go.Sort.grow (W.drewN q) os' := by
  obtain ⟨a0, h0⟩ : ∃ c, cmpI x0 y0 = c := ⟨_, rfl⟩
  obtain ⟨a1, h1⟩ : ∃ c, cmpI x1 y1 = c := ⟨_, rfl⟩
  obtain ⟨a2, h2⟩ : ∃ c, cmpI x2 y2 = c := ⟨_, rfl⟩
  obtain ⟨a3, h3⟩ : ∃ c, cmpI x3 y3 = c := ⟨_, rfl⟩
  have HO := hid (show ordO (x0, x1, x2, x3) (y0, y1, y2, y3) = orI a0 a1 a2 a3 by simp only [ordO]; rw [h0, h1, h2, h3])
  have H0 := hid h0; have H1 := hid h1; have H2 := hid h2; have H3 := hid h3
  clear h0 h1 h2 h3
  have s1 : W.drew.cell? ⟨xb, 0, none⟩ = some (.int .u8 x1) ∧ W.drew.cell? ⟨xb, 1, none⟩ = some (.int .u32 x2) ∧ W.drew.cell? ⟨xb, 2, none⟩ = some (.int .u32 x3) ∧ W.drew.cell? ⟨xb, 3, none⟩ = some (.int .u64 x0) ∧ W.drew.cell? ⟨yb, 0, none⟩ = some (.int .u8 y1) ∧ W.drew.cell? ⟨yb, 1, none⟩ = some (.int .u32 y2) ∧ W.drew.cell? ⟨yb, 2, none⟩ = some (.int .u32 y3) ∧ W.drew.cell? ⟨yb, 3, none⟩ = some (.int .u64 y0) := s0
  have s2 : ∀ o, (W.drew.alloc o).cell? ⟨xb, 0, none⟩ = some (.int .u8 x1) ∧ (W.drew.alloc o).cell? ⟨xb, 1, none⟩ = some (.int .u32 x2) ∧ (W.drew.alloc o).cell? ⟨xb, 2, none⟩ = some (.int .u32 x3) ∧ (W.drew.alloc o).cell? ⟨xb, 3, none⟩ = some (.int .u64 x0) ∧ (W.drew.alloc o).cell? ⟨yb, 0, none⟩ = some (.int .u8 y1) ∧ (W.drew.alloc o).cell? ⟨yb, 1, none⟩ = some (.int .u32 y2) ∧ (W.drew.alloc o).cell? ⟨yb, 2, none⟩ = some (.int .u32 y3) ∧ (W.drew.alloc o).cell? ⟨yb, 3, none⟩ = some (.int .u64 y0) := fun o => by
    have k := (Kept.refl (fun _ => False) W.drew).alloc o
    obtain ⟨e0, e1, e2, e3, e4, e5, e6, e7⟩ := s1
    exact ⟨k.cell e0 id, k.cell e1 id, k.cell e2 id, k.cell e3 id, k.cell e4 id, k.cell e5 id, k.cell e6 id, k.cell e7 id⟩
  go_enter Try.func28, Try.ntmps28
  go_wp2_with fail
  go_region_held3 (fun w' => w'.cell? ⟨xb, 0, none⟩ = some (.int .u8 x1) ∧ w'.cell? ⟨xb, 1, none⟩ = some (.int .u32 x2) ∧ w'.cell? ⟨xb, 2, none⟩ = some (.int .u32 x3) ∧ w'.cell? ⟨xb, 3, none⟩ = some (.int .u64 x0) ∧ w'.cell? ⟨yb, 0, none⟩ = some (.int .u8 y1) ∧ w'.cell? ⟨yb, 1, none⟩ = some (.int .u32 y2) ∧ w'.cell? ⟨yb, 2, none⟩ = some (.int .u32 y3) ∧ w'.cell? ⟨yb, 3, none⟩ = some (.int .u64 y0)) (first | exact s1 | exact s0 | exact s2 _)
    (first
      | (go_at_call 44; refine (compareu64 _ _ _).mono ?_; rintro e w' ⟨he, rfl⟩; rw [H0.out] at he; subst he)
      | (go_at_call 45; refine (compareu8 _ _ _).mono ?_; rintro e w' ⟨he, rfl⟩; rw [H1.out] at he; subst he)
      | (go_at_call 46; refine (compareu32 _ _ _).mono ?_; rintro e w' ⟨he, rfl⟩; (first | rw [H2.out] at he | rw [H3.out] at he); subst he)
      | (go_at_call 43; refine (or_any (by exact row_new _ _)).mono ?_; rintro e w' ⟨rfl, rfl⟩))
  go_wp2
  go_ret
  refine ⟨ret_int HO.out.symm, 1, #[.cells #[.int .i64 a0, .int .i64 a1, .int .i64 a2, .int .i64 a3] 3], ?_⟩
  rw [Go.Sort.alloc_eq_grow]
  rfl
/-- the order of owners -/
def ltO (x y : Int × Tx) : Prop := x.1 < y.1 ∨ x.1 = y.1 ∧ (x.2.1 < y.2.1 ∨ x.2.1 = y.2.1 ∧ (x.2.2.1 < y.2.2.1 ∨ x.2.2.1 = y.2.2.1 ∧ x.2.2.2 < y.2.2.2))
instance (x y : Int × Tx) : Decidable (ltO x y) := by unfold ltO; infer_instance
theorem cmpI_neg {x y : Int} : cmpI x y < 0 ↔ x < y := by unfold cmpI; split <;> (try split) <;> omega
theorem cmpI_zero {x y : Int} : cmpI x y = 0 ↔ x = y := by unfold cmpI; split <;> (try split) <;> omega
theorem ordO_neg {x y : Int × Tx} : ordO x y < 0 ↔ ltO x y := by
  unfold ordO orI ltO
  have z1 := cmpI_zero (x := x.1) (y := y.1); have z2 := cmpI_neg (x := x.1) (y := y.1)
  have a1 := cmpI_zero (x := x.2.1) (y := y.2.1); have a2 := cmpI_neg (x := x.2.1) (y := y.2.1)
  have b1 := cmpI_zero (x := x.2.2.1) (y := y.2.2.1); have b2 := cmpI_neg (x := x.2.2.1) (y := y.2.2.1)
  have d2 := cmpI_neg (x := x.2.2.2) (y := y.2.2.2)
  split
  · omega
  · split
    · omega
    · split <;> omega
theorem ltO_trans {x y z : Int × Tx} (h1 : ltO x y) (h2 : ltO y z) : ltO x z := by
  obtain ⟨x0, x1, x2, x3⟩ := x
  obtain ⟨y0, y1, y2, y3⟩ := y
  obtain ⟨z0, z1, z2, z3⟩ := z
  simp only [ltO] at h1 h2 ⊢
  omega
theorem ltO_total {x y : Int × Tx} (h1 : ¬ ltO x y) (h2 : ¬ ltO y x) : x = y := by
  obtain ⟨x0, x1, x2, x3⟩ := x
  obtain ⟨y0, y1, y2, y3⟩ := y
  simp only [ltO] at h1 h2
  simp only [Prod.mk.injEq]
  omega
theorem ltO_ntrans {x y z : Int × Tx} (h1 : ¬ ltO x y) (h2 : ¬ ltO y z) : ¬ ltO x z := by
  obtain ⟨x0, x1, x2, x3⟩ := x
  obtain ⟨y0, y1, y2, y3⟩ := y
  obtain ⟨z0, z1, z2, z3⟩ := z
  simp only [ltO] at h1 h2 ⊢
  omega
theorem ltO_irrefl (x : Int × Tx) : ¬ ltO x x := by simp [ltO]
end Go.Proofs.Ytpjhdpfaogdboaa
