/- Texts of this claim, merged: B, Bare, Lies, C. -/
import Derived.Deep.RegionHeld3
import Derived.Sort.Grow
import Derived.Test.YtpjhdpfaogdboaaPm1
import Derived.Test.YtpjhdpfaogdboaaPm2
import Derived.Test.YtpjhdpfaogdboaaPm3
/- cmp.Compare, cmp.Or of four; elder: the order of two owners. -/
namespace Go.Proofs.Ytpjhdpfaogdboaa
set_option linter.unusedSimpArgs false
set_option linter.unusedVariables false
open Go.RowKit
def cmpI (x y : Int) : Int := if x < y then -1 else if y < x then 1 else 0
set_option maxHeartbeats 400000 in
theorem nanu8 (x : Int) (w : World) : Calls Try.prog 64 #[.int .u8 x] w fun e w' => e = .returned (.bool false) ∧ w = w' := by
  go_enter Try.func64, Try.ntmps64
  go_wp2
  go_ret
  exact ⟨ret_bool (by simp), rfl⟩
set_option maxHeartbeats 400000 in
theorem compareu8 (x y : Int) (w : World) : Calls Try.prog 45 #[.int .u8 x, .int .u8 y] w fun e w' => e = .returned (.int .i64 (cmpI x y)) ∧ w = w' := by
  go_enter Try.func45, Try.ntmps45
  go_wp2_with fail
  refine (nanu8 _ _).mono ?_; rintro e w' ⟨rfl, rfl⟩
  go_wp2_with fail
  refine (nanu8 _ _).mono ?_; rintro e w' ⟨rfl, rfl⟩
  rcases Int.lt_trichotomy x y with h | h | h
  · have hc : cmpI x y = -1 := by simp [cmpI, h]
    go_wp2
    go_ret
    exact ⟨ret_int hc.symm, rfl⟩
  · have hc : cmpI x y = 0 := by simp [cmpI, h]
    have h1 : ¬ x < y := by omega
    have h2 : ¬ y < x := by omega
    clear h
    go_wp2
    go_ret
    exact ⟨ret_int hc.symm, rfl⟩
  · have hc : cmpI x y = 1 := by simp [cmpI, h]; omega
    have h1 : ¬ x < y := by omega
    go_wp2
    go_ret
    exact ⟨ret_int hc.symm, rfl⟩
set_option maxHeartbeats 400000 in
theorem nanu32 (x : Int) (w : World) : Calls Try.prog 65 #[.int .u32 x] w fun e w' => e = .returned (.bool false) ∧ w = w' := by
  go_enter Try.func65, Try.ntmps65
  go_wp2
  go_ret
  exact ⟨ret_bool (by simp), rfl⟩
set_option maxHeartbeats 400000 in
theorem compareu32 (x y : Int) (w : World) : Calls Try.prog 46 #[.int .u32 x, .int .u32 y] w fun e w' => e = .returned (.int .i64 (cmpI x y)) ∧ w = w' := by
  go_enter Try.func46, Try.ntmps46
  go_wp2_with fail
  refine (nanu32 _ _).mono ?_; rintro e w' ⟨rfl, rfl⟩
  go_wp2_with fail
  refine (nanu32 _ _).mono ?_; rintro e w' ⟨rfl, rfl⟩
  rcases Int.lt_trichotomy x y with h | h | h
  · have hc : cmpI x y = -1 := by simp [cmpI, h]
    go_wp2
    go_ret
    exact ⟨ret_int hc.symm, rfl⟩
  · have hc : cmpI x y = 0 := by simp [cmpI, h]
    have h1 : ¬ x < y := by omega
    have h2 : ¬ y < x := by omega
    clear h
    go_wp2
    go_ret
    exact ⟨ret_int hc.symm, rfl⟩
  · have hc : cmpI x y = 1 := by simp [cmpI, h]; omega
    have h1 : ¬ x < y := by omega
    go_wp2
    go_ret
    exact ⟨ret_int hc.symm, rfl⟩
set_option maxHeartbeats 400000 in
theorem nanu64 (x : Int) (w : World) : Calls Try.prog 63 #[.int .u64 x] w fun e w' => e = .returned (.bool false) ∧ w = w' := by
  go_enter Try.func63, Try.ntmps63
  go_wp2
  go_ret
  exact ⟨ret_bool (by simp), rfl⟩
set_option maxHeartbeats 400000 in
theorem compareu64 (x y : Int) (w : World) : Calls Try.prog 44 #[.int .u64 x, .int .u64 y] w fun e w' => e = .returned (.int .i64 (cmpI x y)) ∧ w = w' := by
  go_enter Try.func44, Try.ntmps44
  go_wp2_with fail
  refine (nanu64 _ _).mono ?_; rintro e w' ⟨rfl, rfl⟩
  go_wp2_with fail
  refine (nanu64 _ _).mono ?_; rintro e w' ⟨rfl, rfl⟩
  rcases Int.lt_trichotomy x y with h | h | h
  · have hc : cmpI x y = -1 := by simp [cmpI, h]
    go_wp2
    go_ret
    exact ⟨ret_int hc.symm, rfl⟩
  · have hc : cmpI x y = 0 := by simp [cmpI, h]
    have h1 : ¬ x < y := by omega
    have h2 : ¬ y < x := by omega
    clear h
    go_wp2
    go_ret
    exact ⟨ret_int hc.symm, rfl⟩
  · have hc : cmpI x y = 1 := by simp [cmpI, h]; omega
    have h1 : ¬ x < y := by omega
    go_wp2
    go_ret
    exact ⟨ret_int hc.symm, rfl⟩
def orI (a b c d : Int) : Int := if a ≠ 0 then a else if b ≠ 0 then b else if c ≠ 0 then c else d
def nth3 (a b c d : Int) (k : Nat) : Int := if k = 0 then a else if k = 1 then b else if k = 2 then c else d
set_option maxRecDepth 100000 in
set_option maxHeartbeats 1000000 in
theorem or_any {w : World} {lb : Nat} {a b c d : Int} (h : w.heap[lb]? = some (.cells #[.int .i64 a, .int .i64 b, .int .i64 c, .int .i64 d] 3 (0, 0))) :
    Calls Try.prog 43 #[.slice (some ⟨lb, 0, none⟩) 4 4] w fun e w' => e = .returned (.int .i64 (orI a b c d)) ∧ w = w' := by
  have HC := hid (fun (k : Nat) (hk : k < 4) => show w.cell? ⟨lb, k, none⟩ = some (.int .i64 (nth3 a b c d k)) from by
    rw [row_cell h]
    match k, hk with
    | 0, _ => rfl
    | 1, _ => rfl
    | 2, _ => rfl
    | 3, _ => rfl)
  clear h
  go_enter Try.func43, Try.ntmps43
  go_wp2_with fail
  go_loopw [8] (fun i wr => ∃ k : Nat, k ≤ 4 ∧ i = .int .i64 k ∧ w = wr ∧ ∀ j, j < k → nth3 a b c d j = 0) (fun i _ => 4 - (RowKit.intOf i).toNat)
  case atStart => exact ⟨0, by omega, rfl, rfl, fun j h => absurd h (Nat.not_lt_zero _)⟩
  case round =>
    obtain ⟨k, hk, rfl, rfl, hz⟩ := hrel
    have HZ := hid hz
    clear hz
    by_cases hlt : k < 4
    · have hltI : (k : Int) < 4 := by omega
      have cc := HC.out k hlt
      obtain ⟨x, hx⟩ : ∃ x, nth3 a b c d k = x := ⟨_, rfl⟩
      rw [hx] at cc
      have HX := hid hx
      obtain ⟨bz, hbz⟩ : ∃ b, (x != 0) = b := ⟨_, rfl⟩
      clear hx
      cases bz with
      | true =>
        have hor : orI a b c d = x := by
          have h1 : x ≠ 0 := by simpa using hbz
          have h2 := HX.out
          match k, hlt with
          | 0, _ => simp [nth3] at h2; simp [orI, h2, h1]
          | 1, _ => have e0 := HZ.out 0 (by omega); simp [nth3] at h2 e0; simp [orI, e0, h2, h1]
          | 2, _ => have e0 := HZ.out 0 (by omega); have e1 := HZ.out 1 (by omega); simp [nth3] at h2 e0 e1; simp [orI, e0, e1, h2, h1]
          | 3, _ => have e0 := HZ.out 0 (by omega); have e1 := HZ.out 1 (by omega); have e2 := HZ.out 2 (by omega); simp [nth3] at h2 e0 e1 e2; simp [orI, e0, e1, e2, h2]
        have HOR := hid hor
        clear hor
        go_wp2
        go_ret
        exact ⟨ret_int HOR.out.symm, rfl⟩
      | false =>
        have hx0 : x = 0 := by simpa using hbz
        have HX0 := hid hx0
        clear hx0
        go_wp2
        go_roundw
        case rel => exact ⟨k + 1, by omega, by go_num, (by first | rfl | trivial), fun j hj => by
          rcases Nat.lt_succ_iff_lt_or_eq.1 hj with h1 | rfl
          · exact HZ.out j h1
          · rw [HX.out, HX0.out]⟩
        case measure => (simp only [RowKit.intOf]; omega)
    · obtain rfl : k = 4 := by omega
      have hor : orI a b c d = 0 := by
        have e0 := HZ.out 0 (by omega); have e1 := HZ.out 1 (by omega); have e2 := HZ.out 2 (by omega); have e3 := HZ.out 3 (by omega)
        simp [nth3] at e0 e1 e2 e3
        simp [orI, e0, e1, e2, e3]
      have HOR := hid hor
      clear hor
      go_wp2
      go_ret
      exact ⟨ret_int HOR.out.symm, rfl⟩

def ordO (x y : Int × Tx) : Int := orI (cmpI x.1 y.1) (cmpI x.2.1 y.2.1) (cmpI x.2.2.1 y.2.2.1) (cmpI x.2.2.2 y.2.2.2)
set_option maxRecDepth 100000 in
set_option maxHeartbeats 2000000 in
theorem elder_grow {x0 x1 x2 x3 y0 y1 y2 y3 : Int} {xb yb : Nat} {W : World} (s0 : W.cell? ⟨xb, 0, none⟩ = some (.int .u8 x1) ∧ W.cell? ⟨xb, 1, none⟩ = some (.int .u32 x2) ∧ W.cell? ⟨xb, 2, none⟩ = some (.int .u32 x3) ∧ W.cell? ⟨xb, 3, none⟩ = some (.int .u64 x0) ∧ W.cell? ⟨yb, 0, none⟩ = some (.int .u8 y1) ∧ W.cell? ⟨yb, 1, none⟩ = some (.int .u32 y2) ∧ W.cell? ⟨yb, 2, none⟩ = some (.int .u32 y3) ∧ W.cell? ⟨yb, 3, none⟩ = some (.int .u64 y0)) :
    Calls Try.prog 28 #[.pointer (some ⟨xb, 0, none⟩), .pointer (some ⟨yb, 0, none⟩)] W fun e w' => e = .returned (.int .i64 (ordO (x0, x1, x2, x3) (y0, y1, y2, y3))) ∧ ∃ q os', w' = Go.Sort.grow (W.drewN q) os' := by
  obtain ⟨a0, h0⟩ : ∃ c, cmpI x0 y0 = c := ⟨_, rfl⟩
  obtain ⟨a1, h1⟩ : ∃ c, cmpI x1 y1 = c := ⟨_, rfl⟩
  obtain ⟨a2, h2⟩ : ∃ c, cmpI x2 y2 = c := ⟨_, rfl⟩
  obtain ⟨a3, h3⟩ : ∃ c, cmpI x3 y3 = c := ⟨_, rfl⟩
  have HO := hid (show ordO (x0, x1, x2, x3) (y0, y1, y2, y3) = orI a0 a1 a2 a3 by simp only [ordO]; rw [h0, h1, h2, h3])
  have H0 := hid h0; have H1 := hid h1; have H2 := hid h2; have H3 := hid h3
  clear h0 h1 h2 h3
  have s1 : W.drew.cell? ⟨xb, 0, none⟩ = some (.int .u8 x1) ∧ W.drew.cell? ⟨xb, 1, none⟩ = some (.int .u32 x2) ∧ W.drew.cell? ⟨xb, 2, none⟩ = some (.int .u32 x3) ∧ W.drew.cell? ⟨xb, 3, none⟩ = some (.int .u64 x0) ∧ W.drew.cell? ⟨yb, 0, none⟩ = some (.int .u8 y1) ∧ W.drew.cell? ⟨yb, 1, none⟩ = some (.int .u32 y2) ∧ W.drew.cell? ⟨yb, 2, none⟩ = some (.int .u32 y3) ∧ W.drew.cell? ⟨yb, 3, none⟩ = some (.int .u64 y0) := s0
  have s2 : ∀ o, (W.drew.alloc o).cell? ⟨xb, 0, none⟩ = some (.int .u8 x1) ∧ (W.drew.alloc o).cell? ⟨xb, 1, none⟩ = some (.int .u32 x2) ∧ (W.drew.alloc o).cell? ⟨xb, 2, none⟩ = some (.int .u32 x3) ∧ (W.drew.alloc o).cell? ⟨xb, 3, none⟩ = some (.int .u64 x0) ∧ (W.drew.alloc o).cell? ⟨yb, 0, none⟩ = some (.int .u8 y1) ∧ (W.drew.alloc o).cell? ⟨yb, 1, none⟩ = some (.int .u32 y2) ∧ (W.drew.alloc o).cell? ⟨yb, 2, none⟩ = some (.int .u32 y3) ∧ (W.drew.alloc o).cell? ⟨yb, 3, none⟩ = some (.int .u64 y0) := fun o => by
    have k := (Kept.refl (fun _ => False) W.drew).alloc o
    obtain ⟨e0, e1, e2, e3, e4, e5, e6, e7⟩ := s1
    exact ⟨k.cell e0 id, k.cell e1 id, k.cell e2 id, k.cell e3 id, k.cell e4 id, k.cell e5 id, k.cell e6 id, k.cell e7 id⟩
  go_enter Try.func28, Try.ntmps28
  go_wp2_with fail
  go_region_held3 (fun w' => w'.cell? ⟨xb, 0, none⟩ = some (.int .u8 x1) ∧ w'.cell? ⟨xb, 1, none⟩ = some (.int .u32 x2) ∧ w'.cell? ⟨xb, 2, none⟩ = some (.int .u32 x3) ∧ w'.cell? ⟨xb, 3, none⟩ = some (.int .u64 x0) ∧ w'.cell? ⟨yb, 0, none⟩ = some (.int .u8 y1) ∧ w'.cell? ⟨yb, 1, none⟩ = some (.int .u32 y2) ∧ w'.cell? ⟨yb, 2, none⟩ = some (.int .u32 y3) ∧ w'.cell? ⟨yb, 3, none⟩ = some (.int .u64 y0)) (first | exact s1 | exact s0 | exact s2 _)
    (first
      | (go_at_call 44; refine (compareu64 _ _ _).mono ?_; rintro e w' ⟨he, rfl⟩; rw [H0.out] at he; subst he)
      | (go_at_call 45; refine (compareu8 _ _ _).mono ?_; rintro e w' ⟨he, rfl⟩; rw [H1.out] at he; subst he)
      | (go_at_call 46; refine (compareu32 _ _ _).mono ?_; rintro e w' ⟨he, rfl⟩; (first | rw [H2.out] at he | rw [H3.out] at he); subst he)
      | (go_at_call 43; refine (or_any (by exact row_new _ _)).mono ?_; rintro e w' ⟨rfl, rfl⟩))
  go_wp2
  go_ret
  refine ⟨ret_int HO.out.symm, 1, #[.cells #[.int .i64 a0, .int .i64 a1, .int .i64 a2, .int .i64 a3] 3], ?_⟩
  rw [Go.Sort.alloc_eq_grow]
  rfl
/-- the order of owners -/
def ltO (x y : Int × Tx) : Prop := x.1 < y.1 ∨ x.1 = y.1 ∧ (x.2.1 < y.2.1 ∨ x.2.1 = y.2.1 ∧ (x.2.2.1 < y.2.2.1 ∨ x.2.2.1 = y.2.2.1 ∧ x.2.2.2 < y.2.2.2))
instance (x y : Int × Tx) : Decidable (ltO x y) := by unfold ltO; infer_instance
theorem cmpI_neg {x y : Int} : cmpI x y < 0 ↔ x < y := by unfold cmpI; split <;> (try split) <;> omega
theorem cmpI_zero {x y : Int} : cmpI x y = 0 ↔ x = y := by unfold cmpI; split <;> (try split) <;> omega
theorem ordO_neg {x y : Int × Tx} : ordO x y < 0 ↔ ltO x y := by
  unfold ordO orI ltO
  have z1 := cmpI_zero (x := x.1) (y := y.1); have z2 := cmpI_neg (x := x.1) (y := y.1)
  have a1 := cmpI_zero (x := x.2.1) (y := y.2.1); have a2 := cmpI_neg (x := x.2.1) (y := y.2.1)
  have b1 := cmpI_zero (x := x.2.2.1) (y := y.2.2.1); have b2 := cmpI_neg (x := x.2.2.1) (y := y.2.2.1)
  have d2 := cmpI_neg (x := x.2.2.2) (y := y.2.2.2)
  split
  · omega
  · split
    · omega
    · split <;> omega
theorem ltO_trans {x y z : Int × Tx} (h1 : ltO x y) (h2 : ltO y z) : ltO x z := by
  obtain ⟨x0, x1, x2, x3⟩ := x
  obtain ⟨y0, y1, y2, y3⟩ := y
  obtain ⟨z0, z1, z2, z3⟩ := z
  simp only [ltO] at h1 h2 ⊢
  omega
theorem ltO_total {x y : Int × Tx} (h1 : ¬ ltO x y) (h2 : ¬ ltO y x) : x = y := by
  obtain ⟨x0, x1, x2, x3⟩ := x
  obtain ⟨y0, y1, y2, y3⟩ := y
  simp only [ltO] at h1 h2
  simp only [Prod.mk.injEq]
  omega
theorem ltO_ntrans {x y z : Int × Tx} (h1 : ¬ ltO x y) (h2 : ¬ ltO y z) : ¬ ltO x z := by
  obtain ⟨x0, x1, x2, x3⟩ := x
  obtain ⟨y0, y1, y2, y3⟩ := y
  obtain ⟨z0, z1, z2, z3⟩ := z
  simp only [ltO] at h1 h2 ⊢
  omega
theorem ltO_irrefl (x : Int × Tx) : ¬ ltO x x := by simp [ltO]
end Go.Proofs.Ytpjhdpfaogdboaa
/- append to a slice of no room, whatever its base: what slices.Clone does. -/
namespace Go.Proofs.Ytpjhdpfaogdboaa
set_option linter.unusedSimpArgs false
set_option linter.unusedVariables false
open Go.RowKit

theorem run_app_bare {P : Program} (w : World) (t ty e : TypeId) (i : TypeInfo) (z : Value) (size bytes : Nat) (ht : P.underlying t = some (.slice e)) (hi : P.info? e = some i) (hz : i.zero = some z)
    (hsize : i.size = size) (hby : i.bytes = bytes) (hzs : z.cells.size = size) (hsz : 0 < size)
    (ob : Option Addr) (x : Value) (m : Nat) (news : List Value) (hx : Src w size x m news)
    (h63 : m ≤ maxLen) (hbytes : m * bytes ≤ 140737488355328) :
    ∃ a' c' w', (Builtin.append_ #[t, t] ty #[.slice ob 0 0, x]).run P w = .ok (.slice a' m c') w' ∧ Kept (fun _ => False) w w' ∧ (m = 0 → a' = ob ∧ c' = 0) ∧
      (0 < m → Own w' e size (.slice a' m c') m news ∧ ∀ g, (Value.slice a' m c').ownBlock = some g → w.heap.size ≤ g) := by
  by_cases hm : m = 0
  · subst hm
    obtain ⟨ao, c, rfl, hl, hn0, hnews, h1⟩ := hx
    refine ⟨ob, 0, w, ?_, Kept.refl _ _, fun _ => ⟨rfl, rfl⟩, fun h => absurd h (by decide)⟩
    cases ao <;> cases ob <;> simp [Builtin.append_, run_underlying ht, sizeOf, typeInfo, zeroValue, hi, hz, Builtin.lenOf, Builtin.firstCells, loadCells, loadCellsFrom, storeCells]
  · cases ob with
    | none =>
      obtain ⟨v', w', hr, h1, h2, h3, h4⟩ := run_append_grows (P := P) w t ty e i z size bytes ht hi hz hsize hby hzs hsz (.slice none 0 0) 0 [] (World.ownsRow_nil _ _ _ _) x m news hx (by omega) (by rw [Nat.zero_add]; exact hbytes)
      obtain ⟨a', c', rfl⟩ := h1.isSlice
      rw [Nat.zero_add] at *
      refine ⟨a', c', w', hr, h2.mono (fun _ _ h => by simp [Value.ownBlock] at h), fun h => absurd h hm, fun _ => ⟨by simpa using h1, fun g hg => ?_⟩⟩
      rcases h3 g hg with h | h
      · simp [Value.ownBlock] at h
      · exact h
    | some b =>
      obtain ⟨v', w', hr, h1, h2, h3, h4⟩ := run_append_grows (P := P) w t ty e i z size bytes ht hi hz hsize hby hzs hsz (.slice none 0 0) 0 [] (World.ownsRow_nil _ _ _ _) x m news hx (by omega) (by rw [Nat.zero_add]; exact hbytes)
      obtain ⟨a', c', rfl⟩ := h1.isSlice
      have hx2 := hx
      obtain ⟨ao, c, rfl, hl, hn0, hnews, ho⟩ := hx2
      cases ao with
      | none => exact absurd (hn0 rfl).1 hm
      | some a =>
        subst hsize
        subst hby
        simp only [maxLen] at h63
        have e1 := run_append_nil (P := P) (w := w) t ty e i z ht hi hz a m c news hl (hnews a rfl) (by omega) (by omega) (by omega)
        have e2 := run_append_grow (P := P) (w := w) t ty e i z ht hi hz b 0 0 [] (by simp) (by simp) a m c news hl (hnews a rfl) (by omega) (by omega) (by rw [Nat.zero_add, nextslicecap_zero (by omega)]; omega)
        have e3 := e1.symm.trans hr
        simp only [Result.ok.injEq] at e3
        obtain ⟨e4, e5⟩ := e3
        rw [show ([] : List Value).toArray ++ news.toArray = news.toArray from by simp, Nat.zero_add] at e2
        rw [Nat.zero_add] at e4
        refine ⟨a', c', w', ?_, h2.mono (fun _ _ h => by simp [Value.ownBlock] at h), fun h => absurd h hm, fun _ => ⟨by simpa using h1, fun g hg => ?_⟩⟩
        · rw [e2, e4, e5]
        · rcases h3 g (by simpa using hg) with h | h
          · simp [Value.ownBlock] at h
          · exact h
end Go.Proofs.Ytpjhdpfaogdboaa
/- Slices that are read: where their cells lie, outside some blocks. -/
namespace Go.Proofs.Ytpjhdpfaogdboaa
set_option linter.unusedSimpArgs false
set_option linter.unusedVariables false
open Go.RowKit

/-- v is a slice of m elements of 'size' cells each, whose cells are news; none of them lies in a block of F. -/
def Lies (F : Nat → Prop) (w : World) (size : Nat) (v : Value) (m : Nat) (news : List Value) : Prop :=
  ∃ ao c, v = .slice ao m c ∧ m ≤ c ∧ c ≤ maxLen ∧ news.length = m * size ∧ (ao = none → m = 0 ∧ c = 0) ∧
    (0 < m → ∃ g off, ao = some ⟨g, off, none⟩ ∧ ¬ F g ∧ g < w.heap.size ∧ ∀ j u, news[j]? = some u → w.cell? ⟨g, off + j, none⟩ = some u) ∧ ∀ u ∈ news, u.oneCell' = true

theorem Lies.nil (F : Nat → Prop) (w : World) (size : Nat) : Lies F w size (.slice none 0 0) 0 [] :=
  ⟨none, 0, rfl, Nat.le_refl _, Nat.zero_le _, by simp, fun _ => ⟨rfl, rfl⟩, fun h => absurd h (by decide), by simp⟩
theorem Lies.isSlice {F : Nat → Prop} {w : World} {size : Nat} {v : Value} {m : Nat} {news : List Value} (h : Lies F w size v m news) : ∃ ao c, v = .slice ao m c := by
  obtain ⟨ao, c, e, _⟩ := h
  exact ⟨ao, c, e⟩
theorem Lies.one {F : Nat → Prop} {w : World} {size : Nat} {v : Value} {m : Nat} {news : List Value} (h : Lies F w size v m news) : v.oneCell' = true := by
  obtain ⟨ao, c, rfl⟩ := h.isSlice
  rfl
theorem Lies.mono {F G : Nat → Prop} {w : World} {size : Nat} {v : Value} {m : Nat} {news : List Value} (h : Lies F w size v m news) (hg : ∀ g, g < w.heap.size → G g → F g) : Lies G w size v m news := by
  obtain ⟨ao, c, h1, h2, h2', h3, h4, h5, h6⟩ := h
  refine ⟨ao, c, h1, h2, h2', h3, h4, fun hm => ?_, h6⟩
  obtain ⟨g, off, e, hF, hl, hc⟩ := h5 hm
  exact ⟨g, off, e, fun hG => hF (hg g hl hG), hl, hc⟩
/-- what turns blocks of F alone leaves it -/
theorem Lies.kept {F G : Nat → Prop} {w w' : World} {size : Nat} {v : Value} {m : Nat} {news : List Value} (h : Lies F w size v m news) (k : Kept G w w') (hg : ∀ g, g < w.heap.size → G g → F g) : Lies F w' size v m news := by
  obtain ⟨ao, c, h1, h2, h2', h3, h4, h5, h6⟩ := h
  refine ⟨ao, c, h1, h2, h2', h3, h4, fun hm => ?_, h6⟩
  obtain ⟨g, off, e, hF, hl, hc⟩ := h5 hm
  exact ⟨g, off, e, hF, Nat.lt_of_lt_of_le hl k.size, fun j u hu => k.cell (hc j u hu) (fun hG => hF (hg g hl hG))⟩
theorem Lies.same {F : Nat → Prop} {w w' : World} {size : Nat} {v : Value} {m : Nat} {news : List Value} (h : Lies F w size v m news) (k : Kept (fun _ => False) w w') : Lies F w' size v m news := h.kept k (fun _ _ h => h.elim)
theorem Lies.src {F : Nat → Prop} {w : World} {size : Nat} {v : Value} {m : Nat} {news : List Value} (h : Lies F w size v m news) : Src w size v m news := by
  obtain ⟨ao, c, h1, h2, h2', h3, h4, h5, h6⟩ := h
  by_cases hm : 0 < m
  · obtain ⟨g, off, rfl, hF, hl, hc⟩ := h5 hm
    subst h1
    exact src_row h3 hc h6
  · obtain rfl : m = 0 := by omega
    obtain rfl : news = [] := List.eq_nil_of_length_eq_zero (by simpa using h3)
    exact ⟨ao, c, h1, by simp, h4, by simp, by simp⟩
theorem Own.lies {F : Nat → Prop} {w : World} {E size : Nat} {v : Value} {n : Nat} {xs : List Value} (h : Own w E size v n xs) (h1 : ∀ u ∈ xs, u.oneCell' = true) (hF : ∀ g, v.ownBlock = some g → ¬ F g) : Lies F w size v n xs := by
  rcases h.shape with ⟨rfl, rfl, rfl⟩ | ⟨g, cap, cur, rfl, hg, hnc, hcm, _⟩
  · exact Lies.nil _ _ _
  · refine ⟨_, cap, rfl, hnc, hcm, h.len, (fun h => nomatch h), fun _ => ⟨g, 0, rfl, hF g rfl, row_lt hg, fun j u hu => ?_⟩, h1⟩
    obtain ⟨hj, e⟩ := List.getElem?_eq_some_iff.1 hu
    rw [Nat.zero_add, ← e]
    exact h.cells rfl j hj
/-- the cells of one element -/
theorem Lies.cell {F : Nat → Prop} {w : World} {size : Nat} {v : Value} {m : Nat} {news : List Value} (h : Lies F w size v m news) (hm : 0 < m) :
    ∃ g off c, v = .slice (some ⟨g, off, none⟩) m c ∧ m ≤ c ∧ c ≤ maxLen ∧ ¬ F g ∧ g < w.heap.size ∧ ∀ j u, news[j]? = some u → w.cell? ⟨g, off + j, none⟩ = some u := by
  obtain ⟨ao, c, h1, h2, h2', h3, h4, h5, h6⟩ := h
  obtain ⟨g, off, rfl, hF, hl, hc⟩ := h5 hm
  exact ⟨g, off, c, h1, h2, h2', hF, hl, hc⟩
theorem Lies.len {F : Nat → Prop} {w : World} {size : Nat} {v : Value} {m : Nat} {news : List Value} (h : Lies F w size v m news) : news.length = m * size := by
  obtain ⟨ao, c, h1, h2, h2', h3, _⟩ := h
  exact h3

/-! values (a kind, a number, a text) and numbers as cells -/
abbrev Val := Int × Int × ByteArray
def vcell (x : Val) : List Value := [.int .u8 x.1, .int .i64 x.2.1, .string x.2.2]
def vcells (l : List Val) : List Value := l.flatMap vcell
def ncells (l : List Int) : List Value := l.map (.int .u32)
theorem vcells_len (l : List Val) : (vcells l).length = l.length * 3 := by
  induction l with
  | nil => rfl
  | cons x l ih => simp [vcells, vcell, List.flatMap_cons] at ih ⊢; omega
theorem ncells_len (l : List Int) : (ncells l).length = l.length * 1 := by simp [ncells]
theorem vcells_one (l : List Val) : ∀ u ∈ vcells l, u.oneCell' = true := by
  intro u hu
  simp only [vcells, List.mem_flatMap, vcell] at hu
  obtain ⟨x, _, hx⟩ := hu
  simp at hx
  rcases hx with rfl | rfl | rfl <;> rfl
theorem ncells_one (l : List Int) : ∀ u ∈ ncells l, u.oneCell' = true := by
  intro u hu
  simp only [ncells, List.mem_map] at hu
  obtain ⟨x, _, rfl⟩ := hu
  rfl
theorem vcells_at : ∀ (l : List Val) (i : Nat) (x : Val), l[i]? = some x → (vcells l)[i * 3]? = some (.int .u8 x.1) ∧ (vcells l)[i * 3 + 1]? = some (.int .i64 x.2.1) ∧ (vcells l)[i * 3 + 2]? = some (.string x.2.2)
  | y :: l, 0, x, h => by simp at h; subst h; simp [vcells, vcell]
  | y :: l, i + 1, x, h => by
    have := vcells_at l i x (by simpa using h)
    have e : ∀ k, (vcells (y :: l))[k + 3]? = (vcells l)[k]? := fun k => by
      simp [vcells, vcell, List.flatMap_cons]
    rw [show (i + 1) * 3 = i * 3 + 3 from by omega, show i * 3 + 3 + 1 = i * 3 + 1 + 3 from by omega, show i * 3 + 3 + 2 = i * 3 + 2 + 3 from by omega, e, e, e]
    exact this
theorem ncells_at (l : List Int) (i : Nat) (x : Int) (h : l[i]? = some x) : (ncells l)[i]? = some (.int .u32 x) := by simp [ncells, h]
theorem cells4 {w : World} {b : Nat} {x y z u : Value} {T : TypeId} (h : w.heap[b]? = some (.cells #[x, y, z, u] T (0, 0))) :
    w.cell? ⟨b, 0, none⟩ = some x ∧ w.cell? ⟨b, 1, none⟩ = some y ∧ w.cell? ⟨b, 2, none⟩ = some z ∧ w.cell? ⟨b, 3, none⟩ = some u ∧ ∀ i, w.frozen? ⟨b, i, none⟩ = false := by
  have h0 := row_cell h 0
  have h1 := row_cell h 1
  have h2 := row_cell h 2
  have h3 := row_cell h 3
  simp at h0 h1 h2 h3
  exact ⟨h0, h1, h2, h3, fun i => row_free h i⟩
theorem set4 {w : World} {b : Nat} {x y z u : Value} {T : TypeId} (h : w.heap[b]? = some (.cells #[x, y, z, u] T (0, 0))) (x' y' z' u' : Value) :
    ((((w.setCell ⟨b, 0, none⟩ x').setCell ⟨b, 1, none⟩ y').setCell ⟨b, 2, none⟩ z').setCell ⟨b, 3, none⟩ u').heap[b]? = some (.cells #[x', y', z', u'] T (0, 0)) := by
  have h0 := row_set h 0 x'
  have h1 := row_set h0 1 y'
  have h2 := row_set h1 2 z'
  have h3 := row_set h2 3 u'
  rw [h3]
  rfl
theorem set4c {w : World} {b : Nat} {x y z u : Value} {T : TypeId} (h : w.heap[b]? = some (.cells #[x, y, z, u] T (0, 0))) (x' y' z' u' : Value) :
    (w.setCell ⟨b, 0, none⟩ x').cell? ⟨b, 0, none⟩ = some x' ∧ ((w.setCell ⟨b, 0, none⟩ x').setCell ⟨b, 1, none⟩ y').cell? ⟨b, 1, none⟩ = some y' ∧
    (((w.setCell ⟨b, 0, none⟩ x').setCell ⟨b, 1, none⟩ y').setCell ⟨b, 2, none⟩ z').cell? ⟨b, 2, none⟩ = some z' ∧
    ((((w.setCell ⟨b, 0, none⟩ x').setCell ⟨b, 1, none⟩ y').setCell ⟨b, 2, none⟩ z').setCell ⟨b, 3, none⟩ u').cell? ⟨b, 3, none⟩ = some u' := by
  have h0 := row_set h 0 x'
  have h1 := row_set h0 1 y'
  have h2 := row_set h1 2 z'
  have h3 := row_set h2 3 u'
  exact ⟨row_cell h0 0, row_cell h1 1, row_cell h2 2, row_cell h3 3⟩
theorem put2 {w : World} {b : Nat} {x y z u : Value} {T : TypeId} (h : w.heap[b]? = some (.cells #[x, y, z, u] T (0, 0))) (v : Value) : (w.setCell ⟨b, 2, none⟩ v).heap[b]? = some (.cells #[x, y, v, u] T (0, 0)) := row_set h 2 v
theorem put3 {w : World} {b : Nat} {x y z u : Value} {T : TypeId} (h : w.heap[b]? = some (.cells #[x, y, z, u] T (0, 0))) (v : Value) : (w.setCell ⟨b, 3, none⟩ v).heap[b]? = some (.cells #[x, y, z, v] T (0, 0)) := row_set h 3 v
theorem two_new (w : World) (o1 o2 : Obj) : ((w.alloc o1).alloc o2).heap[w.heap.size]? = some o1 ∧ ((w.alloc o1).alloc o2).heap[w.heap.size + 1]? = some o2 := by
  refine ⟨row_old (row_new w o1) o2, ?_⟩
  have := row_new (w.alloc o1) o2
  simpa using this
end Go.Proofs.Ytpjhdpfaogdboaa
/- Lock: plain owners; an owner and the table in memory. -/
namespace Go.Proofs.Ytpjhdpfaogdboaa
set_option linter.unusedSimpArgs false
set_option linter.unusedVariables false
open Go.RowKit
abbrev ptr (b : Nat) : Value := .pointer (some ⟨b, 0, none⟩)
/-- what is wanted, or held: vertex and mode -/
abbrev Wt := Int × Int
def wcell (x : Wt) : List Value := [.int .u32 x.1, .int .u8 x.2]
def wcells (l : List Wt) : List Value := l.flatMap wcell
theorem wcells_len (l : List Wt) : (wcells l).length = l.length * 2 := by
  induction l with
  | nil => rfl
  | cons x l ih => show (wcell x ++ wcells l).length = _; rw [List.length_append, ih]; simp [wcell]; omega
theorem wcells_one (l : List Wt) : ∀ u ∈ wcells l, u.oneCell' = true := by
  intro u hu
  simp only [wcells, List.mem_flatMap, wcell, List.mem_cons, List.not_mem_nil, or_false] at hu
  obtain ⟨x, _, rfl | rfl⟩ := hu <;> rfl
theorem wcells_at : ∀ (l : List Wt) (i : Nat) (x : Wt), l[i]? = some x → (wcells l)[i * 2]? = some (.int .u32 x.1) ∧ (wcells l)[i * 2 + 1]? = some (.int .u8 x.2)
  | [], i, x, h => by simp at h
  | y :: l, 0, x, h => by simp at h; subst h; exact ⟨rfl, rfl⟩
  | y :: l, i + 1, x, h => by
    have ih := wcells_at l i x (by simpa using h)
    have e : wcells (y :: l) = .int .u32 y.1 :: .int .u8 y.2 :: wcells l := rfl
    rw [e, show (i + 1) * 2 = i * 2 + 1 + 1 by omega]
    simpa using ih
structure Ow where
  tx : Tx
  age : Int
  lk : List Wt
  ws : List Wt
  fast : Bool
deriving Inhabited
def Ow.key (o : Ow) : Int × Tx := (o.age, o.tx)
/-- the mode of a vertex -/
def lkw : List Wt → Int → Option Int
  | [], _ => none
  | (a, m) :: r, k => if k = a then some m else lkw r k
def clash (a b : List Wt) : Bool := a.any fun x => b.any fun y => decide (x.1 = y.1) && (decide (x.2 = 2) || decide (y.2 = 2))
/-- a lock more -/
def addW : List Wt → Wt → List Wt
  | [], w => [w]
  | x :: l, w => if x.1 = w.1 then (x.1, max x.2 w.2) :: l else if w.1 < x.1 then w :: x :: l else x :: addW l w
def Ris (l : List Wt) : Prop := l.Pairwise fun x y => x.1 < y.1
/-- of the form -/
def Fm (l : List Wt) : Prop := ∀ x ∈ l, 1 ≤ x.1 ∧ x.1 ≤ 40 ∧ (x.2 = 1 ∨ x.2 = 2)
structure OkO (o : Ow) : Prop where
  r : Ris o.lk
  f : Fm o.lk
  g : Fm o.ws
  n : (o.ws.map (·.1)).Nodup
theorem addW_mem (w : Wt) : ∀ (l : List Wt) (x : Wt), x ∈ addW l w → x ∈ l ∨ x = w ∨ ∃ y ∈ l, y.1 = w.1 ∧ x = (y.1, max y.2 w.2)
  | [], x, h => by simp [addW] at h; exact .inr (.inl h)
  | y :: l, x, h => by
    unfold addW at h
    split at h
    · rename_i e
      rcases List.mem_cons.1 h with h | h
      · exact .inr (.inr ⟨y, List.mem_cons_self, e, h⟩)
      · exact .inl (List.mem_cons_of_mem _ h)
    · split at h
      · rcases List.mem_cons.1 h with h | h
        · exact .inr (.inl h)
        · exact .inl h
      · rcases List.mem_cons.1 h with h | h
        · exact .inl (by rw [h]; exact List.mem_cons_self)
        · rcases addW_mem w l x h with h | h | ⟨z, hz, e⟩
          · exact .inl (List.mem_cons_of_mem _ h)
          · exact .inr (.inl h)
          · exact .inr (.inr ⟨z, List.mem_cons_of_mem _ hz, e⟩)
theorem addW_key (w : Wt) (l : List Wt) (x : Wt) (h : x ∈ addW l w) : x.1 = w.1 ∨ x ∈ l := by
  rcases addW_mem w l x h with h | h | ⟨y, _, e, h⟩
  · exact .inr h
  · exact .inl (by rw [h])
  · exact .inl (by rw [h]; exact e)
theorem addW_ris (w : Wt) : ∀ l : List Wt, Ris l → Ris (addW l w)
  | [], _ => by simp [addW, Ris]
  | y :: l, h => by
    unfold Ris at h ⊢
    have h1 := (List.pairwise_cons.1 h).1
    have h2 := (List.pairwise_cons.1 h).2
    unfold addW
    split
    · exact List.pairwise_cons.2 ⟨h1, h2⟩
    · split
      · rename_i h3
        refine List.pairwise_cons.2 ⟨fun a ha => ?_, h⟩
        rcases List.mem_cons.1 ha with rfl | ha
        · exact h3
        · have := h1 a ha; omega
      · rename_i h3 h4
        refine List.pairwise_cons.2 ⟨fun a ha => ?_, addW_ris w l h2⟩
        rcases addW_key w l a ha with e | e
        · omega
        · exact h1 a e
theorem addW_fm (w : Wt) (l : List Wt) (h : Fm l) (hw : 1 ≤ w.1 ∧ w.1 ≤ 40 ∧ (w.2 = 1 ∨ w.2 = 2)) : Fm (addW l w) := fun x hx => by
  rcases addW_mem w l x hx with h1 | h1 | ⟨y, hy, e, h1⟩
  · exact h x h1
  · rw [h1]; exact hw
  · have := h y hy
    rw [h1]
    refine ⟨this.1, this.2.1, ?_⟩
    show max y.2 w.2 = 1 ∨ max y.2 w.2 = 2
    omega
theorem lkw_none {l : List Wt} {k : Int} (h : ∀ x ∈ l, x.1 ≠ k) : lkw l k = none := by
  induction l with
  | nil => rfl
  | cons x l ih =>
    obtain ⟨a, m⟩ := x
    unfold lkw
    rw [if_neg (fun e => h (a, m) List.mem_cons_self e.symm)]
    exact ih fun y hy => h y (List.mem_cons_of_mem _ hy)
theorem lkw_add (w : Wt) : ∀ (l : List Wt), Ris l → ∀ k, lkw (addW l w) k = if k = w.1 then some (match lkw l w.1 with | some m => max m w.2 | none => w.2) else lkw l k
  | [], _, k => by
    obtain ⟨a, m⟩ := w
    simp only [addW, lkw]
  | (y, m) :: l, h, k => by
    have h1 := (List.pairwise_cons.1 h).1
    have ih := lkw_add w l (List.pairwise_cons.1 h).2 k
    unfold addW
    by_cases e1 : y = w.1
    · simp only [e1, if_true, lkw]
      by_cases e2 : k = w.1
      · simp [e2]
      · simp [e2]
    · simp only [if_neg e1]
      by_cases e3 : w.1 < y
      · simp only [if_pos e3]
        have hn : lkw ((y, m) :: l) w.1 = none := lkw_none fun x hx e => by
          rcases List.mem_cons.1 hx with rfl | hx
          · exact e1 e
          · have := h1 x hx; simp only at this; omega
        rw [hn]
        obtain ⟨a, b⟩ := w
        show (if k = a then some b else lkw ((y, m) :: l) k) = _
        rfl
      · have e4 : ¬ w.1 = y := fun e => e1 e.symm
        simp only [if_neg e3, lkw, if_neg e4, ih]
        by_cases e2 : k = y
        · have e5 : ¬ k = w.1 := fun e => e1 (e2.symm.trans e)
          simp only [if_pos e2, if_neg e5]
        · simp only [if_neg e2]
theorem addW_len (w : Wt) : ∀ (l : List Wt), Ris l → (addW l w).length = if (lkw l w.1).isSome then l.length else l.length + 1
  | [], _ => by simp [addW, lkw]
  | (y, m) :: l, h => by
    have h1 := (List.pairwise_cons.1 h).1
    have ih := addW_len w l (List.pairwise_cons.1 h).2
    unfold addW
    by_cases e1 : y = w.1
    · simp only [e1, if_true, lkw, Option.isSome_some, List.length_cons]
    · simp only [if_neg e1]
      by_cases e3 : w.1 < y
      · have hn : lkw ((y, m) :: l) w.1 = none := lkw_none fun x hx e => by
          rcases List.mem_cons.1 hx with rfl | hx
          · exact e1 e
          · have := h1 x hx; simp only at this; omega
        simp [if_pos e3, hn]
      · have e4 : ¬ w.1 = y := fun e => e1 e.symm
        simp only [if_neg e3, List.length_cons, ih, lkw, if_neg e4]
        split <;> omega
/-! ### in memory -/
def LkE (E : List (Int × Value)) (lk : List Wt) : Prop := (∀ k, look E k = (lkw lk k).map (Value.int .u8)) ∧ E.length = lk.length
/-- where an owner lies -/
structure Ad where
  ob : Nat
  lb : Nat
  wa : Option Addr
  wc : Nat
abbrev owRow (a : Ad) (o : Ow) : Obj := .cells #[.int .u8 o.tx.1, .int .u32 o.tx.2.1, .int .u32 o.tx.2.2, .int .u64 o.age, .map (some a.lb), .slice a.wa o.ws.length a.wc, .bool o.fast] 68 (0, 0)
structure OwIn (O : Nat → Prop) (w : World) (a : Ad) (o : Ow) : Prop where
  obj : w.heap[a.ob]? = some (owRow a o)
  map : ∃ E, MapIs w a.lb .u32 E ∧ LkE E o.lk
  ws : Lies (fun i => ¬ O i ∨ i = a.lb ∨ i = a.ob) w 2 (.slice a.wa o.ws.length a.wc) o.ws.length (wcells o.ws)
  own : O a.ob ∧ O a.lb
theorem OwIn.kept {O F : Nat → Prop} {w w' : World} {a : Ad} {o : Ow} (h : OwIn O w a o) (k : Kept F w w') (hF : ∀ i, i < w.heap.size → O i → ¬ F i) : OwIn O w' a o where
  obj := (k.block _ (row_lt h.obj) (hF _ (row_lt h.obj) h.own.1)).trans h.obj
  map := by
    obtain ⟨E, hm, hl⟩ := h.map
    exact ⟨E, hm.of_block (k.block _ hm.lt (hF _ hm.lt h.own.2)), hl⟩
  ws := h.ws.kept k (fun g hg hf => .inl fun ho => hF g hg ho hf)
  own := h.own
theorem OwIn.same {O : Nat → Prop} {w w' : World} {a : Ad} {o : Ow} (h : OwIn O w a o) (k : Kept (fun _ => False) w w') : OwIn O w' a o := h.kept k (fun _ _ _ => id)
theorem OwIn.mono {O Q : Nat → Prop} {w : World} {a : Ad} {o : Ow} (h : OwIn O w a o) (hq : ∀ i, i < w.heap.size → O i → Q i) : OwIn Q w a o where
  obj := h.obj
  map := h.map
  ws := h.ws.mono (fun g hg hn => hn.imp (fun h ho => h (hq g hg ho)) id)
  own := by
    obtain ⟨E, hm, _⟩ := h.map
    exact ⟨hq _ (row_lt h.obj) h.own.1, hq _ hm.lt h.own.2⟩
theorem cells7 {w : World} {b T : Nat} {x0 x1 x2 x3 x4 x5 x6 : Value} (h : w.heap[b]? = some (.cells #[x0, x1, x2, x3, x4, x5, x6] T (0, 0))) : w.cell? ⟨b, 0, none⟩ = some x0 ∧ w.cell? ⟨b, 1, none⟩ = some x1 ∧ w.cell? ⟨b, 2, none⟩ = some x2 ∧ w.cell? ⟨b, 3, none⟩ = some x3 ∧ w.cell? ⟨b, 4, none⟩ = some x4 ∧ w.cell? ⟨b, 5, none⟩ = some x5 ∧ w.cell? ⟨b, 6, none⟩ = some x6 :=
  ⟨by rw [row_cell h]; rfl, by rw [row_cell h]; rfl, by rw [row_cell h]; rfl, by rw [row_cell h]; rfl, by rw [row_cell h]; rfl, by rw [row_cell h]; rfl, by rw [row_cell h]; rfl⟩
/-- the table: its owners, the oldest first; where they lie (own: whose a block is) -/
structure Tab (own : Nat → Option Tx) (B : Nat) (w : World) (tb mb : Nat) (L : List Ow) (A : Tx → Ad) : Prop where
  obj : w.heap[tb]? = some (.cells #[.map (some mb)] 63 (0, 0))
  map : ∃ M : List Ow, MapT w mb (M.map fun o => (o.tx, ptr (A o.tx).ob)) ∧ M.Perm L
  ows : ∀ o ∈ L, OwIn (fun i => own i = some o.tx) w (A o.tx) o
  top : own tb = none ∧ own mb = none
  new : ∀ i, w.heap.size ≤ i → own i = none
  low : B ≤ tb ∧ B ≤ mb ∧ ∀ i t, own i = some t → B ≤ i
  srt : L.Pairwise fun x y => ltO x.key y.key
  ok : ∀ o ∈ L, OkO o
section
variable {own : Nat → Option Tx} {B : Nat} {w w' : World} {tb mb : Nat} {L : List Ow} {A : Tx → Ad}
theorem Tab.nodup (h : Tab own B w tb mb L A) : (L.map (·.tx)).Nodup := by
  obtain ⟨M, ⟨_, _, _, _, hn, _⟩, hp⟩ := h.map
  rw [List.map_map] at hn
  exact (hp.map (·.tx)).nodup_iff.1 hn
theorem Tab.mlt (h : Tab own B w tb mb L A) : mb < w.heap.size := by
  obtain ⟨M, hm, _⟩ := h.map
  exact hm.lt
theorem Tab.ne (h : Tab own B w tb mb L A) : tb ≠ mb := fun e => by
  obtain ⟨M, ⟨es, c, hm, _⟩, _⟩ := h.map
  have := h.obj
  rw [e, hm] at this
  cases this
/-- what writes nothing of it -/
theorem Tab.kept {F : Nat → Prop} (h : Tab own B w tb mb L A) (k : Kept F w w') (hF : ∀ i, i < w.heap.size → F i → own i = none ∧ i ≠ tb ∧ i ≠ mb) : Tab own B w' tb mb L A where
  obj := (k.block _ (row_lt h.obj) (fun hf => (hF _ (row_lt h.obj) hf).2.1 rfl)).trans h.obj
  map := by
    obtain ⟨M, hm, hp⟩ := h.map
    exact ⟨M, hm.of_block (k.block _ hm.lt (fun hf => (hF _ hm.lt hf).2.2 rfl)), hp⟩
  ows := fun o ho => (h.ows o ho).kept k (fun i hi ho hf => by rw [(hF i hi hf).1] at ho; cases ho)
  top := h.top
  new := fun i hi => h.new i (Nat.le_trans k.size hi)
  low := h.low
  srt := h.srt
  ok := h.ok
theorem Tab.same (h : Tab own B w tb mb L A) (k : Kept (fun _ => False) w w') : Tab own B w' tb mb L A := h.kept k (fun _ _ h => h.elim)
theorem Tab.under {F : Nat → Prop} (h : Tab own B w tb mb L A) (k : Kept F w w') (hF : ∀ i, F i → i < B) : Tab own B w' tb mb L A := h.kept k fun i _ hf => by
  have hb := hF i hf
  refine ⟨?_, fun e => ?_, fun e => ?_⟩
  · cases ho : own i with
    | none => rfl
    | some t => have := h.low.2.2 i t ho; omega
  · have := h.low.1; omega
  · have := h.low.2.1; omega
/-- the owner of a number -/
def findO (L : List Ow) (t : Tx) : Option Ow := L.find? fun o => decide (o.tx = t)
theorem findO_mem {t : Tx} {o : Ow} (h : findO L t = some o) : o ∈ L ∧ o.tx = t := by
  refine ⟨List.mem_of_find?_eq_some h, ?_⟩
  have := List.find?_some h
  simpa using this
theorem findO_none {t : Tx} (h : findO L t = none) : ∀ o ∈ L, o.tx ≠ t := fun o ho => by
  have := List.find?_eq_none.1 h o ho
  simpa using this
theorem findO_of (hn : (L.map (·.tx)).Nodup) {o : Ow} (ho : o ∈ L) : findO L o.tx = some o := by
  induction L with
  | nil => cases ho
  | cons x L ih =>
    simp only [List.map_cons, List.nodup_cons] at hn
    unfold findO
    rw [List.find?_cons]
    rcases List.mem_cons.1 ho with rfl | ho
    · simp
    · have : ¬ x.tx = o.tx := fun e => hn.1 (by rw [e]; exact List.mem_map.2 ⟨o, ho, rfl⟩)
      simp only [this, decide_false]
      exact ih hn.2 ho
theorem lookT_map (t : Tx) : ∀ M : List Ow, lookT (M.map fun o => (o.tx, ptr (A o.tx).ob)) t = (findO M t).map (fun _ => ptr (A t).ob)
  | [] => rfl
  | x :: M => by
    simp only [List.map_cons, lookT, findO, List.find?_cons]
    by_cases h : t = x.tx
    · subst h; simp
    · have : ¬ x.tx = t := fun e => h e.symm
      simp only [h, if_false, this, decide_false]
      exact lookT_map t M
theorem findO_perm {M : List Ow} (hp : M.Perm L) (hn : (L.map (·.tx)).Nodup) (t : Tx) : findO M t = findO L t := by
  cases h : findO L t with
  | none =>
    cases h2 : findO M t with
    | none => rfl
    | some o =>
      obtain ⟨h3, h4⟩ := findO_mem h2
      exact absurd h4 (findO_none h o (hp.mem_iff.1 h3))
  | some o =>
    obtain ⟨h3, h4⟩ := findO_mem h
    have hn' : (M.map (·.tx)).Nodup := (hp.map (·.tx)).nodup_iff.2 hn
    rw [← h4]
    exact findO_of hn' (hp.mem_iff.2 h3)
theorem Tab.cell (h : Tab own B w tb mb L A) : w.cell? ⟨tb, 0, none⟩ = some (.map (some mb)) := by rw [row_cell h.obj]; rfl
/-- m[t], m known -/
theorem Tab.look (h : Tab own B w tb mb L A) (t1 t2 t3 : Int) : ∃ M : List Ow, MapT w mb (M.map fun o => (o.tx, ptr (A o.tx).ob)) ∧ lookT (M.map fun o => (o.tx, ptr (A o.tx).ob)) (t1, t2, t3) = (findO L (t1, t2, t3)).map (fun _ => ptr (A (t1, t2, t3)).ob) := by
  obtain ⟨M, hm, hp⟩ := h.map
  exact ⟨M, hm, by rw [lookT_map, findO_perm hp h.nodup]⟩
end
end Go.Proofs.Ytpjhdpfaogdboaa
