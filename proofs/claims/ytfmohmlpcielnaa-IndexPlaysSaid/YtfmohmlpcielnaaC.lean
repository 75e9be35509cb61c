/- Items and pages in memory; cmp.Compare, the closures, the two searches. -/
import Derived.Test.YtfmohmlpcielnaaB
import Derived.Test.YtfmohmlpcielnaaHold
import Derived.Test.YtfmohmlpcielnaaZer
namespace Go.Proofs.Ytfmohmlpcielnaa
open Go.RowKit

abbrev It := Int × Int
def icell (x : It) : List Value := [.int .u64 x.1, .int .u64 x.2]
def icells (l : List It) : List Value := l.flatMap icell
theorem icells_len (l : List It) : (icells l).length = l.length * 2 := by
  induction l with
  | nil => rfl
  | cons x l ih => simp [icells, icell, List.flatMap_cons] at ih ⊢; omega
theorem icells_one (l : List It) : ∀ u ∈ icells l, u.oneCell' = true := by
  intro u hu
  simp only [icells, List.mem_flatMap, icell] at hu
  obtain ⟨x, _, hx⟩ := hu
  simp at hx
  rcases hx with rfl | rfl <;> rfl
theorem icells_at : ∀ (l : List It) (i : Nat) (x : It), l[i]? = some x → (icells l)[i * 2]? = some (.int .u64 x.1) ∧ (icells l)[i * 2 + 1]? = some (.int .u64 x.2)
  | y :: l, 0, x, h => by simp at h; subst h; simp [icells, icell]
  | y :: l, i + 1, x, h => by
    have := icells_at l i x (by simpa using h)
    have e : ∀ k, (icells (y :: l))[k + 2]? = (icells l)[k]? := fun k => by simp [icells, icell, List.flatMap_cons]
    rw [show (i + 1) * 2 = i * 2 + 2 from by omega, show i * 2 + 2 + 1 = i * 2 + 1 + 2 from by omega, e, e]
    exact this
theorem icells_append (l m : List It) : icells (l ++ m) = icells l ++ icells m := by simp [icells]
theorem icells_take : ∀ (l : List It) (n : Nat), (icells l).take (n * 2) = icells (l.take n)
  | [], n => by simp [icells]
  | x :: l, 0 => by simp [icells]
  | x :: l, n + 1 => by
    have := icells_take l n
    simp only [icells, List.flatMap_cons, List.take_succ_cons] at this ⊢
    rw [show (n + 1) * 2 = (icell x).length + n * 2 from by simp [icell]; omega, List.take_length_add_append, this]
theorem icells_drop : ∀ (l : List It) (n : Nat), (icells l).drop (n * 2) = icells (l.drop n)
  | [], n => by simp [icells]
  | x :: l, 0 => by simp [icells]
  | x :: l, n + 1 => by
    have := icells_drop l n
    simp only [icells, List.flatMap_cons, List.drop_succ_cons] at this ⊢
    rw [show (n + 1) * 2 = (icell x).length + n * 2 from by simp [icell]; omega, List.drop_length_add_append, this]

def cmpI (a b : Int) : Int := if a < b then -1 else if b < a then 1 else 0
set_option maxHeartbeats 400000 in
theorem nan_any (a : Int) (w : World) : Calls Try.prog 43 #[.int .u64 a] w fun e w' => e = .returned (.bool false) ∧ w = w' := by
  have h : (a != a) = false := by simp
  go_enter Try.func43, Try.ntmps43
  go_wp2
  go_ret
  exact ⟨rfl, rfl⟩
set_option maxHeartbeats 400000 in
theorem compare_any (a b : Int) (w : World) : Calls Try.prog 35 #[.int .u64 a, .int .u64 b] w fun e w' => e = .returned (.int .i64 (cmpI a b)) ∧ w = w' := by
  by_cases h : a < b
  · go_enter Try.func35, Try.ntmps35
    go_wp2_with fail
    refine (nan_any _ _).mono ?_; rintro e w' ⟨rfl, rfl⟩
    go_wp2_with fail
    refine (nan_any _ _).mono ?_; rintro e w' ⟨rfl, rfl⟩
    go_wp2
    go_ret
    exact ⟨ret_int (by simp [cmpI]; omega), rfl⟩
  · by_cases h2 : b < a
    · go_enter Try.func35, Try.ntmps35
      go_wp2_with fail
      refine (nan_any _ _).mono ?_; rintro e w' ⟨rfl, rfl⟩
      go_wp2_with fail
      refine (nan_any _ _).mono ?_; rintro e w' ⟨rfl, rfl⟩
      go_wp2
      go_ret
      exact ⟨ret_int (by simp [cmpI]; omega), rfl⟩
    · go_enter Try.func35, Try.ntmps35
      go_wp2_with fail
      refine (nan_any _ _).mono ?_; rintro e w' ⟨rfl, rfl⟩
      go_wp2_with fail
      refine (nan_any _ _).mono ?_; rintro e w' ⟨rfl, rfl⟩
      go_wp2
      go_ret
      exact ⟨ret_int (by simp [cmpI]; omega), rfl⟩
set_option maxHeartbeats 400000 in
theorem item_any (a b n : Int) (w : World) : Calls Try.prog 34 #[.agg #[.int .u64 a, .int .u64 b], .int .u64 n] w fun e w' => e = .returned (.int .i64 (cmpI a n)) ∧ Kept (fun _ => False) w w' := by
  go_enter Try.func34, Try.ntmps34
  go_wp2_with fail
  refine (compare_any _ _ _).mono ?_; rintro e w' ⟨rfl, rfl⟩
  go_wp2
  go_ret
  exact ⟨rfl, (Kept.refl _ _).alloc _⟩

/-- a page at pb: its items are L -/
structure PgAt (w : World) (pb : Nat) (v : Value) (L : List It) : Prop where
  r : w.heap[pb]? = some (.cells #[v] 68 (0, 0))
  s : Seg w 33 2 v L.length (icells L)
theorem PgAt.kept {K : Nat → Prop} {w w' : World} {pb : Nat} {v : Value} {L : List It} (h : PgAt w pb v L) (k : Kept K w w') (hp : ¬ K pb) (hv : ∀ g, v.ownBlock = some g → ¬ K g) : PgAt w' pb v L :=
  ⟨(k.block _ (row_lt h.r) hp).trans h.r, h.s.kept k hv⟩
theorem PgAt.same {w w' : World} {pb : Nat} {v : Value} {L : List It} (h : PgAt w pb v L) (k : Kept (fun _ => False) w w') : PgAt w' pb v L := h.kept k id (fun _ _ h => h)
def lastK (L : List It) : Int := match L.getLast? with | some x => x.1 | none => 0
theorem lastK_at {L : List It} (h : 0 < L.length) : ∃ x, L[L.length - 1]? = some x ∧ lastK L = x.1 := by
  refine ⟨L[L.length - 1], by simp, ?_⟩
  unfold lastK
  rw [List.getLast?_eq_getElem?, List.getElem?_eq_getElem (by omega)]
set_option maxRecDepth 100000 in
set_option maxHeartbeats 1000000 in
theorem last_any {w : World} {pb : Nat} {v : Value} {L : List It} (h : PgAt w pb v L) (hL : 0 < L.length) :
    Calls Try.prog 42 #[.pointer (some ⟨pb, 0, none⟩)] w fun e w' => e = .returned (.int .u64 (lastK L)) ∧ Kept (fun _ => False) w w' := by
  obtain ⟨x, hx, hl⟩ := lastK_at hL
  obtain ⟨g, cap, rfl, q1, q2⟩ := h.s.some_of_pos hL
  unfold maxLen at q2
  have c0 : w.cell? ⟨pb, 0, none⟩ = some (.slice (some ⟨g, 0, none⟩) L.length cap) := row_cell h.r 0
  have c1 : w.cell? ⟨g, (L.length - 1) * 2, none⟩ = some (.int .u64 x.1) := by
    have h1 := (icells_at L _ x hx).1
    obtain ⟨hj, e⟩ := List.getElem?_eq_some_iff.1 h1
    rw [h.s.cells rfl _ hj, e]
  have hli : ((L.length : Int) - 1) = ((L.length - 1 : Nat) : Int) := by omega
  obtain ⟨m, hm⟩ : ∃ m, L.length - 1 = m := ⟨_, rfl⟩
  have hml : m < L.length := by omega
  rw [hm] at c1 hli
  rw [hl]
  have wm : IntKind.i64.wrap (m : Int) = (m : Int) := IntWalk.i64_in _ (by omega)
  clear hx hl h hm
  go_enter Try.func42, Try.ntmps42
  go_wp2_with fail
  refine wp_region_till (fun w' => w'.cell? ⟨pb, 0, none⟩ = some (.slice (some ⟨g, 0, none⟩) L.length cap) ∧ w'.cell? ⟨g, m * 2, none⟩ = some (.int .u64 x.1)) 13 (by kernel_rfl) (by exact ⟨c0, c1⟩) (fun hHeld => ?_)
  refine till_pure 0 (some 3) (v := ?v100) (by decide) rfl (by kernel_rfl) (by kernel_rfl) (by kernel_rfl) (by kernel_rfl) (by decide) (fun _ _ _ h => h) (Or.inl ⟨by rfl, ?y100⟩) (by assumption) ?r100
  case y100 => (intro w hSw; clear hSw; go_simp; (try with_reducible rfl))
  simp only [Act.put, List.setIfInBounds_toArray, List.set_cons_zero, List.set_cons_succ]
  refine till_pure 1 (some 4) (v := ?v101) (by decide) rfl (by kernel_rfl) (by kernel_rfl) (by kernel_rfl) (by kernel_rfl) (by decide) (fun _ _ _ h => h) (Or.inl ⟨by rfl, ?y101⟩) (by assumption) ?r101
  case y101 => (intro w hSw; clear hSw; go_simp; (try with_reducible rfl))
  simp only [Act.put, List.setIfInBounds_toArray, List.set_cons_zero, List.set_cons_succ]
  refine till_pure 2 (some 5) (v := ?v102) (by decide) rfl (by kernel_rfl) (by kernel_rfl) (by kernel_rfl) (by kernel_rfl) (by decide) (fun _ _ _ h => h) (Or.inl ⟨by rfl, ?y102⟩) (by assumption) ?r102
  case y102 => (intro w hSw; clear hSw; go_simp; (try with_reducible rfl))
  simp only [Act.put, List.setIfInBounds_toArray, List.set_cons_zero, List.set_cons_succ]
  refine till_load 3 (some 6) [12, 11, 10] (v := ?v103) (by decide) rfl (by kernel_rfl) (by kernel_rfl) (by kernel_rfl) (by kernel_rfl) (by kernel_rfl) (by decide) (by decide) (fun _ _ _ h => h) (Or.inl ⟨by rfl, ?y103⟩) (by assumption) ?r103
  case y103 => (intro w hSw; (try dsimp only at hSw); go_simp; (try with_reducible rfl))
  simp only [Act.put, List.setIfInBounds_toArray, List.set_cons_zero, List.set_cons_succ]
  refine till_pure 4 (some 7) (v := ?v104) (by decide) rfl (by kernel_rfl) (by kernel_rfl) (by kernel_rfl) (by kernel_rfl) (by decide) (fun _ _ _ h => h) (Or.inl ⟨by rfl, ?y104⟩) (by assumption) ?r104
  case y104 => (intro w hSw; clear hSw; go_simp; (try with_reducible rfl))
  simp only [Act.put, List.setIfInBounds_toArray, List.set_cons_zero, List.set_cons_succ]
  refine till_pure 5 (some 8) (v := ?v105) (by decide) rfl (by kernel_rfl) (by kernel_rfl) (by kernel_rfl) (by kernel_rfl) (by decide) (fun _ _ _ h => h) (Or.inl ⟨by rfl, ?y105⟩) (by assumption) ?r105
  case y105 => (intro w hSw; clear hSw; go_simp; (try with_reducible rfl))
  simp only [Act.put, List.setIfInBounds_toArray, List.set_cons_zero, List.set_cons_succ]
  refine till_pure 6 (some 9) (v := ?v106) (by decide) rfl (by kernel_rfl) (by kernel_rfl) (by kernel_rfl) (by kernel_rfl) (by decide) (fun _ _ _ h => h) (Or.inl ⟨by rfl, ?y106⟩) (by assumption) ?r106
  case y106 => (intro w hSw; clear hSw; go_simp; (try with_reducible rfl))
  simp only [Act.put, List.setIfInBounds_toArray, List.set_cons_zero, List.set_cons_succ]
  refine till_load 7 (some 10) [12, 11, 10, 9, 8] (v := ?v107) (by decide) rfl (by kernel_rfl) (by kernel_rfl) (by kernel_rfl) (by kernel_rfl) (by kernel_rfl) (by decide) (by decide) (fun _ _ _ h => h) (Or.inl ⟨by rfl, ?y107⟩) (by assumption) ?r107
  case y107 => (intro w hSw; (try dsimp only at hSw); go_simp; (try with_reducible rfl))
  simp only [Act.put, List.setIfInBounds_toArray, List.set_cons_zero, List.set_cons_succ]
  refine till_pure 8 (some 11) (v := ?v108) (by decide) rfl (by kernel_rfl) (by kernel_rfl) (by kernel_rfl) (by kernel_rfl) (by decide) (fun _ _ _ h => h) (Or.inl ⟨by rfl, ?y108⟩) (by assumption) ?r108
  case y108 => (intro w hSw; clear hSw; go_simp; (try with_reducible rfl))
  simp only [Act.put, List.setIfInBounds_toArray, List.set_cons_zero, List.set_cons_succ]
  refine till_pure 9 (some 12) (v := ?v109) (by decide) rfl (by kernel_rfl) (by kernel_rfl) (by kernel_rfl) (by kernel_rfl) (by decide) (fun _ _ _ h => h) (Or.inl ⟨by rfl, ?y109⟩) (by assumption) ?r109
  case y109 => (intro w hSw; clear hSw; go_simp; (try with_reducible rfl))
  simp only [Act.put, List.setIfInBounds_toArray, List.set_cons_zero, List.set_cons_succ]
  refine till_pure 10 (some 13) (v := ?v110) (by decide) rfl (by kernel_rfl) (by kernel_rfl) (by kernel_rfl) (by kernel_rfl) (by decide) (fun _ _ _ h => h) (Or.inl ⟨by rfl, ?y110⟩) (by assumption) ?r110
  case y110 => (intro w hSw; clear hSw; go_simp; (try with_reducible rfl))
  simp only [Act.put, List.setIfInBounds_toArray, List.set_cons_zero, List.set_cons_succ]
  refine till_pure 11 (some 14) (v := ?v111) (by decide) rfl (by kernel_rfl) (by kernel_rfl) (by kernel_rfl) (by kernel_rfl) (by decide) (fun _ _ _ h => h) (Or.inl ⟨by rfl, ?y111⟩) (by assumption) ?r111
  case y111 => (intro w hSw; clear hSw; go_simp; (try with_reducible rfl))
  simp only [Act.put, List.setIfInBounds_toArray, List.set_cons_zero, List.set_cons_succ]
  refine till_load 12 (some 15) [] (v := ?v112) (by decide) rfl (by kernel_rfl) (by kernel_rfl) (by kernel_rfl) (by kernel_rfl) (by kernel_rfl) (by decide) (by decide) (fun _ _ _ h => h) (Or.inl ⟨by rfl, ?y112⟩) (by assumption) ?r112
  case y112 => (intro w hSw; (try dsimp only at hSw); go_simp; (try with_reducible rfl))
  simp only [Act.put, List.setIfInBounds_toArray, List.set_cons_zero, List.set_cons_succ]
  refine till_list [] (by kernel_rfl) (by kernel_rfl) (by decide) (by decide) ?_
  simp only [pickOps, List.getElem?_toArray, List.getElem?_cons_zero, List.getElem?_cons_succ]
  clear hHeld
  go_wp2
  go_ret
  exact ⟨rfl, (Kept.refl _ _).drew⟩
set_option maxHeartbeats 1000000 in
theorem order_any {w : World} {pb : Nat} {v : Value} {L : List It} (h : PgAt w pb v L) (hL : 0 < L.length) (n : Int) :
    Calls Try.prog 32 #[.pointer (some ⟨pb, 0, none⟩), .int .u64 n] w fun e w' => e = .returned (.int .i64 (cmpI (lastK L) n)) ∧ Kept (fun _ => False) w w' := by
  have H := hid h; clear h
  go_enter Try.func32, Try.ntmps32
  go_wp2_with fail
  refine (last_any H.out hL).mono ?_; rintro e w1 ⟨rfl, hk⟩
  have K1 := hid hk; clear hk
  go_wp2_with fail
  refine (compare_any _ _ _).mono ?_; rintro e w' ⟨rfl, rfl⟩
  go_wp2
  go_ret
  exact ⟨rfl, K1.out⟩
end Go.Proofs.Ytfmohmlpcielnaa
