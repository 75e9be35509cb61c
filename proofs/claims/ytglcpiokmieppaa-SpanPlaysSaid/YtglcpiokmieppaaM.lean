/- Spans, Count, Free. -/
import Derived.Test.YtglcpiokmieppaaL
import Derived.Test.YtglcpiokmieppaaReg
namespace Go.Proofs.Ytglcpiokmieppaa
open Go.RowKit

set_option maxHeartbeats 1000000 in
theorem spans_nil (w : World) : Calls Try.prog 13 #[.pointer none] w fun e w' => e = .returned (.slice none 0 0) ∧ w = w' := by
  go_enter Try.func13, Try.ntmps13
  go_wp2
  go_ret
  exact ⟨rfl, rfl⟩
set_option maxHeartbeats 1000000 in
theorem spans_any {F : Nat → Prop} {w : World} {sb : Nat} {S : List Sp} (h : SetAt F w sb S) : Calls Try.prog 13 #[.pointer (some ⟨sb, 0, none⟩)] w fun e w' => ∃ v', e = .returned v' ∧ Fresh w.heap.size w' v' S ∧ Kept (fun _ => False) w w' := by
  obtain ⟨ao, cap, g1, g2, g3⟩ := h.c
  have hn := h.n
  have c0 := row_cell g1 0
  simp at c0
  have G2 := hid g2
  clear h g1 g2 g3
  go_enter Try.func13, Try.ntmps13
  go_wp2_with fail
  refine (clone_any G2.out (by omega)).mono ?_
  rintro e w1 ⟨v, rfl, hf, hk⟩
  have HF := hid hf; have HK := hid hk; clear hf hk
  go_wp2
  go_ret
  exact ⟨_, rfl, HF.out, HK.out⟩
/-- how many numbers -/
def cntS : List Sp → Int
  | [] => 0
  | x :: l => (x.2 - x.1 + 1) + cntS l
theorem cntS_app : ∀ (l k : List Sp), cntS (l ++ k) = cntS l + cntS k
  | [], k => by simp [cntS]
  | x :: l, k => by simp only [List.cons_append, cntS, cntS_app l k]; omega
theorem cntS_bound : ∀ (l : List Sp) (lo : Int), l.Pairwise Apart → (∀ x ∈ l, lo ≤ x.1 ∧ x.1 ≤ x.2 ∧ x.2 ≤ 4294967295) → lo ≤ 4294967296 → 0 ≤ cntS l ∧ cntS l ≤ 4294967296 - lo
  | [], lo, _, _, h => by simp [cntS]; omega
  | x :: l, lo, hp, hb, h => by
    have h1 := hb x (by simp)
    have hp' := List.pairwise_cons.1 hp
    have h2 := cntS_bound l (x.2 + 1) hp'.2 (fun y hy => by have := hp'.1 y hy; have := hb y (by simp [hy]); simp only [Apart] at *; omega) (by omega)
    simp only [cntS]
    omega
theorem Good.pre {S T : List Sp} (h : Good (S ++ T)) : Good S := Good.of (fun x hx => h.b x (by simp [hx])) (List.pairwise_append.1 h.pw).1
theorem Good.cnt {S : List Sp} (h : Good S) : 0 ≤ cntS S ∧ cntS S ≤ 4294967296 := by
  have := cntS_bound S 0 h.pw h.b (by omega)
  omega
theorem Good.cnt_take {S : List Sp} (h : Good S) (k : Nat) (hk : k < S.length) : 0 ≤ cntS (S.take k) ∧ cntS (S.take k) + (S[k].2 - S[k].1 + 1) = cntS (S.take (k + 1)) ∧ cntS (S.take (k + 1)) ≤ 4294967296 := by
  have h1 : Good (S.take k) := Good.pre (T := S.drop k) (by rw [List.take_append_drop]; exact h)
  have h2 : Good (S.take (k + 1)) := Good.pre (T := S.drop (k + 1)) (by rw [List.take_append_drop]; exact h)
  refine ⟨h1.cnt.1, ?_, h2.cnt.2⟩
  rw [List.take_succ_eq_append_getElem hk, cntS_app]
  simp [cntS]
set_option maxRecDepth 100000 in
set_option maxHeartbeats 1000000 in
theorem count_nil (w : World) : Calls Try.prog 17 #[.pointer none] w fun e w' => e = .returned (.int .u64 0) ∧ w = w' := by
  go_enter Try.func17, Try.ntmps17
  go_wp2_with fail
  refine (spans_nil _).mono ?_
  rintro e w1 ⟨rfl, rfl⟩
  go_wp2_with fail
  go_loopw [3, 9] (fun n i wr => n = .int .u64 0 ∧ i = .int .i64 0 ∧ w = wr) (fun _ i _ => 0)
  case atStart => exact ⟨rfl, rfl, rfl⟩
  case round =>
    obtain ⟨rfl, rfl, rfl⟩ := hrel
    go_wp2
    go_ret
    exact ⟨rfl, rfl⟩
set_option maxRecDepth 100000 in
set_option maxHeartbeats 1000000 in
theorem count_any {F : Nat → Prop} {w : World} {sb : Nat} {S : List Sp} (h : SetAt F w sb S) : Calls Try.prog 17 #[.pointer (some ⟨sb, 0, none⟩)] w fun e w' => e = .returned (.int .u64 (cntS S)) ∧ Kept (fun _ => False) w w' := by
  have H := hid h
  have hn := h.n
  clear h
  go_enter Try.func17, Try.ntmps17
  go_wp2_with fail
  refine (spans_any H.out).mono ?_
  rintro e w1 ⟨v, rfl, ⟨ao, c, rfl, ho, hf⟩, hk⟩
  have HO := hid ho; have HK := hid hk; clear ho hk hf
  go_wp2_with fail
  go_loopw [3, 9] (fun n i wr => ∃ k : Nat, k ≤ S.length ∧ n = .int .u64 (cntS (S.take k)) ∧ i = .int .i64 k ∧ Kept (fun _ => False) w1 wr) (fun _ i _ => S.length - (intOf i).toNat)
  case atStart => exact ⟨0, Nat.zero_le _, by simp [cntS], rfl, Kept.refl _ _⟩
  case round =>
    obtain ⟨k, hkl, rfl, rfl, hk⟩ := hrel
    have HK1 := hid hk; clear hk
    by_cases hlt : k < S.length
    · obtain ⟨g, cap, e, l1, l2, y0, y1⟩ := own_at2 HO.out k hlt
      simp only [Value.slice.injEq] at e
      obtain ⟨rfl, _, rfl⟩ := e
      have z0 := HK1.out.cell y0 id
      have z1 := HK1.out.cell y1 id
      clear y0 y1
      obtain ⟨t1, t2, t3⟩ := H.out.g.cnt_take k hlt
      have hb := H.out.g.b _ (List.getElem_mem hlt)
      obtain ⟨⟨p, q⟩, hsx⟩ : ∃ sx, S[k]'hlt = sx := ⟨_, rfl⟩
      rw [hsx] at z0 z1 t2 hb
      simp only at z0 z1 t2 hb
      have HT := hid t2; clear hsx
      have w1' : IntKind.u32.wrap (q - p) = q - p := by simp [IntKind.wrap, IntKind.bits, IntKind.signed]; omega
      have w2' : IntKind.u64.wrap (q - p) = q - p := by simp [IntKind.wrap, IntKind.bits, IntKind.signed]; omega
      have w3' : IntKind.u64.wrap (q - p + 1) = q - p + 1 := by simp [IntKind.wrap, IntKind.bits, IntKind.signed]; omega
      have w4' : IntKind.u64.wrap (cntS (S.take k) + (q - p + 1)) = cntS (S.take k) + (q - p + 1) := by simp [IntKind.wrap, IntKind.bits, IntKind.signed]; omega
      clear t2
      go_wp2
      go_roundw
      case rel => exact ⟨k + 1, hlt, by rw [← HT.out], by go_num, HK1.out.alloc _⟩
      case measure => simp [intOf]; omega
    · obtain rfl : k = S.length := by omega
      have ht : S.take S.length = S := List.take_length
      go_wp2
      go_ret
      exact ⟨congrArg (fun n => Ending.returned (.int .u64 n)) (by rw [ht]), HK.out.trans HK1.out⟩
def freeV (S : List Sp) (n : Int) : Int × Bool := if hasB S n then (match S[aft S n]? with | some x => if x.2 = 4294967295 then (0, false) else (x.2 + 1, true) | none => (n, true)) else (n, true)
set_option maxHeartbeats 1000000 in
theorem free_nil (n : Int) (w : World) : Calls Try.prog 19 #[.pointer none, .int .u32 n] w fun e w' => e = .returned (.tuple #[.int .u32 n, .bool true]) ∧ w = w' := by
  go_enter Try.func19, Try.ntmps19
  go_wp2_with fail
  refine (has_nil n _).mono ?_
  rintro e w1 ⟨rfl, rfl⟩
  go_wp2
  go_ret2
  exact ⟨rfl, rfl⟩
set_option maxRecDepth 100000 in
set_option maxHeartbeats 2000000 in
theorem free_any {F : Nat → Prop} {w : World} {sb : Nat} {S : List Sp} (h : SetAt F w sb S) (n : Int) : Calls Try.prog 19 #[.pointer (some ⟨sb, 0, none⟩), .int .u32 n] w fun e w' => e = .returned (.tuple #[.int .u32 (freeV S n).1, .bool (freeV S n).2]) ∧ Kept (fun _ => False) w w' := by
  obtain ⟨ao, cap, g1, g2, g3⟩ := h.c
  have H := hid h
  have hn := h.n
  have c0 := row_cell g1 0
  simp at c0
  have G2 := hid g2
  clear h g1 g2 g3
  go_enter Try.func19, Try.ntmps19
  go_wp2_with fail
  refine (has_any H.out n).mono ?_
  rintro e w1 ⟨rfl, hk⟩
  have c1 := hk.cell c0 id
  have HK := hid hk; clear hk c0
  by_cases hb : hasB S n = true
  · rw [hb]
    have hi : aft S n < S.length := by
      unfold hasB at hb
      apply Classical.byContradiction
      intro hn
      rw [List.getElem?_eq_none (by omega)] at hb
      cases hb
    obtain ⟨g, cap', e, l1, l2, y0, y1⟩ := own_at2 G2.out (aft S n) hi
    simp only [Value.slice.injEq] at e
    obtain ⟨rfl, _, rfl⟩ := e
    have z1 := HK.out.cell y1 id
    have hii : ((aft S n : Nat) : Int) < (S.length : Int) := by omega
    have hbd := H.out.g.b _ (List.getElem_mem hi)
    have hv : freeV S n = if (S[aft S n]'hi).2 = 4294967295 then (0, false) else ((S[aft S n]'hi).2 + 1, true) := by unfold freeV; rw [if_pos hb, List.getElem?_eq_getElem hi]
    clear y0 y1
    obtain ⟨⟨p, q⟩, hsx⟩ : ∃ sx, S[aft S n]'hi = sx := ⟨_, rfl⟩
    rw [hsx] at z1 hbd hv
    simp only at z1 hbd hv
    clear hsx hb
    have HV := hid hv; clear hv
    by_cases hq : q = 4294967295
    · have hqb : (q == 4294967295) = true := by simpa using hq
      go_wp2_with fail
      refine wp_region_held_drew (S := fun w' => w'.cell? ⟨sb, 0, none⟩ = some (.slice (some ⟨g, 0, none⟩) S.length cap) ∧ w'.cell? ⟨g, aft S n * 2 + 1, none⟩ = some (.int .u32 q)) (by kernel_rfl) (by exact ⟨c1, z1⟩) (fun hHeld => ?_)
      refine wpAnyH_at 0 (some 12) (v := ?v100) (by decide) rfl (by kernel_rfl) (by kernel_rfl) (by kernel_rfl) (fun _ _ _ h => h) (Or.inl ⟨by rfl, ?y100⟩) (by assumption) ?r100
      case y100 => (intro w hSw; (try dsimp only at hSw); go_simp; (try with_reducible rfl))
      simp only [Act.put, List.setIfInBounds_toArray, List.set_cons_zero, List.set_cons_succ]
      refine wpAnyH_at 1 (some 13) (v := ?v101) (by decide) rfl (by kernel_rfl) (by kernel_rfl) (by kernel_rfl) (fun _ _ _ h => h) (Or.inl ⟨by rfl, ?y101⟩) (by assumption) ?r101
      case y101 => (intro w hSw; (try dsimp only at hSw); go_simp; (try with_reducible rfl))
      simp only [Act.put, List.setIfInBounds_toArray, List.set_cons_zero, List.set_cons_succ]
      refine wpAnyH_at 2 (some 14) (v := ?v102) (by decide) rfl (by kernel_rfl) (by kernel_rfl) (by kernel_rfl) (fun _ _ _ h => h) (Or.inl ⟨by rfl, ?y102⟩) (by assumption) ?r102
      case y102 => (intro w hSw; (try dsimp only at hSw); go_simp; (try with_reducible rfl))
      simp only [Act.put, List.setIfInBounds_toArray, List.set_cons_zero, List.set_cons_succ]
      refine wpAnyH_at 3 (some 15) (v := ?v103) (by decide) rfl (by kernel_rfl) (by kernel_rfl) (by kernel_rfl) (fun _ _ _ h => h) (Or.inl ⟨by rfl, ?y103⟩) (by assumption) ?r103
      case y103 => (intro w hSw; (try dsimp only at hSw); go_simp; (try with_reducible rfl))
      simp only [Act.put, List.setIfInBounds_toArray, List.set_cons_zero, List.set_cons_succ]
      refine wpAnyH_at 4 (some 16) (v := ?v104) (by decide) rfl (by kernel_rfl) (by kernel_rfl) (by kernel_rfl) (fun _ _ _ h => h) (Or.inl ⟨by rfl, ?y104⟩) (by assumption) ?r104
      case y104 => (intro w hSw; (try dsimp only at hSw); go_simp; (try with_reducible rfl))
      simp only [Act.put, List.setIfInBounds_toArray, List.set_cons_zero, List.set_cons_succ]
      refine wpAnyH_at 5 (some 17) (v := ?v105) (by decide) rfl (by kernel_rfl) (by kernel_rfl) (by kernel_rfl) (fun _ _ _ h => h) (Or.inl ⟨by rfl, ?y105⟩) (by assumption) ?r105
      case y105 => (intro w hSw; (try dsimp only at hSw); go_simp; (try with_reducible rfl))
      simp only [Act.put, List.setIfInBounds_toArray, List.set_cons_zero, List.set_cons_succ]
      refine wpAnyH_ready (rs := [6]) (by kernel_rfl) (by simp) ?_
      refine AllReadyH.cons rfl (fun K hK => ?_) AllReadyH.nil
      go_simp
      refine (after_any (H.out.kept (HK.out.trans (Kept.refl _ _).drew) (fun _ _ h => h)) n).mono ?_
      rintro e w2 ⟨rfl, hk2⟩
      have HK2 := hid (Kept.of_drew hk2)
      have c2 := hk2.cell c1 id
      have z2 := hk2.cell z1 id
      clear hk2
      try dsimp only []
      refine hK.out _ _ (by exact ⟨c2, z2⟩) (fun hHeld => ?_)
      clear hK K
      try simp only [Act.put, List.setIfInBounds_toArray, List.set_cons_zero, List.set_cons_succ]
      refine wpAnyH_at 7 (some 19) (v := ?v107) (by decide) rfl (by kernel_rfl) (by kernel_rfl) (by kernel_rfl) (fun _ _ _ h => h) (Or.inl ⟨by rfl, ?y107⟩) (by assumption) ?r107
      case y107 => (intro w hSw; (try dsimp only at hSw); go_simp; (try with_reducible rfl))
      simp only [Act.put, List.setIfInBounds_toArray, List.set_cons_zero, List.set_cons_succ]
      refine wpAnyH_at 8 (some 20) (v := ?v108) (by decide) rfl (by kernel_rfl) (by kernel_rfl) (by kernel_rfl) (fun _ _ _ h => h) (Or.inl ⟨by rfl, ?y108⟩) (by assumption) ?r108
      case y108 => (intro w hSw; (try dsimp only at hSw); go_simp; (try with_reducible rfl))
      simp only [Act.put, List.setIfInBounds_toArray, List.set_cons_zero, List.set_cons_succ]
      refine wpAnyH_at 9 (some 21) (v := ?v109) (by decide) rfl (by kernel_rfl) (by kernel_rfl) (by kernel_rfl) (fun _ _ _ h => h) (Or.inl ⟨by rfl, ?y109⟩) (by assumption) ?r109
      case y109 => (intro w hSw; (try dsimp only at hSw); go_simp; (try with_reducible rfl))
      simp only [Act.put, List.setIfInBounds_toArray, List.set_cons_zero, List.set_cons_succ]
      refine wpAnyH_at 10 (some 6) (v := ?v110) (by decide) rfl (by kernel_rfl) (by kernel_rfl) (by kernel_rfl) (fun _ _ _ h => h) (Or.inl ⟨by rfl, ?y110⟩) (by assumption) ?r110
      case y110 => (intro w hSw; (try dsimp only at hSw); go_simp; (try with_reducible rfl))
      simp only [Act.put, List.setIfInBounds_toArray, List.set_cons_zero, List.set_cons_succ]
      refine wpAnyH_done (by kernel_rfl) ?_ _
      clear hHeld c1 z1 c2 z2
      go_wp2
      go_ret2
      rw [HV.out, if_pos hq]
      exact ⟨rfl, HK.out.trans HK2.out⟩
    · have hqb : (q == 4294967295) = false := by simpa using hq
      have hw : IntKind.u32.wrap (q + 1) = q + 1 := by simp [IntKind.wrap, IntKind.bits, IntKind.signed]; omega
      go_wp2_with fail
      refine wp_region_held_drew (S := fun w' => w'.cell? ⟨sb, 0, none⟩ = some (.slice (some ⟨g, 0, none⟩) S.length cap) ∧ w'.cell? ⟨g, aft S n * 2 + 1, none⟩ = some (.int .u32 q)) (by kernel_rfl) (by exact ⟨c1, z1⟩) (fun hHeld => ?_)
      refine wpAnyH_at 0 (some 12) (v := ?v200) (by decide) rfl (by kernel_rfl) (by kernel_rfl) (by kernel_rfl) (fun _ _ _ h => h) (Or.inl ⟨by rfl, ?y200⟩) (by assumption) ?r200
      case y200 => (intro w hSw; (try dsimp only at hSw); go_simp; (try with_reducible rfl))
      simp only [Act.put, List.setIfInBounds_toArray, List.set_cons_zero, List.set_cons_succ]
      refine wpAnyH_at 1 (some 13) (v := ?v201) (by decide) rfl (by kernel_rfl) (by kernel_rfl) (by kernel_rfl) (fun _ _ _ h => h) (Or.inl ⟨by rfl, ?y201⟩) (by assumption) ?r201
      case y201 => (intro w hSw; (try dsimp only at hSw); go_simp; (try with_reducible rfl))
      simp only [Act.put, List.setIfInBounds_toArray, List.set_cons_zero, List.set_cons_succ]
      refine wpAnyH_at 2 (some 14) (v := ?v202) (by decide) rfl (by kernel_rfl) (by kernel_rfl) (by kernel_rfl) (fun _ _ _ h => h) (Or.inl ⟨by rfl, ?y202⟩) (by assumption) ?r202
      case y202 => (intro w hSw; (try dsimp only at hSw); go_simp; (try with_reducible rfl))
      simp only [Act.put, List.setIfInBounds_toArray, List.set_cons_zero, List.set_cons_succ]
      refine wpAnyH_at 3 (some 15) (v := ?v203) (by decide) rfl (by kernel_rfl) (by kernel_rfl) (by kernel_rfl) (fun _ _ _ h => h) (Or.inl ⟨by rfl, ?y203⟩) (by assumption) ?r203
      case y203 => (intro w hSw; (try dsimp only at hSw); go_simp; (try with_reducible rfl))
      simp only [Act.put, List.setIfInBounds_toArray, List.set_cons_zero, List.set_cons_succ]
      refine wpAnyH_at 4 (some 16) (v := ?v204) (by decide) rfl (by kernel_rfl) (by kernel_rfl) (by kernel_rfl) (fun _ _ _ h => h) (Or.inl ⟨by rfl, ?y204⟩) (by assumption) ?r204
      case y204 => (intro w hSw; (try dsimp only at hSw); go_simp; (try with_reducible rfl))
      simp only [Act.put, List.setIfInBounds_toArray, List.set_cons_zero, List.set_cons_succ]
      refine wpAnyH_at 5 (some 17) (v := ?v205) (by decide) rfl (by kernel_rfl) (by kernel_rfl) (by kernel_rfl) (fun _ _ _ h => h) (Or.inl ⟨by rfl, ?y205⟩) (by assumption) ?r205
      case y205 => (intro w hSw; (try dsimp only at hSw); go_simp; (try with_reducible rfl))
      simp only [Act.put, List.setIfInBounds_toArray, List.set_cons_zero, List.set_cons_succ]
      refine wpAnyH_ready (rs := [6]) (by kernel_rfl) (by simp) ?_
      refine AllReadyH.cons rfl (fun K hK => ?_) AllReadyH.nil
      go_simp
      refine (after_any (H.out.kept (HK.out.trans (Kept.refl _ _).drew) (fun _ _ h => h)) n).mono ?_
      rintro e w2 ⟨rfl, hk2⟩
      have HK2 := hid (Kept.of_drew hk2)
      have c2 := hk2.cell c1 id
      have z2 := hk2.cell z1 id
      clear hk2
      try dsimp only []
      refine hK.out _ _ (by exact ⟨c2, z2⟩) (fun hHeld => ?_)
      clear hK K
      try simp only [Act.put, List.setIfInBounds_toArray, List.set_cons_zero, List.set_cons_succ]
      refine wpAnyH_at 7 (some 19) (v := ?v207) (by decide) rfl (by kernel_rfl) (by kernel_rfl) (by kernel_rfl) (fun _ _ _ h => h) (Or.inl ⟨by rfl, ?y207⟩) (by assumption) ?r207
      case y207 => (intro w hSw; (try dsimp only at hSw); go_simp; (try with_reducible rfl))
      simp only [Act.put, List.setIfInBounds_toArray, List.set_cons_zero, List.set_cons_succ]
      refine wpAnyH_at 8 (some 20) (v := ?v208) (by decide) rfl (by kernel_rfl) (by kernel_rfl) (by kernel_rfl) (fun _ _ _ h => h) (Or.inl ⟨by rfl, ?y208⟩) (by assumption) ?r208
      case y208 => (intro w hSw; (try dsimp only at hSw); go_simp; (try with_reducible rfl))
      simp only [Act.put, List.setIfInBounds_toArray, List.set_cons_zero, List.set_cons_succ]
      refine wpAnyH_at 9 (some 21) (v := ?v209) (by decide) rfl (by kernel_rfl) (by kernel_rfl) (by kernel_rfl) (fun _ _ _ h => h) (Or.inl ⟨by rfl, ?y209⟩) (by assumption) ?r209
      case y209 => (intro w hSw; (try dsimp only at hSw); go_simp; (try with_reducible rfl))
      simp only [Act.put, List.setIfInBounds_toArray, List.set_cons_zero, List.set_cons_succ]
      refine wpAnyH_at 10 (some 6) (v := ?v210) (by decide) rfl (by kernel_rfl) (by kernel_rfl) (by kernel_rfl) (fun _ _ _ h => h) (Or.inl ⟨by rfl, ?y210⟩) (by assumption) ?r210
      case y210 => (intro w hSw; (try dsimp only at hSw); go_simp; (try with_reducible rfl))
      simp only [Act.put, List.setIfInBounds_toArray, List.set_cons_zero, List.set_cons_succ]
      refine wpAnyH_done (by kernel_rfl) ?_ _
      clear hHeld c1 z1 c2 z2
      go_wp2
      go_ret2
      rw [HV.out, if_neg hq]
      exact ⟨rfl, HK.out.trans HK2.out⟩
  · have hb' : hasB S n = false := by simpa using hb
    rw [hb']
    have hv : freeV S n = (n, true) := by unfold freeV; rw [if_neg hb]
    have HV := hid hv; clear hv hb hb'
    go_wp2
    go_ret2
    rw [HV.out]
    exact ⟨rfl, HK.out⟩
end Go.Proofs.Ytglcpiokmieppaa
