/- Answers that are alike. -/
import Derived.Test.YtekkickbbbkkgaaD
import Derived.Laws.StructEq
import Derived.StillTailTactics
import Derived.BigQuiet
namespace Go.Proofs.Ytekkickbbbkkgaa
open Go.RowKit


set_option maxHeartbeats 1000000 in
theorem same_values {F G : Nat → Prop} {w : World} {va vb : Value} {l : List Val} (ha : Lies F w 3 va l.length (vcells l)) (hb : Lies G w 3 vb l.length (vcells l)) :
    Calls Try.prog 17 #[va, vb] w fun e w' => e = .returned (.bool true) ∧ Kept (fun _ => False) w w' := by
  have HA := hid ha
  have HB := hid hb
  obtain ⟨a1, c1, rfl, m1, m2, _⟩ := ha
  obtain ⟨a2, c2, rfl, _⟩ := hb
  unfold maxLen at m2
  have hl9 : l.length ≤ 9223372036854775807 := by omega
  clear m1 m2
  have hn' : ((l.length : Int) != (l.length : Int)) = false := by simp
  go_enter Try.func17, Try.ntmps17
  go_wp2_with fail
  go_loopw [13] (fun i wr => ∃ k : Nat, k ≤ l.length ∧ i = .int .i64 k ∧ Kept (fun _ => False) w wr) (fun i _ => l.length - (intOf i).toNat)
  case atStart => exact ⟨0, Nat.zero_le _, rfl, Kept.refl _ _⟩
  case round =>
    obtain ⟨k, hk, rfl, hkp⟩ := hrel
    have HK := hid hkp; clear hkp
    by_cases hlt : k < l.length
    · obtain ⟨g1, o1, q1, e1, n1, _, _, _, z1⟩ := HA.out.cell (by omega)
      obtain ⟨g2, o2, q2, e2, n2, _, _, _, z2⟩ := HB.out.cell (by omega)
      simp only [Value.slice.injEq] at e1 e2
      obtain ⟨rfl, _, rfl⟩ := e1
      obtain ⟨rfl, _, rfl⟩ := e2
      obtain ⟨x0, x1, x2⟩ := vcells_at l k l[k] (by simp [hlt])
      have y0 := HK.out.cell (z1 _ _ x0) id
      have y1 := HK.out.cell (z1 _ _ x1) id
      have y2 := HK.out.cell (z1 _ _ x2) id
      have u0 := HK.out.cell (z2 _ _ x0) id
      have u1 := HK.out.cell (z2 _ _ x1) id
      have u2 := HK.out.cell (z2 _ _ x2) id
      obtain ⟨a, b, s⟩ := l[k]
      simp only [← Nat.add_assoc] at y0 y1 y2 u0 u1 u2
      clear x0 x1 x2 z1 z2 n1 n2
      go_wp2_with fail
      refine wp_region_still_lit (by kernel_rfl) (by kernel_rfl) ?_
      simp only [World.drew_eq]
      iterate 9 still_step
      refine wpStill_nil ?_
      go_wp2
      go_roundw
      case rel => exact ⟨k + 1, by omega, by simp, HK.out.drew⟩
      case measure => simp [intOf]; omega
    · obtain rfl : k = l.length := by omega
      go_wp2
      go_ret
      exact ⟨rfl, HK.out⟩

set_option maxHeartbeats 1000000 in
theorem same_numbers {F G : Nat → Prop} {w : World} {va vb : Value} {l : List Int} (ha : Lies F w 1 va l.length (ncells l)) (hb : Lies G w 1 vb l.length (ncells l)) :
    Calls Try.prog 18 #[va, vb] w fun e w' => e = .returned (.bool true) ∧ Kept (fun _ => False) w w' := by
  have HA := hid ha
  have HB := hid hb
  obtain ⟨a1, c1, rfl, m1, m2, _⟩ := ha
  obtain ⟨a2, c2, rfl, _⟩ := hb
  unfold maxLen at m2
  have hl9 : l.length ≤ 9223372036854775807 := by omega
  clear m1 m2
  have hn' : ((l.length : Int) != (l.length : Int)) = false := by simp
  go_enter Try.func18, Try.ntmps18
  go_wp2_with fail
  go_loopw [13] (fun i wr => ∃ k : Nat, k ≤ l.length ∧ i = .int .i64 k ∧ Kept (fun _ => False) w wr) (fun i _ => l.length - (intOf i).toNat)
  case atStart => exact ⟨0, Nat.zero_le _, rfl, Kept.refl _ _⟩
  case round =>
    obtain ⟨k, hk, rfl, hkp⟩ := hrel
    have HK := hid hkp; clear hkp
    by_cases hlt : k < l.length
    · obtain ⟨g1, o1, q1, e1, n1, _, _, _, z1⟩ := HA.out.cell (by omega)
      obtain ⟨g2, o2, q2, e2, n2, _, _, _, z2⟩ := HB.out.cell (by omega)
      simp only [Value.slice.injEq] at e1 e2
      obtain ⟨rfl, _, rfl⟩ := e1
      obtain ⟨rfl, _, rfl⟩ := e2
      have x0 := ncells_at l k l[k] (by simp [hlt])
      have y0 := HK.out.cell (z1 _ _ x0) id
      have u0 := HK.out.cell (z2 _ _ x0) id
      obtain ⟨z, hz⟩ : ∃ z, l[k] = z := ⟨_, rfl⟩
      rw [hz] at y0 u0
      have hzz : (z != z) = false := by simp
      clear x0 z1 z2 n1 n2 hz
      go_wp2_with fail
      refine wp_region_still_lit (by kernel_rfl) (by kernel_rfl) ?_
      simp only [World.drew_eq]
      iterate 9 still_step
      refine wpStill_nil ?_
      go_wp2
      go_roundw
      case rel => exact ⟨k + 1, by omega, by simp, HK.out.drew⟩
      case measure => simp [intOf]; omega
    · obtain rfl : k = l.length := by omega
      go_wp2
      go_ret
      exact ⟨rfl, HK.out⟩

set_option maxRecDepth 100000 in
set_option maxHeartbeats 1000000 in
theorem same_answer {F G : Nat → Prop} {w : World} {va la vb lb : Value} {A : Ans} (ha : AnsIn F w va la A) (hb : AnsIn G w vb lb A) :
    Calls Try.prog 12 #[.agg #[.int .i64 A.e, .int .i64 A.p, va, la], .agg #[.int .i64 A.e, .int .i64 A.p, vb, lb]] w fun e w' => e = .returned (.bool true) ∧ Kept (fun _ => False) w w' := by
  obtain ⟨a1, q1, a2, q2, rfl, rfl⟩ := ha.shape
  obtain ⟨a3, q3, a4, q4, rfl, rfl⟩ := hb.shape
  have HA := hid ha
  have HB := hid hb
  clear ha hb
  obtain ⟨ae, ap, av, al⟩ := A
  have e1 : (ae == ae) = true := by simp
  have e2 : (ap == ap) = true := by simp
  have hn2 := two_new w (.cells #[.int .i64 ae, .int .i64 ap, .slice a1 av.length q1, .slice a2 al.length q2] 28) (.cells #[.int .i64 ae, .int .i64 ap, .slice a3 av.length q3, .slice a4 al.length q4] 28)
  have N2 := hid hn2; clear hn2
  go_enter Try.func12, Try.ntmps12
  go_wp2_with fail
  refine (same_values (by exact HA.out.v.same (((Kept.refl _ _).alloc _).alloc _)) (by exact HB.out.v.same (((Kept.refl _ _).alloc _).alloc _))).mono ?_; rintro e w2 ⟨rfl, hk2⟩
  have HK2 := hid hk2; clear hk2
  obtain ⟨x0, x1, x2, x3, x4⟩ := cells4 ((HK2.out.block _ (row_lt N2.out.1) id).trans N2.out.1)
  obtain ⟨z0, z1, z2, z3, z4⟩ := cells4 ((HK2.out.block _ (row_lt N2.out.2) id).trans N2.out.2)
  go_wp2_with fail
  refine (same_numbers (by exact (HA.out.l.same (((Kept.refl _ _).alloc _).alloc _)).same HK2.out) (by exact (HB.out.l.same (((Kept.refl _ _).alloc _).alloc _)).same HK2.out)).mono ?_; rintro e w3 ⟨rfl, hk3⟩
  go_wp2
  go_ret
  exact ⟨rfl, ((((Kept.refl _ _).alloc _).alloc _).trans HK2.out).trans hk3⟩

set_option maxRecDepth 100000 in
set_option maxHeartbeats 1000000 in
theorem twin_any {F : Nat → Prop} {w : World} {v l : Value} {A : Ans} (h : AnsIn F w v l A) :
    Calls Try.prog 9 #[.agg #[.int .i64 A.e, .int .i64 A.p, v, l]] w fun en w' => ∃ a1 c1 a2 c2, en = .returned (.agg #[.int .i64 A.e, .int .i64 A.p, .slice a1 A.vals.length c1, .slice a2 A.list.length c2]) ∧
      AnsIn (fun g => g < w.heap.size) w' (.slice a1 A.vals.length c1) (.slice a2 A.list.length c2) A ∧ Kept (fun _ => False) w w' := by
  obtain ⟨p1, q1, p2, q2, rfl, rfl⟩ := h.shape
  have H := hid h
  clear h
  obtain ⟨ae, ap, av, al⟩ := A
  have hn2 := two_new w (.cells #[.int .i64 ae, .int .i64 ap, .slice p1 av.length q1, .slice p2 al.length q2] 28) (.cells #[.int .i64 0, .int .i64 0, .slice none 0 0, .slice none 0 0] 28)
  have N2 := hid hn2; clear hn2
  have HE : Hid (Own (((w.alloc (.cells #[.int .i64 ae, .int .i64 ap, .slice p1 av.length q1, .slice p2 al.length q2] 28)).alloc (.cells #[.int .i64 0, .int .i64 0, .slice none 0 0, .slice none 0 0] 28)).alloc (.cells #[] 58)) 58 3 (.slice (some ⟨w.heap.size + 1 + 1, 0, none⟩) 0 0) 0 []) :=
    hid (by have := own_empty ((w.alloc (.cells #[.int .i64 ae, .int .i64 ap, .slice p1 av.length q1, .slice p2 al.length q2] 28)).alloc (.cells #[.int .i64 0, .int .i64 0, .slice none 0 0, .slice none 0 0] 28)) 58 3; simpa using this)
  go_enter Try.func9, Try.ntmps9
  go_wp2_with (at_builtin; refine wpList_app (o := ⟨some 6, _, _, _, _, _⟩) rfl (.tmp 3) (.tmp 5) 25 rfl 58 (.agg #[.int .u8 0, .int .i64 0, .string ByteArray.empty]) 3 32 Try.underlying25 infoV rfl (by decide) _ 0 [] rfl (by exact HE.out) _ rfl av.length (vcells av) ?c1 ?c2 ?c3 ?_)
  case c1 => exact (H.out.v.same ((((Kept.refl (fun _ => False) _).alloc _).alloc _).alloc _)).src
  case c2 => have : av.length * 32 ≤ _ := H.out.vb; simp only [maxLen]; omega
  case c3 => have : av.length * 32 ≤ _ := H.out.vb; omega
  intro a4 c4 w4 hown hk hf _
  have hfr : ∀ g, (Value.slice a4 av.length c4).ownBlock = some g → w.heap.size + 2 ≤ g := fun g hg => by
    rcases hf g hg with h | h
    · simp [Value.ownBlock] at h; omega
    · (try simp at h); omega
  have HV := hid (hown.lies (F := fun g => g < w.heap.size + 2) (vcells_one _) fun g hg hlt => by have := hfr g hg; omega)
  have hk' := ((((Kept.refl (fun _ => False) w).alloc (.cells #[.int .i64 ae, .int .i64 ap, .slice p1 av.length q1, .slice p2 al.length q2] 28)).alloc (.cells #[.int .i64 0, .int .i64 0, .slice none 0 0, .slice none 0 0] 28)).alloc (.cells #[] 58)).trans' hk (fun i hi => by simp [Value.ownBlock] at hi; right; omega)
  have HK := hid hk'
  have hb1 := (hk.block _ (Nat.lt_of_lt_of_le (row_lt N2.out.1) (by simp)) (by simp [Value.ownBlock]; omega)).trans (row_old N2.out.1 _)
  have hb2 := (hk.block _ (Nat.lt_of_lt_of_le (row_lt N2.out.2) (by simp)) (by simp [Value.ownBlock])).trans (row_old N2.out.2 _)
  have B1 := hid hb1; have B2 := hid hb2
  clear hown hk hf hfr hk' hb1 hb2
  have hb3 := row_old (put2 B1.out (.slice a4 av.length c4)) (.cells #[] 23)
  have hb4 := row_old (row_other B2.out (a := ⟨w.heap.size, 2, none⟩) (by simp) (.slice a4 av.length c4)) (.cells #[] 23)
  have B3 := hid hb3; have B4 := hid hb4
  clear hb3 hb4
  obtain ⟨x0, x1, x2, x3, x4⟩ := cells4 B1.out
  obtain ⟨y0, y1, y2, y3, y4⟩ := cells4 B3.out
  have HE2 : Hid (Own ((w4.setCell ⟨w.heap.size, 2, none⟩ (.slice a4 av.length c4)).alloc (.cells #[] 23)) 23 1 (.slice (some ⟨w4.heap.size, 0, none⟩) 0 0) 0 []) :=
    hid (by have := own_empty (w4.setCell ⟨w.heap.size, 2, none⟩ (.slice a4 av.length c4)) 23 1; simpa using this)
  go_wp2_with (at_builtin; refine wpList_app (o := ⟨some 11, _, _, _, _, _⟩) rfl (.tmp 8) (.tmp 10) 26 rfl 23 (.int .u32 0) 1 4 Try.underlying26 infoN rfl (by decide) _ 0 [] rfl (by exact HE2.out) _ rfl al.length (ncells al) ?d1 ?d2 ?d3 ?_)
  case d1 => exact ((((H.out.l.mono (G := fun g => w.heap.size ≤ g) (fun g h1 h2 => absurd h1 (by omega))).same HK.out).kept ((Kept.refl (fun g => g = w.heap.size) _).setCell (p := ⟨w.heap.size, 2, none⟩) (.inl rfl) _) (fun g _ hg => by omega)).same ((Kept.refl _ _).alloc _)).src
  case d2 => have : al.length * 4 ≤ _ := H.out.lb; simp only [maxLen]; omega
  case d3 => have : al.length * 4 ≤ _ := H.out.lb; omega
  intro a5 c5 w5 hown hk hf _
  have hfr : ∀ g, (Value.slice a5 al.length c5).ownBlock = some g → w4.heap.size ≤ g := fun g hg => by
    rcases hf g hg with h | h
    · simp [Value.ownBlock] at h; omega
    · (try simp at h); omega
  have HL := hid (hown.lies (F := fun g => g < w4.heap.size) (ncells_one _) fun g hg hlt => by have := hfr g hg; omega)
  have hk' := (((Kept.refl (fun g => g = w.heap.size) w4).setCell (p := ⟨w.heap.size, 2, none⟩) (.inl rfl) (.slice a4 av.length c4)).alloc (.cells #[] 23)).trans' hk (fun i hi => by simp [Value.ownBlock] at hi; right; omega)
  have HK5 := hid hk'
  have hb1 := (hk.block _ (row_lt B3.out) (by simp [Value.ownBlock]; have := row_lt B1.out; omega)).trans B3.out
  have hb2 := (hk.block _ (row_lt B4.out) (by simp [Value.ownBlock]; have := row_lt B2.out; omega)).trans B4.out
  have HC1 := hid hb1; have HC2 := hid hb2
  clear hown hk hf hfr hk' hb1 hb2 x0 x1 x2 x3 x4 y0 y1 y2 y3 y4
  obtain ⟨x0, x1, x2, x3, x4⟩ := cells4 HC1.out
  obtain ⟨i0, i1, i2, i3, i4⟩ := cells4 (put3 HC1.out (.slice a5 al.length c5))
  have hc2 := row_other HC2.out (a := ⟨w.heap.size, 3, none⟩) (by simp) (.slice a5 al.length c5)
  obtain ⟨z0, z1, z2, z3, z4⟩ := cells4 hc2
  obtain ⟨y0, y1, y2, y3⟩ := set4c hc2 (.int .i64 ae) (.int .i64 ap) (.slice a4 av.length c4) (.slice a5 al.length c5)
  clear hc2
  go_wp2_with fail
  refine bodyPost_ret (v := .agg #[.int .i64 ae, .int .i64 ap, .slice a4 av.length c4, .slice a5 al.length c5]) (by simp [results, Try.results9, go_sem, y0, y1, y2, y3]) rfl ⟨a4, c4, a5, c5, rfl, ?_, ?_⟩
  · have K := (((((Kept.refl (fun g => g = w.heap.size ∨ g = w.heap.size + 1) w5).setCell (p := ⟨w.heap.size, 3, none⟩) (.inl (.inl rfl)) (.slice a5 al.length c5)).setCell (p := ⟨w.heap.size + 1, 0, none⟩) (.inl (.inr rfl)) (.int .i64 ae)).setCell (p := ⟨w.heap.size + 1, 1, none⟩) (.inl (.inr rfl)) (.int .i64 ap)).setCell (p := ⟨w.heap.size + 1, 2, none⟩) (.inl (.inr rfl)) (.slice a4 av.length c4)).setCell (p := ⟨w.heap.size + 1, 3, none⟩) (.inl (.inr rfl)) (.slice a5 al.length c5)
    have hz1 := row_lt B2.out
    exact ⟨((HV.out.kept HK5.out fun g _ hg => by omega).kept K fun g _ hg => by omega).mono fun g _ hg => by omega, (HL.out.kept K fun g _ hg => by omega).mono fun g _ hg => by omega, H.out.vb, H.out.lb⟩
  · have K5 : Kept (fun _ => False) w w5 := HK.out.trans' HK5.out fun g hg => .inr (by omega)
    exact ((((K5.setCell (p := ⟨w.heap.size, 3, none⟩) (.inr (Nat.le_refl _)) _).setCell (.inr (Nat.le_succ _)) _).setCell (.inr (Nat.le_succ _)) _).setCell (.inr (Nat.le_succ _)) _).setCell (.inr (Nat.le_succ _)) _
end Go.Proofs.Ytekkickbbbkkgaa
