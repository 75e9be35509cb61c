/- Answers of their own: slices.Clone, copied, twin. -/
import Derived.Test.YtekkickbbbkkgaaLies
import Derived.Deep.RegionLaw
import Derived.Deep.RegionHeld3
namespace Go.Proofs.Ytekkickbbbkkgaa
open Go.RowKit

theorem infoV : (Try.prog.info? 58).map (fun i => (i.zero, i.size, i.bytes)) = some (some (.agg #[.int .u8 0, .int .i64 0, .string ByteArray.empty]), 3, 32) := by kernel_rfl
theorem infoN : (Try.prog.info? 23).map (fun i => (i.zero, i.size, i.bytes)) = some (some (.int .u32 0), 1, 4) := by kernel_rfl


set_option maxHeartbeats 400000 in
theorem cloneV_any {F : Nat → Prop} (v : Value) (n : Nat) (news : List Value) (w : World) (h : Lies F w 3 v n news) (hl : n * 32 ≤ 140737488351232) :
    Calls Try.prog 19 #[v] w fun e w' => ∃ v', e = .returned v' ∧ Own w' 58 3 v' n news ∧ (∀ g, v'.ownBlock = some g → w.heap.size ≤ g) ∧ Kept (fun _ => False) w w' := by
  have H := hid h
  obtain ⟨ao, c, rfl, h1, h1', h2, h3, h4, h5⟩ := h
  cases ao with
  | none =>
    obtain ⟨rfl, rfl⟩ := h3 rfl
    obtain rfl : news = [] := List.eq_nil_of_length_eq_zero (by simpa using h2)
    clear h1 h1' h2 h3 h4 h5 H
    have he := fun w => Lib.run_eql_slice_nil (P := Try.prog) w
    go_enter Try.func19, Try.ntmps19
    go_wp2
    go_ret
    exact ⟨_, rfl, Own.nil _ _ _, by simp [Value.ownBlock], Kept.refl _ _⟩
  | some ad =>
    clear h1 h1' h2 h3 h4 h5
    have hl' := hid hl; clear hl
    have he := fun w => Lib.run_eql_slice_nil (P := Try.prog) w
    go_enter Try.func19, Try.ntmps19
    go_wp2_with (at_builtin; refine wpList_app rfl _ _ 25 rfl 58 (.agg #[.int .u8 0, .int .i64 0, .string ByteArray.empty]) 3 32 Try.underlying25 infoV rfl (by decide) _ 0 [] rfl (own_empty _ _ _) _ rfl n news ?c1 ?c2 ?c3 ?_)
    case c1 => exact (H.out.same ((Kept.refl (fun _ => False) _).alloc _)).src
    case c2 => have := hl'.out; simp only [maxLen]; omega
    case c3 => have := hl'.out; omega
    · intro a' c' w' hown hk hf _
      go_wp2
      go_ret
      refine ⟨_, rfl, by simpa using hown, fun g hg => ?_, ?_⟩
      · rcases hf g (by simpa using hg) with h | h
        · simp [Value.ownBlock] at h; omega
        · (try simp at h); omega
      · refine ((Kept.refl (fun _ => False) w).alloc _).trans' hk (fun i hi => ?_)
        simp [Value.ownBlock] at hi
        right; omega
set_option maxHeartbeats 400000 in
theorem cloneN_any {F : Nat → Prop} (v : Value) (n : Nat) (news : List Value) (w : World) (h : Lies F w 1 v n news) (hl : n * 4 ≤ 140737488351232) :
    Calls Try.prog 20 #[v] w fun e w' => ∃ v', e = .returned v' ∧ Own w' 23 1 v' n news ∧ (∀ g, v'.ownBlock = some g → w.heap.size ≤ g) ∧ Kept (fun _ => False) w w' := by
  have H := hid h
  obtain ⟨ao, c, rfl, h1, h1', h2, h3, h4, h5⟩ := h
  cases ao with
  | none =>
    obtain ⟨rfl, rfl⟩ := h3 rfl
    obtain rfl : news = [] := List.eq_nil_of_length_eq_zero (by simpa using h2)
    clear h1 h1' h2 h3 h4 h5 H
    have he := fun w => Lib.run_eql_slice_nil (P := Try.prog) w
    go_enter Try.func20, Try.ntmps20
    go_wp2
    go_ret
    exact ⟨_, rfl, Own.nil _ _ _, by simp [Value.ownBlock], Kept.refl _ _⟩
  | some ad =>
    clear h1 h1' h2 h3 h4 h5
    have hl' := hid hl; clear hl
    have he := fun w => Lib.run_eql_slice_nil (P := Try.prog) w
    go_enter Try.func20, Try.ntmps20
    go_wp2_with (at_builtin; refine wpList_app rfl _ _ 26 rfl 23 (.int .u32 0) 1 4 Try.underlying26 infoN rfl (by decide) _ 0 [] rfl (own_empty _ _ _) _ rfl n news ?c1 ?c2 ?c3 ?_)
    case c1 => exact (H.out.same ((Kept.refl (fun _ => False) _).alloc _)).src
    case c2 => have := hl'.out; simp only [maxLen]; omega
    case c3 => have := hl'.out; omega
    · intro a' c' w' hown hk hf _
      go_wp2
      go_ret
      refine ⟨_, rfl, by simpa using hown, fun g hg => ?_, ?_⟩
      · rcases hf g (by simpa using hg) with h | h
        · simp [Value.ownBlock] at h; omega
        · (try simp at h); omega
      · refine ((Kept.refl (fun _ => False) w).alloc _).trans' hk (fun i hi => ?_)
        simp [Value.ownBlock] at hi
        right; omega

/-- an answer: its error, its place, values, numbers -/
structure Ans where
  e : Int
  p : Int
  vals : List Val
  list : List Int
/-- v and l are an answer's lists, in blocks outside F -/
structure AnsIn (F : Nat → Prop) (w : World) (v l : Value) (A : Ans) : Prop where
  v : Lies F w 3 v A.vals.length (vcells A.vals)
  l : Lies F w 1 l A.list.length (ncells A.list)
  vb : A.vals.length * 32 ≤ 140737488351232
  lb : A.list.length * 4 ≤ 140737488351232
theorem AnsIn.kept {F G : Nat → Prop} {w w' : World} {v l : Value} {A : Ans} (h : AnsIn F w v l A) (k : Kept G w w') (hg : ∀ g, g < w.heap.size → G g → F g) : AnsIn F w' v l A :=
  ⟨h.v.kept k hg, h.l.kept k hg, h.vb, h.lb⟩
theorem AnsIn.same {F : Nat → Prop} {w w' : World} {v l : Value} {A : Ans} (h : AnsIn F w v l A) (k : Kept (fun _ => False) w w') : AnsIn F w' v l A := h.kept k (fun _ _ h => h.elim)
theorem AnsIn.mono {F G : Nat → Prop} {w : World} {v l : Value} {A : Ans} (h : AnsIn F w v l A) (hg : ∀ g, g < w.heap.size → G g → F g) : AnsIn G w v l A :=
  ⟨h.v.mono hg, h.l.mono hg, h.vb, h.lb⟩
theorem AnsIn.nil (F : Nat → Prop) (w : World) (e p : Int) : AnsIn F w (.slice none 0 0) (.slice none 0 0) ⟨e, p, [], []⟩ := ⟨Lies.nil _ _ _, Lies.nil _ _ _, by simp, by simp⟩
theorem AnsIn.shape {F : Nat → Prop} {w : World} {v l : Value} {A : Ans} (h : AnsIn F w v l A) : ∃ a1 c1 a2 c2, v = .slice a1 A.vals.length c1 ∧ l = .slice a2 A.list.length c2 := by
  obtain ⟨a1, c1, e1, _⟩ := h.v
  obtain ⟨a2, c2, e2, _⟩ := h.l
  exact ⟨a1, c1, a2, c2, e1, e2⟩

theorem cloneV_in {F : Nat → Prop} (v : Value) (n : Nat) (news : List Value) (w : World) (h : Lies F w 3 v n news) (hl : n * 32 ≤ 140737488351232) (h1 : ∀ u ∈ news, u.oneCell' = true) :
    Calls Try.prog 19 #[v] w fun e w' => ∃ a' c', e = .returned (.slice a' n c') ∧ Lies (fun g => g < w.heap.size) w' 3 (.slice a' n c') n news ∧ Kept (fun _ => False) w w' :=
  (cloneV_any v n news w h hl).mono fun e w' ⟨v', he, ho, hf, hk⟩ => by
    obtain ⟨pa, pc, rfl⟩ := ho.isSlice
    exact ⟨pa, pc, he, ho.lies h1 fun g hg hlt => by have := hf g hg; omega, hk⟩
theorem cloneN_in {F : Nat → Prop} (v : Value) (n : Nat) (news : List Value) (w : World) (h : Lies F w 1 v n news) (hl : n * 4 ≤ 140737488351232) (h1 : ∀ u ∈ news, u.oneCell' = true) :
    Calls Try.prog 20 #[v] w fun e w' => ∃ a' c', e = .returned (.slice a' n c') ∧ Lies (fun g => g < w.heap.size) w' 1 (.slice a' n c') n news ∧ Kept (fun _ => False) w w' :=
  (cloneN_any v n news w h hl).mono fun e w' ⟨v', he, ho, hf, hk⟩ => by
    obtain ⟨pa, pc, rfl⟩ := ho.isSlice
    exact ⟨pa, pc, he, ho.lies h1 fun g hg hlt => by have := hf g hg; omega, hk⟩

set_option maxRecDepth 100000 in
set_option maxHeartbeats 1000000 in
theorem copied_any {F : Nat → Prop} {w : World} {v l : Value} {A : Ans} (h : AnsIn F w v l A) :
    Calls Try.prog 16 #[.agg #[.int .i64 A.e, .int .i64 A.p, v, l]] w fun e w' => ∃ a1 c1 a2 c2, e = .returned (.agg #[.int .i64 A.e, .int .i64 A.p, .slice a1 A.vals.length c1, .slice a2 A.list.length c2]) ∧
      AnsIn (fun g => g < w.heap.size) w' (.slice a1 A.vals.length c1) (.slice a2 A.list.length c2) A ∧ Kept (fun _ => False) w w' := by
  obtain ⟨p1, q1, p2, q2, rfl, rfl⟩ := h.shape
  have H := hid h
  have e0 := A.e
  clear h
  obtain ⟨ae, ap, av, al⟩ := A
  go_enter Try.func16, Try.ntmps16
  go_wp2_with fail
  have hn2 := two_new w (.cells #[.int .i64 ae, .int .i64 ap, .slice p1 av.length q1, .slice p2 al.length q2] 28) (.cells #[.int .i64 0, .int .i64 0, .slice none 0 0, .slice none 0 0] 28)
  have N2 := hid hn2; clear hn2
  go_region_law (first
    | (go_simp; go_at_call 19; refine (cloneV_in _ _ _ _ (by exact H.out.v.same (by first | exact (((Kept.refl _ _).alloc _).alloc _).drew | exact (((Kept.refl _ _).alloc _).alloc _).drew.drew)) H.out.vb (vcells_one _)).mono ?_; rintro e w2 ⟨a1, c1, rfl, hv2, hk2⟩; have HV2 := hid hv2; have HK2 := hid hk2.of_drew; have hb1 := (HK2.out.block _ (row_lt N2.out.1) id).trans N2.out.1; have hb2 := (HK2.out.block _ (row_lt N2.out.2) id).trans N2.out.2; obtain ⟨x0, x1, x2, x3, x4⟩ := cells4 hb1; have HB1 := hid hb1; have HB2 := hid hb2; clear hv2 hk2 hb1 hb2)
    | (go_simp; go_at_call 20; refine (cloneN_in _ _ _ _ (by exact (H.out.l.same (((Kept.refl _ _).alloc _).alloc _)).same HK2.out) H.out.lb (ncells_one _)).mono ?_; rintro e w3 ⟨a2, c2, rfl, hv3, hk3⟩; have HV3 := hid hv3; have HK3 := hid hk3; clear x0 x1 x2 x3 x4; have hb1 := (HK3.out.block _ (row_lt HB1.out) id).trans HB1.out; have hb2 := (HK3.out.block _ (row_lt HB2.out) id).trans HB2.out; obtain ⟨x0, x1, x2, x3, x4⟩ := cells4 hb1; obtain ⟨z0, z1, z2, z3, z4⟩ := cells4 hb2; have HC2 := hid hb2; clear hv3 hk3 hb1 hb2))
  all_goals
    go_wp2_with fail
    obtain ⟨y0, y1, y2, y3⟩ := (set4c (row_other (row_other HC2.out (a := ⟨w.heap.size, 2, none⟩) (by simp) (.slice a1 av.length c1)) (a := ⟨w.heap.size, 3, none⟩) (by simp) (.slice a2 al.length c2)) (.int .i64 ae) (.int .i64 ap) (.slice a1 av.length c1) (.slice a2 al.length c2))
    refine bodyPost_ret (v := .agg #[.int .i64 ae, .int .i64 ap, .slice a1 av.length c1, .slice a2 al.length c2]) (by simp [results, Try.results16, go_sem, y0, y1, y2, y3]) rfl ⟨a1, c1, a2, c2, rfl, ?_, ?_⟩
    · have K := ((((((Kept.refl (fun g => g = w.heap.size ∨ g = w.heap.size + 1) w3).setCell (p := ⟨w.heap.size, 2, none⟩) (.inl (.inl rfl)) (.slice a1 av.length c1)).setCell (p := ⟨w.heap.size, 3, none⟩) (.inl (.inl rfl)) (.slice a2 al.length c2)).setCell (p := ⟨w.heap.size + 1, 0, none⟩) (.inl (.inr rfl)) (.int .i64 ae)).setCell (p := ⟨w.heap.size + 1, 1, none⟩) (.inl (.inr rfl)) (.int .i64 ap)).setCell (p := ⟨w.heap.size + 1, 2, none⟩) (.inl (.inr rfl)) (.slice a1 av.length c1)).setCell (p := ⟨w.heap.size + 1, 3, none⟩) (.inl (.inr rfl)) (.slice a2 al.length c2)
      have hz := HK2.out.size
      simp at hz
      refine ⟨((HV2.out.same HK3.out).kept K fun g _ hg => ?_).mono fun g _ hg => ?_, (HV3.out.kept K fun g _ hg => ?_).mono fun g _ hg => ?_, H.out.vb, H.out.lb⟩
      · simp; omega
      · simp; omega
      · omega
      · omega
    · exact (((((((((((Kept.refl _ _).alloc _).alloc _).trans HK2.out).trans HK3.out).setCell (.inr (Nat.le_refl _)) _).setCell (.inr (Nat.le_refl _)) _).setCell (.inr (Nat.le_succ _)) _).setCell (.inr (Nat.le_succ _)) _).setCell (.inr (Nat.le_succ _)) _).setCell (.inr (Nat.le_succ _)) _)
end Go.Proofs.Ytekkickbbbkkgaa
