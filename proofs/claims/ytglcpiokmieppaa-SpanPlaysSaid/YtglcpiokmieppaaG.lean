/- cut: the walk. -/
import Derived.Test.YtglcpiokmieppaaF
namespace Go.Proofs.Ytglcpiokmieppaa
open Go.RowKit

theorem Fresh.nil (n0 : Nat) (w : World) : Fresh n0 w (.slice none 0 0) [] := ⟨none, 0, rfl, Own.nil _ _ _, by simp [Value.ownBlock]⟩
/-- one more span in a fresh row, and the world of the append -/
theorem CutIn.at {F : Nat → Prop} {w wr : World} {sb : Nat} {S A B : List Sp} {va vb : Value} (h : CutIn F w wr sb S A B va vb) (hF : ∀ g, F g → g < w.heap.size) (q : Nat) (hq : q < S.length) :
    ∃ g cap, wr.cell? ⟨sb, 0, none⟩ = some (.slice (some ⟨g, 0, none⟩) S.length cap) ∧ S.length ≤ cap ∧ cap ≤ maxLen ∧ wr.cell? ⟨g, q * 2, none⟩ = some (.int .u32 S[q].1) ∧ wr.cell? ⟨g, q * 2 + 1, none⟩ = some (.int .u32 S[q].2) := by
  obtain ⟨ao, cap, h1, h2, h3⟩ := h.s.c
  obtain ⟨g, c, e, l1, l2⟩ := h2.some_of_pos (by omega)
  simp only [Value.slice.injEq] at e
  obtain ⟨rfl, _, rfl⟩ := e
  have c0 := row_cell h1 0
  simp at c0
  obtain ⟨x0, x1⟩ := scells_at S q S[q] (by simp [hq])
  obtain ⟨z0, e0⟩ := List.getElem?_eq_some_iff.1 x0
  obtain ⟨z1, e1⟩ := List.getElem?_eq_some_iff.1 x1
  refine ⟨g, cap, c0, l1, l2, ?_, ?_⟩
  · rw [← e0]; exact h2.cells rfl _ z0
  · rw [← e1]; exact h2.cells rfl _ z1
def DelPost (w : World) (v : Value) (n : Nat) (xs : List Value) (e : Ending) (w' : World) : Prop :=
  ∃ ao c, e = .returned (.slice ao n c) ∧ Own w' 46 2 (.slice ao n c) n xs ∧ Kept (fun k => v.ownBlock = some k) w w' ∧ ∀ g, (Value.slice ao n c).ownBlock = some g → v.ownBlock = some g
theorem del_le {w : World} {v : Value} {n : Nat} {xs : List Value} (h : Own w 46 2 v n xs) (h1 : ∀ u ∈ xs, u.oneCell' = true) (i j : Nat) (hij : i ≤ j) (hj : j ≤ n) :
    Calls Try.prog 27 #[v, .int .i64 i, .int .i64 j] w (DelPost w v (i + (n - j)) (xs.take (i * 2) ++ xs.drop (j * 2))) := by
  rcases Nat.lt_or_ge i j with hlt | hge
  · refine (del_any h h1 i j hlt hj).mono ?_
    rintro e w' ⟨c, rfl, ho, hk⟩
    refine ⟨_, c, rfl, ho, hk, fun g hg => ?_⟩
    revert hg
    generalize v.ownBlock = o
    cases o <;> simp [Value.ownBlock]
  · obtain rfl : i = j := by omega
    have e1 : xs.take (i * 2) ++ xs.drop (i * 2) = xs := List.take_append_drop _ _
    have e2 : i + (n - i) = n := by omega
    rw [e1, e2]
    rcases h.shape with ⟨rfl, rfl, _⟩ | ⟨g, cap, cur, rfl, _, hnc, hcm, _⟩
    · refine (del_none i hj (Nat.le_refl _) (Nat.zero_le _)).mono ?_
      rintro e w' ⟨rfl, rfl⟩
      exact ⟨_, _, rfl, h, Kept.refl _ _, fun g hg => hg⟩
    · refine (del_none i hj hnc hcm).mono ?_
      rintro e w' ⟨rfl, rfl⟩
      exact ⟨_, _, rfl, h, Kept.refl _ _, fun g hg => hg⟩
/-- the list of a set is laid anew in its cell -/
theorem SetAt.put {F : Nat → Prop} {w : World} {sb : Nat} {S0 S : List Sp} {ao : Option Addr} {c : Nat} {x : Value} (hb : w.heap[sb]? = some (.cells #[x] 66 (0, 0))) (m : F sb) (g : Good S) (ho : Own w 46 2 (.slice ao S.length c) S.length (scells S)) (hF : ∀ g, (Value.slice ao S.length c).ownBlock = some g → F g) : SetAt F (w.setCell ⟨sb, 0, none⟩ (.slice ao S.length c)) sb S :=
  ⟨⟨ao, c, row_set hb 0 _, ho.kept ((Kept.refl (fun k => k = sb) w).setCell (.inl rfl) _) (fun g hg e => ho.ne_block hb (by decide) (by rw [hg, e])), hF⟩, m, g, g.len⟩
theorem Fresh.own {n0 : Nat} {w : World} {v : Value} {L : List Sp} (h : Fresh n0 w v L) : Own w 46 2 v L.length (scells L) := by
  obtain ⟨a, c', rfl, h1, _⟩ := h
  exact h1
theorem src_two' {w : World} {E : TypeId} {b : Nat} (u v : Value) (h1 : u.oneCell' = true) (h2 : v.oneCell' = true) (hb : b = w.heap.size) : Src (w.alloc (.cells #[u, v] E)) 2 (.slice (some ⟨b, 0, none⟩) 1 1) 1 [u, v] := by
  subst hb
  exact src_two u v h1 h2
theorem CutIn.stay {F : Nat → Prop} {w wr w2 : World} {sb : Nat} {S A B : List Sp} {va vb : Value} (h : CutIn F w wr sb S A B va vb) (hk : Kept (fun _ => False) wr w2) : CutIn F w w2 sb S A B va vb :=
  ⟨h.s.kept hk (fun _ _ h => h), h.a.kept hk (fun _ _ h => h), h.b.kept hk (fun _ _ h => h), h.ne, h.k.trans hk⟩
theorem Fresh.lt {n0 : Nat} {w : World} {v : Value} {L : List Sp} (h : Fresh n0 w v L) {g : Nat} (hg : v.ownBlock = some g) : n0 ≤ g ∧ g < w.heap.size := by
  obtain ⟨ao, c, rfl, h1, h2⟩ := h
  exact ⟨h2 g hg, h1.lt hg⟩
theorem CutIn.stepA {F : Nat → Prop} {w wr w2 w3 : World} {sb : Nat} {S A B : List Sp} {va vb : Value} (h : CutIn F w wr sb S A B va vb) (hF : ∀ g, F g → g < w.heap.size) (x : Sp) {a3 : Option Addr} {c3 : Nat} (hk2 : Kept (fun _ => False) wr w2)
    (ho3 : Own w3 46 2 (.slice a3 (A.length + 1) c3) (A.length + 1) (scells A ++ [.int .u32 x.1, .int .u32 x.2])) (hk3 : Kept (fun k => va.ownBlock = some k) w2 w3) (hf3 : ∀ g, (Value.slice a3 (A.length + 1) c3).ownBlock = some g → va.ownBlock = some g ∨ w2.heap.size ≤ g) :
    CutIn F w w3 sb S (A ++ [x]) B (.slice a3 (A.length + 1) c3) vb := by
  have h2 := h.stay hk2
  have hw := h.k.size
  have hw2 := hk2.size
  refine ⟨h2.s.kept hk3 (fun g hg e => ?_), ⟨a3, c3, by simp, ?_, fun g hg => ?_⟩, h2.b.kept hk3 (fun g hg e => h.ne g e hg), fun g hg e => ?_, h2.k.trans' hk3 (fun i hi => .inr (h.a.lt hi).1)⟩
  · have := (h.a.lt e).1; have := hF g hg; omega
  · simpa [scells_app, scells, scell] using ho3
  · rw [show (A ++ [x]).length = A.length + 1 by simp] at hg
    rcases hf3 g hg with h1 | h1
    · exact (h.a.lt h1).1
    · omega
  · rcases hf3 g hg with h1 | h1
    · exact h.ne g h1 e
    · have := (h.b.lt e).2; omega
theorem CutIn.flip {F : Nat → Prop} {w wr : World} {sb : Nat} {S A B : List Sp} {va vb : Value} (h : CutIn F w wr sb S A B va vb) : CutIn F w wr sb S B A vb va := ⟨h.s, h.b, h.a, fun g hg e => h.ne g e hg, h.k⟩
set_option maxRecDepth 100000 in
set_option maxHeartbeats 2000000 in
theorem cut_any {F : Nat → Prop} {w : World} {sb : Nat} {S : List Sp} (h : SetAt F w sb S) (hF : ∀ g, F g → g < w.heap.size) (a b : Int) (hab : a ≤ b) (ha : 0 ≤ a) (hb : b ≤ 4294967295) :
    Calls Try.prog 26 #[.pointer (some ⟨sb, 0, none⟩), .int .u32 a, .int .u32 b] w (CutPost F w sb S a b) := by
  have H := hid h
  have HG := hid h.g
  have HN := hid h.n
  have HF := hid hF
  clear h hF
  go_enter Try.func26, Try.ntmps26
  go_wp2_with fail
  refine (after_any H.out a).mono ?_
  rintro e w1 ⟨rfl, hk1⟩
  have H1 := hid (H.out.kept hk1 (fun _ _ h => h)); have HK1 := hid hk1; clear hk1
  go_wp2_with fail
  go_loopw [10, 11, 12] (fun j va vb wr => ∃ k : Nat, k ≤ (cutM S a b).length ∧ j = .int .i64 ((aft S a + k : Nat) : Int) ∧ CutIn F w wr sb S (cutA ((cutM S a b).take k) a) (cutB ((cutM S a b).take k) b) va vb) (fun j _ _ _ => S.length - (intOf j).toNat)
  case atStart => exact ⟨0, Nat.zero_le _, by simp, H1.out, by simpa [cutA] using Fresh.nil _ _, by simpa [cutB] using Fresh.nil _ _, by simp [Value.ownBlock], HK1.out⟩
  case round =>
    obtain ⟨k, hk, rfl, C⟩ := hrel
    have HC := hid C; have HKK := hid hk
    obtain ⟨ao, cap, g1, g2, g3⟩ := C.s.c
    have c0 := row_cell g1 0
    simp at c0
    have hn := HN.out
    have G1 := hid g1; have G2 := hid g2; have G3 := hid g3
    clear g1 g2 g3 C
    by_cases hq : aft S a + k < S.length
    · obtain ⟨g, cap2, c1, l1, l2, y0, y1⟩ := HC.out.at HF.out _ hq
      rw [c0] at c1
      simp only [Option.some.injEq, Value.slice.injEq] at c1
      obtain ⟨rfl, _, rfl⟩ := c1
      obtain ⟨sx, hsx⟩ : ∃ sx, S[aft S a + k]'hq = sx := ⟨_, rfl⟩
      have hsb := HG.out.b _ (List.getElem_mem hq)
      rw [hsx] at y0 y1 hsb
      have hqs : S[aft S a + k]? = some sx := by rw [← hsx]; simp
      obtain ⟨p, q⟩ := sx
      simp only at y0 y1 hsb
      obtain ⟨b1, b2, b3⟩ := hsb
      unfold maxLen at l2
      have hql : ((aft S a + k : Nat) : Int) < (S.length : Int) := by omega
      have tw := (tw_step (fun x : Sp => decide (x.1 ≤ b)) (S.drop (aft S a)) k HKK.out).1 (p, q) (by rw [List.getElem?_drop]; exact hqs)
      by_cases hpb : p ≤ b
      · have hmk : (cutM S a b)[k]? = some (p, q) := tw.1 (by simpa using hpb)
        have HMK := hid hmk
        clear tw hmk hsx
        obtain ⟨aA, cA, eA, oA, fA⟩ := HC.out.a
        obtain ⟨aB, cB, eB, oB, fB⟩ := HC.out.b
        subst eA eB
        have OA := hid oA; have OB := hid oB; have FA := hid fA; have FB := hid fB
        clear oA oB fA fB
        have hMl : k < (cutM S a b).length := (List.getElem?_eq_some_iff.1 HMK.out).1
        have nA := cutA_len ((cutM S a b).take k) a
        have nB := cutB_len ((cutM S a b).take k) b
        simp only [List.length_take] at nA nB
        have hMs : (cutM S a b).take (k + 1) = (cutM S a b).take k ++ [(p, q)] := by rw [List.take_add_one, HMK.out]; rfl
        have HMS := hid hMs; clear hMs
        by_cases hpa : p < a
        · have wA : IntKind.u32.wrap (a - 1) = a - 1 := by simp [IntKind.wrap, IntKind.bits, IntKind.signed]; omega
          have eA : cutA ((cutM S a b).take (k + 1)) a = cutA ((cutM S a b).take k) a ++ [(p, a - 1)] := by rw [HMS.out, cutA_snoc, if_pos hpa]
          have EA := hid eA; clear eA
          by_cases hqb : b < q
          · have wB : IntKind.u32.wrap (b + 1) = b + 1 := by simp [IntKind.wrap, IntKind.bits, IntKind.signed]; omega
            have eB : cutB ((cutM S a b).take (k + 1)) b = cutB ((cutM S a b).take k) b ++ [(b + 1, q)] := by rw [HMS.out, cutB_snoc, if_pos hqb]
            have EB := hid eB; clear eB
            go_wp2_with (at_builtin; first
              | (with_reducible refine wpList_at 57 ?_; refine wpList_app (o := ⟨some 57, _, _, _, _, _⟩) rfl (.tmp 50) (.tmp 56) 37 rfl 46 (.agg #[.int .u32 0, .int .u32 0]) 2 8 Try.underlying37 infoS rfl (by decide) (.slice aA (cutA ((cutM S a b).take k) a).length cA) (cutA ((cutM S a b).take k) a).length (scells (cutA ((cutM S a b).take k) a)) (by simp [Act.eval, Act.put]) (by exact (OA.out.alloc _).alloc _) (.slice (some ⟨wr.heap.size + 1, 0, none⟩) 1 1) (by simp [Act.eval, Act.put]) 1 [.int .u32 p, .int .u32 (a - 1)] (by exact src_two' _ _ rfl rfl (by simp)) (by unfold maxLen; omega) (by omega) ?_; intro a3 c3 w3 ho3 hk3 hf3 _; have HC3 := hid (HC.out.stepA HF.out (p, a - 1) (((Kept.refl _ _).alloc _).alloc _) ho3 hk3 hf3); have z1 := hk3.cell (p := ⟨wr.heap.size, 1, none⟩) (v := .int .u32 q) (by simp) (fun e => by have := (HC.out.a.lt e).2; simp only at this; omega); clear ho3 hk3 hf3; have OB3 := hid HC3.out.b.own)
              | (with_reducible refine wpList_at 69 ?_; refine wpList_app (o := ⟨some 69, _, _, _, _, _⟩) rfl (.tmp 62) (.tmp 68) 37 rfl 46 (.agg #[.int .u32 0, .int .u32 0]) 2 8 Try.underlying37 infoS rfl (by decide) (.slice aB (cutB ((cutM S a b).take k) b).length cB) (cutB ((cutM S a b).take k) b).length (scells (cutB ((cutM S a b).take k) b)) (by simp [Act.eval, Act.put]) (by exact OB3.out.alloc _) (.slice (some ⟨w3.heap.size, 0, none⟩) 1 1) (by simp [Act.eval, Act.put]) 1 [.int .u32 (b + 1), .int .u32 q] (by exact src_two' _ _ rfl rfl (by simp)) (by unfold maxLen; omega) (by omega) ?_; intro a4 c4 w4 ho4 hk4 hf4 _; have HC4 := hid ((HC3.out).flip.stepA HF.out (b + 1, q) ((Kept.refl _ _).alloc _) ho4 hk4 hf4).flip; clear ho4 hk4 hf4))
            go_roundw
            case rel => exact ⟨k + 1, hMl, by go_num, by rw [EA.out, EB.out]; exact HC4.out⟩
            case measure => simp [intOf]; omega
          · have eB : cutB ((cutM S a b).take (k + 1)) b = cutB ((cutM S a b).take k) b := by rw [HMS.out, cutB_snoc, if_neg hqb, List.append_nil]
            have EB := hid eB; clear eB
            go_wp2_with (at_builtin; (with_reducible refine wpList_at 57 ?_; refine wpList_app (o := ⟨some 57, _, _, _, _, _⟩) rfl (.tmp 50) (.tmp 56) 37 rfl 46 (.agg #[.int .u32 0, .int .u32 0]) 2 8 Try.underlying37 infoS rfl (by decide) (.slice aA (cutA ((cutM S a b).take k) a).length cA) (cutA ((cutM S a b).take k) a).length (scells (cutA ((cutM S a b).take k) a)) (by simp [Act.eval, Act.put]) (by exact (OA.out.alloc _).alloc _) (.slice (some ⟨wr.heap.size + 1, 0, none⟩) 1 1) (by simp [Act.eval, Act.put]) 1 [.int .u32 p, .int .u32 (a - 1)] (by exact src_two' _ _ rfl rfl (by simp)) (by unfold maxLen; omega) (by omega) ?_; intro a3 c3 w3 ho3 hk3 hf3 _; have HC3 := hid (HC.out.stepA HF.out (p, a - 1) (((Kept.refl _ _).alloc _).alloc _) ho3 hk3 hf3); have z1 := hk3.cell (p := ⟨wr.heap.size, 1, none⟩) (v := .int .u32 q) (by simp) (fun e => by have := (HC.out.a.lt e).2; simp only at this; omega); clear ho3 hk3 hf3; have OB3 := hid HC3.out.b.own))
            go_roundw
            case rel => exact ⟨k + 1, hMl, by go_num, by rw [EA.out, EB.out]; exact HC3.out⟩
            case measure => simp [intOf]; omega
        · have eA : cutA ((cutM S a b).take (k + 1)) a = cutA ((cutM S a b).take k) a := by rw [HMS.out, cutA_snoc, if_neg hpa, List.append_nil]
          have EA := hid eA; clear eA
          by_cases hqb : b < q
          · have wB : IntKind.u32.wrap (b + 1) = b + 1 := by simp [IntKind.wrap, IntKind.bits, IntKind.signed]; omega
            have eB : cutB ((cutM S a b).take (k + 1)) b = cutB ((cutM S a b).take k) b ++ [(b + 1, q)] := by rw [HMS.out, cutB_snoc, if_pos hqb]
            have EB := hid eB; clear eB
            go_wp2_with (at_builtin; (with_reducible refine wpList_at 69 ?_; refine wpList_app (o := ⟨some 69, _, _, _, _, _⟩) rfl (.tmp 62) (.tmp 68) 37 rfl 46 (.agg #[.int .u32 0, .int .u32 0]) 2 8 Try.underlying37 infoS rfl (by decide) (.slice aB (cutB ((cutM S a b).take k) b).length cB) (cutB ((cutM S a b).take k) b).length (scells (cutB ((cutM S a b).take k) b)) (by simp [Act.eval, Act.put]) (by exact (OB.out.alloc _).alloc _) (.slice (some ⟨wr.heap.size + 1, 0, none⟩) 1 1) (by simp [Act.eval, Act.put]) 1 [.int .u32 (b + 1), .int .u32 q] (by exact src_two' _ _ rfl rfl (by simp)) (by unfold maxLen; omega) (by omega) ?_; intro a4 c4 w4 ho4 hk4 hf4 _; have HC4 := hid ((HC.out).flip.stepA HF.out (b + 1, q) (((Kept.refl _ _).alloc _).alloc _) ho4 hk4 hf4).flip; clear ho4 hk4 hf4))
            go_roundw
            case rel => exact ⟨k + 1, hMl, by go_num, by rw [EA.out, EB.out]; exact HC4.out⟩
            case measure => simp [intOf]; omega
          · have eB : cutB ((cutM S a b).take (k + 1)) b = cutB ((cutM S a b).take k) b := by rw [HMS.out, cutB_snoc, if_neg hqb, List.append_nil]
            have EB := hid eB; clear eB
            go_wp2
            go_roundw
            case rel => exact ⟨k + 1, hMl, by go_num, by rw [EA.out, EB.out]; exact HC.out.stay ((Kept.refl _ _).alloc _)⟩
            case measure => simp [intOf]; omega
      · have hke := tw.2 (by simpa using hpb)
        change k = (cutM S a b).length at hke
        clear tw hsx hqs
        have hjl : aft S a + k ≤ S.length := by
          have h1 := cutJ_le S a b
          unfold cutJ at h1
          omega
        have hs : S.take (aft S a) ++ S.drop (aft S a + k) = cutS S a b := by rw [cutS, cutJ, hke]
        have hsl : aft S a + (S.length - (aft S a + k)) = (cutS S a b).length := by have := aft_le S a; rw [← hs]; simp; omega
        have HS := hid hs; have HSL := hid hsl; have HKE := hid hke; clear hs hsl hke
        go_wp2_with fail
        refine (del_le G2.out (scells_one _) (aft S a) (aft S a + k) (Nat.le_add_right _ _) (by omega)).mono ?_
        rintro e w2 ⟨a2, c2, rfl, ho2, hk2, hb2⟩
        have HO2 := hid ho2; have HK2 := hid hk2; have HB2 := hid hb2; clear ho2 hk2 hb2
        have r2 := (HK2.out.block sb (row_lt G1.out) (G2.out.ne_block G1.out (by decide))).trans G1.out
        have c2' := row_cell r2 0
        have f2 := row_free r2 0
        have R2 := hid r2; clear r2
        simp at c2'
        go_wp2
        go_ret3
        have ho3 := HO2.out
        rw [← scells_take, ← scells_drop, ← scells_app, HS.out, HSL.out] at ho3
        have hgF : ∀ g, (Value.slice a2 (cutS S a b).length c2).ownBlock = some g → F g := fun g hg => G3.out g (HB2.out g (by rw [HSL.out]; exact hg))
        have hp := SetAt.put (S0 := S) R2.out HC.out.s.m (HG.out.cutS a b) ho3 hgF
        have hkf : Kept F w (w2.setCell ⟨sb, 0, none⟩ (.slice a2 (cutS S a b).length c2)) := ((HC.out.k.mono (fun _ _ h => h.elim)).trans' HK2.out (fun i hi => .inl (G3.out i hi))).setCell (.inl HC.out.s.m) _
        have hkw : Kept F wr (w2.setCell ⟨sb, 0, none⟩ (.slice a2 (cutS S a b).length c2)) := (HK2.out.mono (fun i _ hi => G3.out i hi)).setCell (.inl HC.out.s.m) _
        have hM : (cutM S a b).take k = cutM S a b := by rw [HKE.out]; exact List.take_length
        have hCa := HC.out.a; have hCb := HC.out.b
        rw [hM] at hCa hCb
        rw [HSL.out]
        have hfr : ∀ v L, Fresh w.heap.size wr v L → Fresh w.heap.size (w2.setCell ⟨sb, 0, none⟩ (.slice a2 (cutS S a b).length c2)) v L := fun v L hv => hv.kept hkw (fun g hg hF => by obtain ⟨o, c, rfl, _, h⟩ := hv; have := h g hg; have := HF.out g hF; omega)
        exact ⟨_, _, rfl, hp, hfr _ _ hCa, hfr _ _ hCb, HC.out.ne, hkf⟩
    · have hke : k = (cutM S a b).length := by
        have h1 := cutJ_le S a b
        unfold cutJ at h1
        omega
      have hjl : aft S a + k ≤ S.length := by
        have h1 := cutJ_le S a b
        unfold cutJ at h1
        omega
      have hs : S.take (aft S a) ++ S.drop (aft S a + k) = cutS S a b := by rw [cutS, cutJ, hke]
      have hsl : aft S a + (S.length - (aft S a + k)) = (cutS S a b).length := by have := aft_le S a; rw [← hs]; simp; omega
      have HS := hid hs; have HSL := hid hsl; have HKE := hid hke; clear hs hsl hke
      go_wp2_with fail
      refine (del_le G2.out (scells_one _) (aft S a) (aft S a + k) (Nat.le_add_right _ _) (by omega)).mono ?_
      rintro e w2 ⟨a2, c2, rfl, ho2, hk2, hb2⟩
      have HO2 := hid ho2; have HK2 := hid hk2; have HB2 := hid hb2; clear ho2 hk2 hb2
      have r2 := (HK2.out.block sb (row_lt G1.out) (G2.out.ne_block G1.out (by decide))).trans G1.out
      have c2' := row_cell r2 0
      have f2 := row_free r2 0
      have R2 := hid r2; clear r2
      simp at c2'
      go_wp2
      go_ret3
      have ho3 := HO2.out
      rw [← scells_take, ← scells_drop, ← scells_app, HS.out, HSL.out] at ho3
      have hgF : ∀ g, (Value.slice a2 (cutS S a b).length c2).ownBlock = some g → F g := fun g hg => G3.out g (HB2.out g (by rw [HSL.out]; exact hg))
      have hp := SetAt.put (S0 := S) R2.out HC.out.s.m (HG.out.cutS a b) ho3 hgF
      have hkf : Kept F w (w2.setCell ⟨sb, 0, none⟩ (.slice a2 (cutS S a b).length c2)) := ((HC.out.k.mono (fun _ _ h => h.elim)).trans' HK2.out (fun i hi => .inl (G3.out i hi))).setCell (.inl HC.out.s.m) _
      have hkw : Kept F wr (w2.setCell ⟨sb, 0, none⟩ (.slice a2 (cutS S a b).length c2)) := (HK2.out.mono (fun i _ hi => G3.out i hi)).setCell (.inl HC.out.s.m) _
      have hM : (cutM S a b).take k = cutM S a b := by rw [HKE.out]; exact List.take_length
      have hCa := HC.out.a; have hCb := HC.out.b
      rw [hM] at hCa hCb
      rw [HSL.out]
      have hfr : ∀ v L, Fresh w.heap.size wr v L → Fresh w.heap.size (w2.setCell ⟨sb, 0, none⟩ (.slice a2 (cutS S a b).length c2)) v L := fun v L hv => hv.kept hkw (fun g hg hF => by obtain ⟨o, c, rfl, _, h⟩ := hv; have := h g hg; have := HF.out g hF; omega)
      exact ⟨_, _, rfl, hp, hfr _ _ hCa, hfr _ _ hCb, HC.out.ne, hkf⟩
end Go.Proofs.Ytglcpiokmieppaa
