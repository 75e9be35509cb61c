/- Drop: the walk. -/
import Derived.Test.YtglcpiokmieppaaG
import Derived.Test.YtglcpiokmieppaaI
namespace Go.Proofs.Ytglcpiokmieppaa
open Go.RowKit

theorem SetAt.mono {F G : Nat → Prop} {w : World} {sb : Nat} {S : List Sp} (h : SetAt F w sb S) (hg : ∀ g, F g → G g) : SetAt G w sb S := by
  obtain ⟨ao, cap, h1, h2, h3⟩ := h.c
  exact ⟨⟨ao, cap, h1, h2, fun g hb => hg g (h3 g hb)⟩, hg _ h.m, h.g, h.n⟩
theorem cutS_take (S : List Sp) (a b : Int) : (cutS S a b).take (aft S a) = S.take (aft S a) := by
  have := aft_le S a
  unfold cutS
  exact List.take_left' (by simp; omega)
theorem cutS_drop (S : List Sp) (a b : Int) : (cutS S a b).drop (aft S a) = S.drop (cutJ S a b) := by
  have := aft_le S a
  unfold cutS
  exact List.drop_left' (by simp; omega)
theorem cutS_len (S : List Sp) (a b : Int) : aft S a ≤ (cutS S a b).length := by
  have := aft_le S a
  simp [cutS]; omega
def SetPost (F : Nat → Prop) (w : World) (sb : Nat) (a b : Int) (S : List Sp) (e : Ending) (w' : World) : Prop :=
  e = .returned (.int .i64 (chk a b)) ∧ SetAt (fun g => F g ∨ w.heap.size ≤ g) w' sb S ∧ Kept F w w'
set_option maxRecDepth 100000 in
set_option maxHeartbeats 2000000 in
theorem drop_any {F : Nat → Prop} {w : World} {sb : Nat} {S : List Sp} (h : SetAt F w sb S) (hF : ∀ g, F g → g < w.heap.size) (a b : Int) (ha : 0 ≤ a) (hb : b ≤ 4294967295) :
    Calls Try.prog 11 #[.pointer (some ⟨sb, 0, none⟩), .int .u32 a, .int .u32 b] w (SetPost F w sb a b (dropS S a b)) := by
  have H := hid h
  have HF := hid hF
  clear h hF
  by_cases hab : b < a
  · go_enter Try.func11, Try.ntmps11
    go_wp2_with fail
    refine (check_any sb a b _).mono ?_
    rintro e w1 ⟨rfl, rfl⟩
    have hc : chk a b = 1 := by simp [chk, hab]
    rw [hc]
    go_wp2
    go_ret
    refine ⟨by rw [hc]; rfl, ?_, Kept.refl _ _⟩
    rw [dropS, if_pos hab]
    exact H.out.mono (fun _ h => .inl h)
  · go_enter Try.func11, Try.ntmps11
    go_wp2_with fail
    refine (check_any sb a b _).mono ?_
    rintro e w1 ⟨rfl, rfl⟩
    have hc : chk a b = 0 := by simp [chk, hab]
    rw [hc]
    have HC := hid hc; clear hc
    go_wp2_with fail
    refine (cut_any H.out HF.out a b (by omega) ha hb).mono ?_
    rintro e w2 ⟨va, vb, rfl, hs, hfa, hfb, hne, hk⟩
    obtain ⟨ao, cap, g1, g2, g3⟩ := hs.c
    have hsz := hk.size
    have fa := fun g => hfa.lt (g := g)
    have fb := fun g => hfb.lt (g := g)
    obtain ⟨aA, cA, rfl, oA, _⟩ := hfa
    obtain ⟨aB, cB, rfl, oB, _⟩ := hfb
    have c0 := row_cell g1 0
    simp at c0
    have HS := hid hs; have HK := hid hk; have G1 := hid g1; have G2 := hid g2; have G3 := hid g3; have FA := hid fa; have FB := hid fb; have OA := hid oA; have OB := hid oB; have NE := hid hne
    have nA := cutA_len (cutM S a b) a
    have nB := cutB_len (cutM S a b) b
    have nM := cutJ_le S a b
    unfold cutJ at nM
    have nS := H.out.g.len
    have nC := (H.out.g.cutS a b).len
    clear hs hk g1 g2 g3 fa fb oA oB hne
    go_wp2_with fail
    go_region_law (first
      | (refine step_app rfl (.tmp 32) (.tmp 33) 37 rfl 46 (.agg #[.int .u32 0, .int .u32 0]) 2 8 Try.underlying37 infoS rfl (by decide) (.slice aA (cutA (cutM S a b) a).length cA) (cutA (cutM S a b) a).length (scells (cutA (cutM S a b) a)) (by simp [Act.eval, Act.put]) (by exact OA.out.drew) (.slice aB (cutB (cutM S a b) b).length cB) (by simp [Act.eval, Act.put]) (cutB (cutM S a b) b).length (scells (cutB (cutM S a b) b)) (by exact OB.out.src (scells_one _)) (by unfold maxLen; omega) (by omega) ?_; intro a3 c3 w3 ho3 hk3 hf3 _; have c3' := hk3.cell c0 (fun e => by have h1 : w.heap.size ≤ sb := (FA.out _ e).1; have := HF.out _ HS.out.m; omega); have HO3 := hid ho3; have HK3 := hid (Kept.of_drew hk3); have HF3 := hid hf3; clear ho3 hk3 hf3)
      | (go_simp; go_at_call 28; refine (ins_any (G2.out.kept HK3.out (fun g hg e => by have := (FA.out _ e).1; have := HF.out _ (G3.out _ hg); omega)) (scells_one _) (aft S a) (cutS_len S a b) HO3.out (by intro u hu; rw [← scells_app] at hu; exact scells_one _ u hu) (fun g hg e => by have h1 := HF.out _ (G3.out _ e); rcases HF3.out _ hg with h2 | h2; (have := (FA.out _ h2).1; omega); ((try simp at h2); omega)) (by omega)).mono ?_; rintro e w4 ⟨a4, c4, rfl, ho4, hk4, hf4⟩; have hr4 := (hk4.block sb (row_lt ((HK3.out.block sb (row_lt G1.out) (fun e => by have := (FA.out _ e).1; have := HF.out _ HS.out.m; omega)).trans G1.out)) (G2.out.ne_block G1.out (by decide))).trans ((HK3.out.block sb (row_lt G1.out) (fun e => by have := (FA.out _ e).1; have := HF.out _ HS.out.m; omega)).trans G1.out); have c4' := row_cell hr4 0; have f4' := row_free hr4 0; simp at c4'; have HR4 := hid hr4; have HO4 := hid ho4; have HK4 := hid hk4; have HF4 := hid hf4; clear hr4 ho4 hk4 hf4))
    all_goals
      go_wp2
      go_ret
      have hd : dropS S a b = (cutS S a b).take (aft S a) ++ (cutA (cutM S a b) a ++ cutB (cutM S a b) b) ++ (cutS S a b).drop (aft S a) := by rw [dropS, if_neg (by omega), cutS_take, cutS_drop]
      have hlen : (cutS S a b).length + ((cutA (cutM S a b) a).length + (cutB (cutM S a b) b).length) = (dropS S a b).length := by
        have := cutS_len S a b
        rw [hd]; simp; omega
      have ho := HO4.out
      have hfo := HF4.out
      rw [← scells_take, ← scells_drop, ← scells_app, ← scells_app, ← scells_app, ← hd] at ho
      rw [hlen] at ho hfo ⊢
      refine ⟨by rw [HC.out]; rfl, SetAt.put (S0 := S) HR4.out (.inl HS.out.m) (drop_law H.out.g a b ha hb).1 ho (fun g hg => ?_), ?_⟩
      · rcases hfo g hg with h1 | h1
        · exact .inl (G3.out g h1)
        · right; have := HK3.out.size; omega
      · exact ((HK.out.trans' HK3.out (fun i hi => .inr (FA.out i hi).1)).trans' HK4.out (fun i hi => .inl (G3.out i hi))).setCell (.inl HS.out.m) _
end Go.Proofs.Ytglcpiokmieppaa
