/- Pages: the walk. -/
import Derived.Test.YtfmohmlpcielnaaN
namespace Go.Proofs.Ytfmohmlpcielnaa
open Go.RowKit
theorem infoSl : (Try.prog.info? 29).map (fun i => (i.zero, i.size, i.bytes)) = some (some (.slice none 0 0), 1, 24) := by kernel_rfl
/-- a list of pages that is new -/
structure PagesAt (W w : World) (v : Value) (PL : List (List It)) (vs : List Value) : Prop where
  s : Seg w 29 1 v PL.length vs
  f : ∀ g, v.ownBlock = some g → W.heap.size ≤ g
  p : ∀ (i : Nat) (L : List It), PL[i]? = some L → ∃ u, vs[i]? = some u ∧ Seg w 33 2 u L.length (icells L) ∧ (∀ g, u.ownBlock = some g → W.heap.size ≤ g)
theorem PagesAt.one {W w : World} {v : Value} {PL : List (List It)} {vs : List Value} (h : PagesAt W w v PL vs) : ∀ u ∈ vs, u.oneCell' = true := by
  intro u hu
  obtain ⟨i, hi, e⟩ := List.mem_iff_getElem.1 hu
  have hl : vs.length = PL.length := by have := h.s.len; omega
  obtain ⟨u', h1, h2, _⟩ := h.p i PL[i] (List.getElem?_eq_getElem (by omega))
  rw [List.getElem?_eq_getElem hi, e] at h1
  cases h1
  exact h2.one
theorem PagesAt.kept {W w w' : World} {v : Value} {PL : List (List It)} {vs : List Value} {K : Nat → Prop} (h : PagesAt W w v PL vs) (k : Kept K w w') (hv : ∀ g, v.ownBlock = some g → ¬ K g) (hp : ∀ u ∈ vs, ∀ g, u.ownBlock = some g → ¬ K g) : PagesAt W w' v PL vs :=
  ⟨h.s.kept k hv, h.f, fun i L hL => by
    obtain ⟨u, h1, h2, h3⟩ := h.p i L hL
    exact ⟨u, h1, h2.kept k (hp u (List.mem_of_getElem? h1)), h3⟩⟩
theorem PagesAt.same {W w w' : World} {v : Value} {PL : List (List It)} {vs : List Value} (h : PagesAt W w v PL vs) (k : Kept (fun _ => False) w w') : PagesAt W w' v PL vs := h.kept k (fun _ _ h => h) (fun _ _ _ _ h => h)
def PagesPost (w : World) (PL : List (List It)) (e : Ending) (w' : World) : Prop := ∃ ao c vs, e = .returned (.slice ao PL.length c) ∧ PagesAt w w' (.slice ao PL.length c) PL vs ∧ Kept (fun _ => False) w w'
set_option maxRecDepth 100000 in
set_option maxHeartbeats 8000000 in
theorem pages_any {F : Nat → Prop} {w : World} {xb : Nat} {PL : List (List It)} (h : IxOk F w xb PL) :
    Calls Try.prog 16 #[.pointer (some ⟨xb, 0, none⟩)] w (PagesPost w PL) := by
  obtain ⟨hw, hn, pv, S, rfl, h⟩ := h
  have hle := hw.pages
  have hSl : S.length ≤ 4096 := by simp [pl] at hle; simp [pl] at hn; omega
  obtain ⟨ao, cap0, rfl⟩ := h.s.isSlice
  have c0 : w.cell? ⟨xb, 0, none⟩ = some (.slice ao S.length cap0) := row_cell h.r 0
  have hpl : (pl S).length = S.length := by simp [pl]
  have H := hid h; have HW := hid hw; have HPL := hid hpl
  clear h hw hle hn hpl
  go_enter Try.func16, Try.ntmps16
  go_wp2_with fail
  go_loopw [3, 13] (fun o i wr => ∃ (k : Nat) (a : Option Addr) (c : Nat) (vs : List Value), k ≤ S.length ∧ o = .slice a k c ∧ i = .int .i64 k ∧ PagesAt w wr (.slice a k c) ((pl S).take k) vs ∧ Kept (fun _ => False) w wr) (fun _ i _ => S.length - (intOf i).toNat)
  case atStart => exact ⟨0, none, 0, [], Nat.zero_le _, rfl, rfl, ⟨Seg.nil _ _ _, by simp [Value.ownBlock], by simp⟩, Kept.refl _ _⟩
  case round =>
    rename World => wA
    obtain ⟨k, a, c, vs, hk, rfl, rfl, hp, hkk⟩ := hrel
    have HP := hid hp; have HK := hid hkk
    clear hp hkk
    by_cases hlt : k < S.length
    · have hltI : (k : Int) < (S.length : Int) := by omega
      obtain ⟨L, hL⟩ : ∃ L, (pl S)[k]? = some L := ⟨_, List.getElem?_eq_getElem (by simpa [pl] using hlt)⟩
      obtain ⟨pb, iv, hx⟩ := pl_at hL
      have hmem := List.mem_of_getElem? hx
      have hpg : PgAt wA pb iv L := (H.out.p _ hmem : PgAt w pb iv L).same HK.out
      obtain ⟨pg, pcap, e, q3, q4⟩ := H.out.s.some_of_pos (by omega)
      simp only [Value.slice.injEq] at e
      obtain ⟨rfl, _, rfl⟩ := e
      unfold maxLen at q4
      obtain ⟨ai, ci, rfl⟩ := hpg.s.isSlice
      have c1 : wA.cell? ⟨pg, k, none⟩ = some (.pointer (some ⟨pb, 0, none⟩)) := HK.out.cell ((H.out.s.cells rfl k (by simp [ptrs]; omega)).trans (by
        obtain ⟨_, e⟩ := List.getElem?_eq_some_iff.1 hx
        simp [ptrs, e])) (fun h => h)
      have c2 : wA.cell? ⟨pb, 0, none⟩ = some (.slice ai L.length ci) := row_cell hpg.r 0
      have hL8 := (HW.out.ne L (List.mem_of_getElem? hL)).2
      have HX := hid hx; have HL := hid hL; have HPg := hid hpg
      clear hmem hx hL hpg
      go_wp2_with fail
      refine (clone_any (HPg.out.s.src (icells_one _)) (by omega)).mono ?_
      rintro e wB ⟨a5, c5, rfl, hs5, hf5, hk5⟩
      have S5 := hid hs5; have F5 := hid hf5; have K5 := hid hk5; have HP5 := hid (HP.out.same hk5)
      clear hs5 hf5 hk5
      have hl : ((pl S).take k).length = k := by simp [pl]; omega
      have HSx := hid HP5.out.s
      rw [hl] at HSx
      go_wp2_with (at_builtin; refine wpList_app_seg rfl (.tmp 17) (.tmp 23) 44 rfl 29 (.slice none 0 0) 1 24 Try.underlying44 infoSl rfl (by decide) (.slice a k c) k vs rfl (by exact HSx.out.alloc _) (.slice (some ⟨wB.heap.size, 0, none⟩) 1 1) rfl 1 [.slice a5 L.length c5] (by exact (Seg.mk (size := 1) (n := 1) (cap := 1) (row_new wB (.cells #[.slice a5 L.length c5] 29)) (Nat.le_refl _) (by unfold maxLen; omega) (by simp)).src (by intro u hu; simp at hu; subst hu; rfl)) (by unfold maxLen; omega) (by omega) ?_; intro a3 c3 w3 hs3 hk3 hf3; have HS3 := hid hs3; have HK3 := hid hk3; have HF3 := hid hf3; clear hs3 hk3 hf3)
      go_roundw
      case rel =>
        have et : (pl S).take (k + 1) = (pl S).take k ++ [L] := by
          obtain ⟨hl', e⟩ := List.getElem?_eq_some_iff.1 HL.out
          rw [← e, List.take_succ_eq_append_getElem hl']
        have hvl : vs.length = k := by have := HSx.out.len; omega
        have hz := K5.out.size
        have hz2 := HK.out.size
        refine ⟨k + 1, a3, c3, vs ++ [.slice a5 L.length c5], by omega, rfl, by go_num, ⟨?_, ?_, ?_⟩, ((HK.out.trans K5.out).alloc _).trans' HK3.out (fun g hg => .inr (HP.out.f g hg))⟩
        · rw [et, List.length_append, hl]; exact HS3.out
        · intro g hg
          rcases HF3.out g hg with e | e
          · exact HP.out.f g e
          · simp at e; omega
        · intro i M hM
          rw [et] at hM
          by_cases hik : i < k
          · rw [List.getElem?_append_left (by omega)] at hM
            obtain ⟨u, h1, h2, h3⟩ := HP5.out.p i M hM
            refine ⟨u, by rw [List.getElem?_append_left (by omega)]; exact h1, (h2.alloc _).kept HK3.out (fun g hg hk => h2.ne HSx.out (by decide) hg hk), h3⟩
          · rw [List.getElem?_append_right (by omega), hl] at hM
            have hi : i - k = 0 := by
              rcases Nat.eq_zero_or_pos (i - k) with e | e
              · exact e
              · rw [List.getElem?_eq_none (by simp; omega)] at hM; cases hM
            rw [hi] at hM
            simp at hM
            subst hM
            refine ⟨_, by rw [List.getElem?_append_right (by omega), hvl, hi]; rfl, (S5.out.alloc _).kept HK3.out (fun g hg hk => S5.out.ne HSx.out (by decide) hg hk), fun g hg => Nat.le_trans hz2 (F5.out g hg)⟩
      case measure => simp [intOf]; omega
    · obtain rfl : k = S.length := by omega
      go_wp2
      go_ret
      have hp := HP.out
      rw [List.take_of_length_le (by rw [HPL.out]; exact Nat.le_refl _)] at hp
      exact ⟨a, c, vs, by rw [HPL.out]; rfl, by rw [HPL.out]; exact hp, HK.out⟩
end Go.Proofs.Ytfmohmlpcielnaa
