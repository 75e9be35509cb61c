/- Eldest. -/
import Derived.Test.YtfkkfjmdpkgicaaO
namespace Go.Proofs.Ytfkkfjmdpkgicaa
open Go.RowKit Go.Shelf
set_option maxHeartbeats 1000000 in
theorem eldest_any {F : Nat → Prop} {w : World} {a : Option Addr} {N c : Nat} {y : Sp} {L : List Sp} (h : Lies F w 4 (.slice a N c) N ((y :: L).flatMap encS)) (hLN : (y :: L).length = N) (hN : N ≤ 1000000) :
    Calls Try.prog 18 #[.slice a N c] w fun e w' => e = .returned (.tuple #[sv (minS y L), .bool true]) ∧ Kept (fun _ => False) w w' := by
  have hN1 : 1 ≤ N := by rw [← hLN]; simp
  have hz : ((N : Int) == 0) = false := by rw [beq_eq_false_iff_ne]; omega
  have k1 := (Kept.refl (fun _ => False) w).alloc (.cells #[.int .u64 0, .int .u8 0, .int .u32 0, .int .u32 0] 48)
  have hr1 := row_new w (.cells #[.int .u64 0, .int .u8 0, .int .u32 0, .int .u32 0] 48)
  have hl1 := h.same k1
  obtain ⟨w1, hw1⟩ : ∃ w1, w.alloc (.cells #[.int .u64 0, .int .u8 0, .int .u32 0, .int .u32 0] 48) = w1 := ⟨_, rfl⟩
  obtain ⟨rb, hrb⟩ : ∃ rb, w.heap.size = rb := ⟨_, rfl⟩
  rw [hw1] at k1 hr1 hl1
  rw [hrb] at hr1
  have HL := hid hl1; have HN := hid hLN; have K1 := hid k1; have R1 := hid hr1; have HRB := hid (Nat.le_of_eq hrb)
  clear h hLN k1 hr1 hl1
  go_enter Try.func18, Try.ntmps18
  go_wp2_with fail
  refine (minfunc_any HL.out HN.out hN).mono ?_
  rintro e w2 ⟨rfl, hk⟩
  obtain ⟨⟨m1, m2, m3, m4⟩, hm⟩ : ∃ m, minS y L = m := ⟨_, rfl⟩
  rw [hm]
  simp only [sv]
  have rr := (hk.block rb (row_lt R1.out) id).trans R1.out
  have RR := hid rr; have K2 := hid (K1.out.trans hk)
  obtain ⟨c0, c1, c2, c3⟩ := cells4' rr
  obtain ⟨f0, f1, f2, f3⟩ := four_free rr
  have HM := hid hm
  clear hk rr hm hw1 hrb
  go_wp2
  obtain ⟨wZ, hZ, h1, h2⟩ := four_set RR.out (.int .u64 m1) (.int .u8 m2) (.int .u32 m3) (.int .u32 m4)
  rw [hZ]
  obtain ⟨z0, z1, z2, z3⟩ := cells4' h1
  have KZ := hid (K2.out.trans' h2 (fun i e => .inr (by rw [e]; exact HRB.out)))
  clear hZ h1 h2
  refine bodyPost_ret (v := .tuple #[.agg #[.int .u64 m1, .int .u8 m2, .int .u32 m3, .int .u32 m4], .bool true]) (by simp [results, Try.results18, go_sem, z0, z1, z2, z3]) rfl ?_
  exact ⟨by rw [HM.out]; rfl, KZ.out⟩
set_option maxHeartbeats 1000000 in
theorem eldest_nil {w : World} {a : Option Addr} {c : Nat} :
    Calls Try.prog 18 #[.slice a 0 c] w fun e w' => e = .returned (.tuple #[sv (0, 0, 0, 0), .bool false]) ∧ Kept (fun _ => False) w w' := by
  go_enter Try.func18, Try.ntmps18
  go_wp2
  go_returns
  exact ⟨rfl, Kept.of_below (by go_grown) _⟩
/-! the plain law: the eldest -/
theorem minS_le (m : Sp) : ∀ L : List Sp, ¬ eldS m (minS m L)
  := fun L => by
    induction L generalizing m with
    | nil => exact eld_irrefl m
    | cons y L ih =>
      show ¬ eldS m (minS (if eldS y m then y else m) L)
      split
      · rename_i h
        intro hm
        exact ih y (eld_trans h hm)
      · exact ih m
theorem minS_mem (m : Sp) : ∀ L : List Sp, minS m L = m ∨ minS m L ∈ L
  := fun L => by
    induction L generalizing m with
    | nil => exact .inl rfl
    | cons y L ih =>
      show minS (if eldS y m then y else m) L = m ∨ minS (if eldS y m then y else m) L ∈ y :: L
      split
      · rcases ih y with h | h
        · rw [h]; exact .inr (by simp)
        · exact .inr (by simp [h])
      · rcases ih m with h | h
        · exact .inl h
        · exact .inr (by simp [h])
theorem minS_all (m : Sp) : ∀ L : List Sp, ∀ x ∈ L, ¬ eldS x (minS m L)
  := fun L => by
    induction L generalizing m with
    | nil => intro x hx; cases hx
    | cons y L ih =>
      intro x hx
      show ¬ eldS x (minS (if eldS y m then y else m) L)
      rcases List.mem_cons.1 hx with rfl | hx
      · split
        · exact minS_le _ L
        · rename_i h
          exact eld_ntrans h (minS_le m L)
      · exact ih _ x hx
end Go.Proofs.Ytfkkfjmdpkgicaa
