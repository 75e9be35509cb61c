/- PROVED: the law PlateAgain returns true for every input and leaves its arguments as they were. No condition. -/
import Derived.Test.YtnfdkpjklenllaaQ
namespace Go.Proofs.Ytnfdkpjklenllaa
set_option maxRecDepth 100000 in
theorem plateAgain_lifted (os : Os) (started : os.Started) (H : Type) (enc : TypeId × Value → H) :
    ReturnsInHanded {} Try.checked os 3 .any (Rows.plateAgainSpec.pre6 enc Try.prog Try.f3 Rows.plateAgainRow.domain false) (Rows.plateAgainSpec.post enc Try.prog Try.f3 false true false false) :=
  lawLift (C := Try.checked) (s := Rows.plateAgainSpec) (bt := 4) (by kernel_rfl) started (by kernel_rfl) Try.func3 (by kernel_rfl)
    (by rw [Try.params3]; intro t ht; simp only [List.mem_cons, List.not_mem_nil, or_false] at ht; rcases ht with rfl | rfl | rfl | rfl <;> exact ⟨by kernel_rfl, of_decide_eq_true (by kernel_rfl)⟩)
    rfl rfl Try.underlying4 (by intro ds h; rw [Try.params3] at h; match ds, h with | [_, _, _, _], _ => rfl)
    (ChangeSpec.witness6 (enc := enc) (C := Try.checked) false ⟨#[], #[.slice none 0 0, .slice none 0 0, .slice none 0 0, .bool false], []⟩ 8 (by kernel_rfl) (by kernel_rfl) (by kernel_rfl) (by kernel_rfl))
    again_walk
theorem plateAgain_holds : Rows.PlateAgainSaid :=
  OpenClaim.holds_of_wide 3 Try.f3 rfl rfl rfl rfl rfl rfl rfl ⟨rfl, rfl, rfl, rfl, rfl⟩ rfl rfl rfl rfl rfl (by kernel_rfl) Try.func3 (by kernel_rfl)
    (of_decide_eq_true (by kernel_rfl)) (by unfold Func.isWrapper; rw [if_neg (of_decide_eq_false (by kernel_rfl))]; exact ⟨rfl, rfl⟩)
    (fun os started H enc _ => plateAgain_lifted os started H enc)
#print axioms plateAgain_holds
end Go.Proofs.Ytnfdkpjklenllaa
