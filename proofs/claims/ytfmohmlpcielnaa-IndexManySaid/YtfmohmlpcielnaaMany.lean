/- PROVED: the law IndexMany returns true for every input and leaves its arguments as they were. No condition. -/
import Derived.Test.YtfmohmlpcielnaaRe
namespace Go.Proofs.Ytfmohmlpcielnaa
set_option maxRecDepth 100000 in
theorem indexMany_lifted (os : Os) (started : os.Started) (H : Type) (enc : TypeId × Value → H) :
    ReturnsInHanded {} Try.checked os 4 .any (Rows.indexManySpec.pre6 enc Try.prog Try.f4 Rows.indexManyRow.domain false) (Rows.indexManySpec.post enc Try.prog Try.f4 false true false false) :=
  lawLift (C := Try.checked) (s := Rows.indexManySpec) (bt := 4) (by kernel_rfl) started (by kernel_rfl) Try.func4 (by kernel_rfl)
    (by rw [Try.params4]; intro t ht; simp only [List.mem_cons, List.not_mem_nil, or_false] at ht; rcases ht with rfl | rfl | rfl <;> exact ⟨by kernel_rfl, of_decide_eq_true (by kernel_rfl)⟩)
    rfl rfl Try.underlying4 (by intro ds h; rw [Try.params4] at h; match ds, h with | [_, _, _], _ => rfl)
    (ChangeSpec.witness6 (enc := enc) (C := Try.checked) false ⟨#[], #[.int .u64 0, .int .u16 0, .int .u64 0], []⟩ 8 (by kernel_rfl) (by kernel_rfl) (by kernel_rfl) (by kernel_rfl))
    many_walk
theorem indexMany_holds : Rows.IndexManySaid :=
  OpenClaim.holds_of_wide 4 Try.f4 rfl rfl rfl rfl rfl rfl rfl ⟨rfl, rfl, rfl, rfl, rfl⟩ rfl rfl rfl rfl rfl (by kernel_rfl) Try.func4 (by kernel_rfl)
    (of_decide_eq_true (by kernel_rfl)) (by unfold Func.isWrapper; rw [if_neg (of_decide_eq_false (by kernel_rfl))]; exact ⟨rfl, rfl⟩)
    (fun os started H enc _ => indexMany_lifted os started H enc)
#print axioms indexMany_holds
end Go.Proofs.Ytfmohmlpcielnaa
