/- PROVED: the law PlatePlays returns true for every input and leaves its arguments as they were. No condition. -/
import Derived.Test.YtnfdkpjklenllaaDt
namespace Go.Proofs.Ytnfdkpjklenllaa
set_option maxRecDepth 100000 in
theorem platePlays_lifted (os : Os) (started : os.Started) (H : Type) (enc : TypeId × Value → H) :
    ReturnsInHanded {} Try.checked os 7 .any (Rows.platePlaysSpec.pre6 enc Try.prog Try.f7 Rows.platePlaysRow.domain false) (Rows.platePlaysSpec.post enc Try.prog Try.f7 false true false false) :=
  lawLift (C := Try.checked) (s := Rows.platePlaysSpec) (bt := 4) (by kernel_rfl) started (by kernel_rfl) Try.func7 (by kernel_rfl)
    (by rw [Try.params7]; intro t ht; simp only [List.mem_cons, List.not_mem_nil, or_false] at ht; rcases ht with rfl | rfl <;> exact ⟨by kernel_rfl, of_decide_eq_true (by kernel_rfl)⟩)
    rfl rfl Try.underlying4 (by intro ds h; rw [Try.params7] at h; match ds, h with | [_, _], _ => rfl)
    (ChangeSpec.witness6 (enc := enc) (C := Try.checked) false ⟨#[], #[.int .i64 0, .slice none 0 0], []⟩ 8 (by kernel_rfl) (by kernel_rfl) (by kernel_rfl) (by kernel_rfl))
    plays_walk
theorem platePlays_holds : Rows.PlatePlaysSaid :=
  OpenClaim.holds_of_wide 7 Try.f7 rfl rfl rfl rfl rfl rfl rfl ⟨rfl, rfl, rfl, rfl, rfl⟩ rfl rfl rfl rfl rfl (by kernel_rfl) Try.func7 (by kernel_rfl)
    (of_decide_eq_true (by kernel_rfl)) (by unfold Func.isWrapper; rw [if_neg (of_decide_eq_false (by kernel_rfl))]; exact ⟨rfl, rfl⟩)
    (fun os started H enc _ => platePlays_lifted os started H enc)
#print axioms platePlays_holds
end Go.Proofs.Ytnfdkpjklenllaa
