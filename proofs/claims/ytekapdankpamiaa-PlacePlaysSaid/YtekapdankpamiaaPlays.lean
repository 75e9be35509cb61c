/- PROVED: the law PlacePlays returns true for every input and leaves its arguments as they were. No condition. -/
import Derived.Test.YtekapdankpamiaaQ
namespace Go.Proofs.Ytekapdankpamiaa
set_option maxRecDepth 100000 in
theorem placePlays_lifted (os : Os) (started : os.Started) (H : Type) (enc : TypeId × Value → H) :
    ReturnsInHanded {} Try.checked os 4 .any (Rows.placePlaysSpec.pre6 enc Try.prog Try.f4 Rows.placePlaysRow.domain false) (Rows.placePlaysSpec.post enc Try.prog Try.f4 false true false false) :=
  lawLift (C := Try.checked) (s := Rows.placePlaysSpec) (bt := 4) (by kernel_rfl) started (by kernel_rfl) Try.func4 (by kernel_rfl)
    (by rw [Try.params4]; intro t ht; simp only [List.mem_cons, List.not_mem_nil, or_false] at ht; rcases ht with rfl | rfl <;> exact ⟨by kernel_rfl, of_decide_eq_true (by kernel_rfl)⟩)
    rfl rfl Try.underlying4 (by intro ds h; rw [Try.params4] at h; match ds, h with | [_, _], _ => rfl)
    (ChangeSpec.witness6 (enc := enc) (C := Try.checked) false ⟨#[], #[.int .i64 0, .slice none 0 0], []⟩ 8 (by kernel_rfl) (by kernel_rfl) (by kernel_rfl) (by kernel_rfl))
    plays_walk
theorem placePlays_holds : Rows.PlacePlaysSaid :=
  OpenClaim.holds_of_wide 4 Try.f4 rfl rfl rfl rfl rfl rfl rfl ⟨rfl, rfl, rfl, rfl, rfl⟩ rfl rfl rfl rfl rfl (by kernel_rfl) Try.func4 (by kernel_rfl)
    (of_decide_eq_true (by kernel_rfl)) (by unfold Func.isWrapper; rw [if_neg (of_decide_eq_false (by kernel_rfl))]; exact ⟨rfl, rfl⟩)
    (fun os started H enc _ => placePlays_lifted os started H enc)
#print axioms placePlays_holds
end Go.Proofs.Ytekapdankpamiaa
