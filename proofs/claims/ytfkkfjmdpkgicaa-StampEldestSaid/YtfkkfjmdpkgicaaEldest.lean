/- PROVED: the law StampEldest returns true for every input and leaves its arguments as they were. No condition. -/
import Derived.Test.YtfkkfjmdpkgicaaR
namespace Go.Proofs.Ytfkkfjmdpkgicaa
set_option maxRecDepth 100000 in
theorem stampEldest_lifted (os : Os) (started : os.Started) (H : Type) (enc : TypeId × Value → H) :
    ReturnsInHanded {} Try.checked os 6 .any (Rows.stampEldestSpec.pre6 enc Try.prog Try.f6 Rows.stampEldestRow.domain false) (Rows.stampEldestSpec.post enc Try.prog Try.f6 false true false false) :=
  lawLift (C := Try.checked) (s := Rows.stampEldestSpec) (bt := 4) (by kernel_rfl) started (by kernel_rfl) Try.func6 (by kernel_rfl)
    (by rw [Try.params6]; intro t ht; simp only [List.mem_cons, List.not_mem_nil, or_false] at ht; rcases ht with rfl | rfl <;> exact ⟨by kernel_rfl, of_decide_eq_true (by kernel_rfl)⟩)
    rfl rfl Try.underlying4 (by intro ds h; rw [Try.params6] at h; match ds, h with | [_, _], _ => rfl)
    (ChangeSpec.witness6 (enc := enc) (C := Try.checked) false ⟨#[], #[.slice none 0 0, .slice none 0 0], []⟩ 8 (by kernel_rfl) (by kernel_rfl) (by kernel_rfl) (by kernel_rfl))
    eldest_walk
theorem stampEldest_holds : Rows.StampEldestSaid :=
  OpenClaim.holds_of_wide 6 Try.f6 rfl rfl rfl rfl rfl rfl rfl ⟨rfl, rfl, rfl, rfl, rfl⟩ rfl rfl rfl rfl rfl (by kernel_rfl) Try.func6 (by kernel_rfl)
    (of_decide_eq_true (by kernel_rfl)) (by unfold Func.isWrapper; rw [if_neg (of_decide_eq_false (by kernel_rfl))]; exact ⟨rfl, rfl⟩)
    (fun os started H enc _ => stampEldest_lifted os started H enc)
#print axioms stampEldest_holds
end Go.Proofs.Ytfkkfjmdpkgicaa
