/- PROVED: the law ClientOne returns true for every input and leaves its arguments as they were. No condition. -/
import Derived.Test.YtnlbdlbinoebgaaS
namespace Go.Proofs.Ytnlbdlbinoebgaa
set_option maxRecDepth 100000 in
theorem clientOne_lifted (os : Os) (started : os.Started) (H : Type) (enc : TypeId × Value → H) :
    ReturnsInHanded {} Try.checked os 5 .any (Rows.clientOneSpec.pre6 enc Try.prog Try.f5 Rows.clientOneRow.domain false) (Rows.clientOneSpec.post enc Try.prog Try.f5 false true false false) :=
  lawLift (C := Try.checked) (s := Rows.clientOneSpec) (bt := 4) (by kernel_rfl) started (by kernel_rfl) Try.func5 (by kernel_rfl)
    (by rw [Try.params5]; intro t ht; simp only [List.mem_cons, List.not_mem_nil, or_false] at ht; rcases ht with rfl | rfl | rfl | rfl <;> exact ⟨by kernel_rfl, of_decide_eq_true (by kernel_rfl)⟩)
    rfl rfl Try.underlying4 (by intro ds h; rw [Try.params5] at h; match ds, h with | [_, _, _, _], _ => rfl)
    (ChangeSpec.witness6 (enc := enc) (C := Try.checked) false ⟨#[], #[.int .u8 0, .int .u8 0, .agg #[.int .u8 0, .slice none 0 0, .int .u32 0, .int .i64 0, .int .i64 0], .slice none 0 0], []⟩ 8 (by kernel_rfl) (by kernel_rfl) (by kernel_rfl) (by kernel_rfl))
    one_walk
theorem clientOne_holds : Rows.ClientOneSaid :=
  OpenClaim.holds_of_wide 5 Try.f5 rfl rfl rfl rfl rfl rfl rfl ⟨rfl, rfl, rfl, rfl, rfl⟩ rfl rfl rfl rfl rfl (by kernel_rfl) Try.func5 (by kernel_rfl)
    (of_decide_eq_true (by kernel_rfl)) (by unfold Func.isWrapper; rw [if_neg (of_decide_eq_false (by kernel_rfl))]; exact ⟨rfl, rfl⟩)
    (fun os started H enc _ => clientOne_lifted os started H enc)
#print axioms clientOne_holds
end Go.Proofs.Ytnlbdlbinoebgaa
