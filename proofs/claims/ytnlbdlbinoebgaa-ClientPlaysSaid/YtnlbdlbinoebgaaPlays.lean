/- PROVED: the law ClientPlays returns true for every input and leaves its arguments as they were. No condition. -/
import Derived.Test.YtnlbdlbinoebgaaZm
namespace Go.Proofs.Ytnlbdlbinoebgaa
set_option maxRecDepth 100000 in
theorem clientPlays_lifted (os : Os) (started : os.Started) (H : Type) (enc : TypeId × Value → H) :
    ReturnsInHanded {} Try.checked os 4 .any (Rows.clientPlaysSpec.pre6 enc Try.prog Try.f4 Rows.clientPlaysRow.domain false) (Rows.clientPlaysSpec.post enc Try.prog Try.f4 false true false false) :=
  lawLift (C := Try.checked) (s := Rows.clientPlaysSpec) (bt := 4) (by kernel_rfl) started (by kernel_rfl) Try.func4 (by kernel_rfl)
    (by rw [Try.params4]; intro t ht; simp only [List.mem_cons, List.not_mem_nil, or_false] at ht; rcases ht with rfl | rfl | rfl <;> exact ⟨by kernel_rfl, of_decide_eq_true (by kernel_rfl)⟩)
    rfl rfl Try.underlying4 (by intro ds h; rw [Try.params4] at h; match ds, h with | [_, _, _], _ => rfl)
    (ChangeSpec.witness6 (enc := enc) (C := Try.checked) false ⟨#[], #[.int .u8 0, .int .i64 0, .slice none 0 0], []⟩ 8 (by kernel_rfl) (by kernel_rfl) (by kernel_rfl) (by kernel_rfl))
    plays_walk
theorem clientPlays_holds : Rows.ClientPlaysSaid :=
  OpenClaim.holds_of_wide 4 Try.f4 rfl rfl rfl rfl rfl rfl rfl ⟨rfl, rfl, rfl, rfl, rfl⟩ rfl rfl rfl rfl rfl (by kernel_rfl) Try.func4 (by kernel_rfl)
    (of_decide_eq_true (by kernel_rfl)) (by unfold Func.isWrapper; rw [if_neg (of_decide_eq_false (by kernel_rfl))]; exact ⟨rfl, rfl⟩)
    (fun os started H enc _ => clientPlays_lifted os started H enc)
#print axioms clientPlays_holds
end Go.Proofs.Ytnlbdlbinoebgaa
