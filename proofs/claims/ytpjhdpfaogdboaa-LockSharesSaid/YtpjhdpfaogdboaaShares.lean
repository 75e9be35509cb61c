/- PROVED: the law LockShares returns true for every input and leaves its arguments as they were. No condition. -/
import Derived.Test.YtpjhdpfaogdboaaX
namespace Go.Proofs.Ytpjhdpfaogdboaa
set_option maxRecDepth 100000 in
theorem lockShares_lifted (os : Os) (started : os.Started) (H : Type) (enc : TypeId × Value → H) :
    ReturnsInHanded {} Try.checked os 3 .any (Rows.lockSharesSpec.pre6 enc Try.prog Try.f3 Rows.lockSharesRow.domain false) (Rows.lockSharesSpec.post enc Try.prog Try.f3 false true false false) :=
  lawLift (C := Try.checked) (s := Rows.lockSharesSpec) (bt := 4) (by kernel_rfl) started (by kernel_rfl) Try.func3 (by kernel_rfl)
    (by rw [Try.params3]; intro t ht; simp only [List.mem_cons, List.not_mem_nil, or_false] at ht; rcases ht with rfl | rfl | rfl <;> exact ⟨by kernel_rfl, of_decide_eq_true (by kernel_rfl)⟩)
    rfl rfl Try.underlying4 (by intro ds h; rw [Try.params3] at h; match ds, h with | [_, _, _], _ => rfl)
    (ChangeSpec.witness6 (enc := enc) (C := Try.checked) false ⟨#[], #[.slice none 0 0, .int .u8 0, .int .u8 0], []⟩ 8 (by kernel_rfl) (by kernel_rfl) (by kernel_rfl) (by kernel_rfl))
    shares_walk
theorem lockShares_holds : Rows.LockSharesSaid :=
  OpenClaim.holds_of_wide 3 Try.f3 rfl rfl rfl rfl rfl rfl rfl ⟨rfl, rfl, rfl, rfl, rfl⟩ rfl rfl rfl rfl rfl (by kernel_rfl) Try.func3 (by kernel_rfl)
    (of_decide_eq_true (by kernel_rfl)) (by unfold Func.isWrapper; rw [if_neg (of_decide_eq_false (by kernel_rfl))]; exact ⟨rfl, rfl⟩)
    (fun os started H enc _ => lockShares_lifted os started H enc)
#print axioms lockShares_holds
end Go.Proofs.Ytpjhdpfaogdboaa
