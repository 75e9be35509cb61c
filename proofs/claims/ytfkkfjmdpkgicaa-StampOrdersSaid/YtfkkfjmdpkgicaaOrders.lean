/- PROVED: the law StampOrders returns true for every input and leaves its arguments as they were. No condition. -/
import Derived.Test.YtfkkfjmdpkgicaaY
namespace Go.Proofs.Ytfkkfjmdpkgicaa
set_option maxRecDepth 100000 in
theorem stampOrders_lifted (os : Os) (started : os.Started) (H : Type) (enc : TypeId × Value → H) :
    ReturnsInHanded {} Try.checked os 5 .any (Rows.stampOrdersSpec.pre6 enc Try.prog Try.f5 Rows.stampOrdersRow.domain false) (Rows.stampOrdersSpec.post enc Try.prog Try.f5 false true false false) :=
  lawLift (C := Try.checked) (s := Rows.stampOrdersSpec) (bt := 4) (by kernel_rfl) started (by kernel_rfl) Try.func5 (by kernel_rfl)
    (by rw [Try.params5]; intro t ht; simp only [List.mem_cons, List.not_mem_nil, or_false] at ht; rcases ht with rfl | rfl | rfl <;> exact ⟨by kernel_rfl, of_decide_eq_true (by kernel_rfl)⟩)
    rfl rfl Try.underlying4 (by intro ds h; rw [Try.params5] at h; match ds, h with | [_, _, _], _ => rfl)
    (ChangeSpec.witness6 (enc := enc) (C := Try.checked) false ⟨#[], #[.slice none 0 0, .agg #[.int .u64 0, .int .u8 0, .int .u32 0, .int .u32 0], .agg #[.int .u64 0, .int .u8 0, .int .u32 0, .int .u32 0]], []⟩ 8 (by kernel_rfl) (by kernel_rfl) (by kernel_rfl) (by kernel_rfl))
    orders_walk
theorem stampOrders_holds : Rows.StampOrdersSaid :=
  OpenClaim.holds_of_wide 5 Try.f5 rfl rfl rfl rfl rfl rfl rfl ⟨rfl, rfl, rfl, rfl, rfl⟩ rfl rfl rfl rfl rfl (by kernel_rfl) Try.func5 (by kernel_rfl)
    (of_decide_eq_true (by kernel_rfl)) (by unfold Func.isWrapper; rw [if_neg (of_decide_eq_false (by kernel_rfl))]; exact ⟨rfl, rfl⟩)
    (fun os started H enc _ => stampOrders_lifted os started H enc)
#print axioms stampOrders_holds
end Go.Proofs.Ytfkkfjmdpkgicaa
