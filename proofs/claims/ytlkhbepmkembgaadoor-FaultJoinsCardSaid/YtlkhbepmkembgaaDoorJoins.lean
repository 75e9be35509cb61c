/- PROVED: the law FaultJoins returns true for every input and leaves its arguments as they were; the listed package-level variables read as the program's text lays them (the card's tie). -/
import Derived.Test.YtlkhbepmkembgaaDoorJw
import Derived.Test.YtlkhbepmkembgaaDoorCards
import Derived.Test.YtlkhbepmkembgaaDoorTie
import Derived.SevenTiedAt
namespace Go.Proofs.YtlkhbepmkembgaaDoor
open Go.RowKit
def faultJoins_laid : List (String × DataW Unit) := [("math/bits.deBruijn32tab", Rows.laid_math_bits_deBruijn32tab), ("math/bits.deBruijn64tab", Rows.laid_math_bits_deBruijn64tab), ("internal/strconv.uint64pow10", Rows.laid_internal_strconv_uint64pow10), ("errors.errorType", Rows.laid_errors_errorType)]
set_option maxRecDepth 100000 in
theorem faultJoins_lifted (os : Os) (started : os.Started) (H : Type) (enc : TypeId × Value → H) :
    ReturnsInHanded {} Tryd.checked os 6 .any (fun w args => (Rows.faultJoinsSpec.pre enc Tryd.prog Tryd.f6 [] false w args ∧ laidMetH Tryd.prog faultJoins_laid w) ∧ sizedMet enc Tryd.prog Tryd.f6 (OpenSpec.ofChange Rows.faultJoinsSpec) false w args) (Rows.faultJoinsSpec.post enc Tryd.prog Tryd.f6 false true false false) :=
  lawLiftL (laid := faultJoins_laid) (C := Tryd.checked) (s := Rows.faultJoinsSpec) (bt := 4) (by kernel_rfl) started (by kernel_rfl) Tryd.func6 (by kernel_rfl)
    (by rw [Tryd.params6]; intro t ht; simp only [List.mem_cons, List.not_mem_nil, or_false] at ht; rcases ht with rfl | rfl | rfl <;> exact ⟨by kernel_rfl, of_decide_eq_true (by kernel_rfl)⟩)
    rfl rfl Tryd.underlying4 (by intro ds h; rw [Tryd.params6] at h; match ds, h with | [_, _, _], _ => rfl)
    (ChangeSpec.witness_shaped (enc := enc) (C := Tryd.checked) (os := os) (X := fun w _ => laidMetH Tryd.prog faultJoins_laid w) false (laidH os faultJoins_laid) #[.slice none 0 0, .agg #[.int .i64 0, .int .u32 0], .int .i64 0] 8 (laidH_os _ _)
      (World.shaped_of_ZipB (by kernel_rfl) (by kernel_rfl)) (by kernel_rfl) (by kernel_rfl) (by kernel_rfl)
      (laidH_met _ (by kernel_rfl) (by kernel_rfl) (by kernel_rfl)))
    (joins_walk (by kernel_rfl) (by kernel_rfl))
theorem faultJoins_holds : Rows.FaultJoinsSaid :=
  OpenClaim.holds_of_wide 6 Tryd.f6 rfl rfl rfl rfl rfl rfl rfl ⟨rfl, rfl, rfl, rfl, rfl⟩ rfl rfl rfl rfl rfl (by kernel_rfl) Tryd.func6 (by kernel_rfl)
    (of_decide_eq_true (by kernel_rfl)) (by unfold Func.isWrapper; rw [if_neg (of_decide_eq_false (by kernel_rfl))]; exact ⟨rfl, rfl⟩)
    (fun os started H enc _ => faultJoins_lifted os started H enc)
theorem faultJoins_card_holds : Rows.FaultJoinsCardSaid :=
  Claim7.holds_tied_plain_at .later [] [.data, .data, .data, .handle] true (true, "5ca9420d8876548a92b7fd8c0c689b603d5ce02775b6bda923fefc1026726e3a") true
    faultJoins_holds (fun _ h => by cases h) (by kernel_rfl) (fun _ h => by cases h) faultJoins_row_tie rfl ⟨rfl, rfl⟩ (by kernel_rfl) rfl
    (fun f fn hf hfn => by
      obtain rfl : f = 6 := Option.some.inj ((show Tryd.prog.funcNamed "gusset/gussetlaw01.FaultJoins" = some 6 by kernel_rfl).symm.trans hf) |>.symm
      obtain rfl : fn = Tryd.f6 := (Option.some.inj (Tryd.func6.symm.trans hfn)).symm
      exact ⟨by kernel_rfl, fun j t ht => by
        have hall : (Tryd.f6.params.toList.all fun u => !Tryd.prog.wantsStandIn u) = true := by kernel_rfl
        have hm : t ∈ Tryd.f6.params.toList := by simpa using Array.mem_of_getElem? ht
        exact (show Tryd.prog.wantsStandIn t = false by simpa using List.all_eq_true.1 hall t hm)⟩)
    (by kernel_rfl)
#print axioms faultJoins_card_holds
end Go.Proofs.YtlkhbepmkembgaaDoor
