/- PROVED: the law FaultLast returns true for every input and leaves its arguments as they were; the listed package-level variables read as the program's text lays them (the card's tie). -/
import Derived.Test.YtlkhbepmkembgaaDoorW
import Derived.Test.YtlkhbepmkembgaaDoorCards
import Derived.Test.YtlkhbepmkembgaaDoorTie
import Derived.SevenTiedAt
namespace Go.Proofs.YtlkhbepmkembgaaDoor
open Go.RowKit
def faultLast_laid : List (String × DataW Unit) := [("math/bits.deBruijn32tab", Rows.laid_math_bits_deBruijn32tab), ("math/bits.deBruijn64tab", Rows.laid_math_bits_deBruijn64tab), ("internal/strconv.uint64pow10", Rows.laid_internal_strconv_uint64pow10), ("errors.errorType", Rows.laid_errors_errorType)]
set_option maxRecDepth 100000 in
theorem faultLast_lifted (os : Os) (started : os.Started) (H : Type) (enc : TypeId × Value → H) :
    ReturnsInHanded {} Tryd.checked os 5 .any (fun w args => (Rows.faultLastSpec.pre enc Tryd.prog Tryd.f5 [] false w args ∧ laidMetH Tryd.prog faultLast_laid w) ∧ sizedMet enc Tryd.prog Tryd.f5 (OpenSpec.ofChange Rows.faultLastSpec) false w args) (Rows.faultLastSpec.post enc Tryd.prog Tryd.f5 false true false false) :=
  lawLiftL (laid := faultLast_laid) (C := Tryd.checked) (s := Rows.faultLastSpec) (bt := 4) (by kernel_rfl) started (by kernel_rfl) Tryd.func5 (by kernel_rfl)
    (by rw [Tryd.params5]; intro t ht; simp only [List.mem_cons, List.not_mem_nil, or_false] at ht; rcases ht with rfl | rfl <;> exact ⟨by kernel_rfl, of_decide_eq_true (by kernel_rfl)⟩)
    rfl rfl Tryd.underlying4 (by intro ds h; rw [Tryd.params5] at h; match ds, h with | [_, _], _ => rfl)
    (ChangeSpec.witness_shaped (enc := enc) (C := Tryd.checked) (os := os) (X := fun w _ => laidMetH Tryd.prog faultLast_laid w) false (laidH os faultLast_laid) #[.slice none 0 0, .int .u8 0] 8 (laidH_os _ _)
      (World.shaped_of_ZipB (by kernel_rfl) (by kernel_rfl)) (by kernel_rfl) (by kernel_rfl) (by kernel_rfl)
      (laidH_met _ (by kernel_rfl) (by kernel_rfl) (by kernel_rfl)))
    (last_walk (by kernel_rfl) (by kernel_rfl))
theorem faultLast_holds : Rows.FaultLastSaid :=
  OpenClaim.holds_of_wide 5 Tryd.f5 rfl rfl rfl rfl rfl rfl rfl ⟨rfl, rfl, rfl, rfl, rfl⟩ rfl rfl rfl rfl rfl (by kernel_rfl) Tryd.func5 (by kernel_rfl)
    (of_decide_eq_true (by kernel_rfl)) (by unfold Func.isWrapper; rw [if_neg (of_decide_eq_false (by kernel_rfl))]; exact ⟨rfl, rfl⟩)
    (fun os started H enc _ => faultLast_lifted os started H enc)
theorem faultLast_card_holds : Rows.FaultLastCardSaid :=
  Claim7.holds_tied_plain_at .later [] [.data, .data, .data, .handle] true (true, "5ca9420d8876548a92b7fd8c0c689b603d5ce02775b6bda923fefc1026726e3a") true
    faultLast_holds (fun _ h => by cases h) (by kernel_rfl) (fun _ h => by cases h) faultLast_row_tie rfl ⟨rfl, rfl⟩ (by kernel_rfl) rfl
    (fun f fn hf hfn => by
      obtain rfl : f = 5 := Option.some.inj ((show Tryd.prog.funcNamed "gusset/gussetlaw01.FaultLast" = some 5 by kernel_rfl).symm.trans hf) |>.symm
      obtain rfl : fn = Tryd.f5 := (Option.some.inj (Tryd.func5.symm.trans hfn)).symm
      exact ⟨by kernel_rfl, fun j t ht => by
        have hall : (Tryd.f5.params.toList.all fun u => !Tryd.prog.wantsStandIn u) = true := by kernel_rfl
        have hm : t ∈ Tryd.f5.params.toList := by simpa using Array.mem_of_getElem? ht
        exact (show Tryd.prog.wantsStandIn t = false by simpa using List.all_eq_true.1 hall t hm)⟩)
    (by kernel_rfl)
#print axioms faultLast_card_holds
end Go.Proofs.YtlkhbepmkembgaaDoor
