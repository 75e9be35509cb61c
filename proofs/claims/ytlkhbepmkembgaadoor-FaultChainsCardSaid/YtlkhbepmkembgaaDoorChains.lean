/- PROVED: the law FaultChains returns true for every input and leaves its arguments as they were; the listed package-level variables read as the program's text lays them (the card's tie). -/
import Derived.Test.YtlkhbepmkembgaaDoorV
import Derived.Test.YtlkhbepmkembgaaDoorCards
import Derived.Test.YtlkhbepmkembgaaDoorTie
import Derived.SevenTiedAt
namespace Go.Proofs.YtlkhbepmkembgaaDoor
open Go.RowKit
def faultChains_laid : List (String × DataW Unit) := [("math/bits.deBruijn32tab", Rows.laid_math_bits_deBruijn32tab), ("math/bits.deBruijn64tab", Rows.laid_math_bits_deBruijn64tab), ("internal/strconv.uint64pow10", Rows.laid_internal_strconv_uint64pow10), ("errors.errorType", Rows.laid_errors_errorType)]
set_option maxRecDepth 100000 in
theorem faultChains_lifted (os : Os) (started : os.Started) (H : Type) (enc : TypeId × Value → H) :
    ReturnsInHanded {} Tryd.checked os 3 .any (fun w args => (Rows.faultChainsSpec.pre enc Tryd.prog Tryd.f3 [] false w args ∧ laidMetH Tryd.prog faultChains_laid w) ∧ sizedMet enc Tryd.prog Tryd.f3 (OpenSpec.ofChange Rows.faultChainsSpec) false w args) (Rows.faultChainsSpec.post enc Tryd.prog Tryd.f3 false true false false) :=
  lawLiftL (laid := faultChains_laid) (C := Tryd.checked) (s := Rows.faultChainsSpec) (bt := 4) (by kernel_rfl) started (by kernel_rfl) Tryd.func3 (by kernel_rfl)
    (by rw [Tryd.params3]; intro t ht; simp only [List.mem_cons, List.not_mem_nil, or_false] at ht; rcases ht with rfl | rfl <;> exact ⟨by kernel_rfl, of_decide_eq_true (by kernel_rfl)⟩)
    rfl rfl Tryd.underlying4 (by intro ds h; rw [Tryd.params3] at h; match ds, h with | [_, _], _ => rfl)
    (ChangeSpec.witness_shaped (enc := enc) (C := Tryd.checked) (os := os) (X := fun w _ => laidMetH Tryd.prog faultChains_laid w) false (laidH os faultChains_laid) #[.agg #[.slice none 0 0, .int .i64 0], .int .i64 0] 8 (laidH_os _ _)
      (World.shaped_of_ZipB (by kernel_rfl) (by kernel_rfl)) (by kernel_rfl) (by kernel_rfl) (by kernel_rfl)
      (laidH_met _ (by kernel_rfl) (by kernel_rfl) (by kernel_rfl)))
    (chains_walk (by kernel_rfl) (by kernel_rfl))
theorem faultChains_holds : Rows.FaultChainsSaid :=
  OpenClaim.holds_of_wide 3 Tryd.f3 rfl rfl rfl rfl rfl rfl rfl ⟨rfl, rfl, rfl, rfl, rfl⟩ rfl rfl rfl rfl rfl (by kernel_rfl) Tryd.func3 (by kernel_rfl)
    (of_decide_eq_true (by kernel_rfl)) (by unfold Func.isWrapper; rw [if_neg (of_decide_eq_false (by kernel_rfl))]; exact ⟨rfl, rfl⟩)
    (fun os started H enc _ => faultChains_lifted os started H enc)
theorem faultChains_card_holds : Rows.FaultChainsCardSaid :=
  Claim7.holds_tied_plain_at .later [] [.data, .data, .data, .handle] true (true, "5ca9420d8876548a92b7fd8c0c689b603d5ce02775b6bda923fefc1026726e3a") true
    faultChains_holds (fun _ h => by cases h) (by kernel_rfl) (fun _ h => by cases h) faultChains_row_tie rfl ⟨rfl, rfl⟩ (by kernel_rfl) rfl
    (fun f fn hf hfn => by
      obtain rfl : f = 3 := Option.some.inj ((show Tryd.prog.funcNamed "gusset/gussetlaw01.FaultChains" = some 3 by kernel_rfl).symm.trans hf) |>.symm
      obtain rfl : fn = Tryd.f3 := (Option.some.inj (Tryd.func3.symm.trans hfn)).symm
      exact ⟨by kernel_rfl, fun j t ht => by
        have hall : (Tryd.f3.params.toList.all fun u => !Tryd.prog.wantsStandIn u) = true := by kernel_rfl
        have hm : t ∈ Tryd.f3.params.toList := by simpa using Array.mem_of_getElem? ht
        exact (show Tryd.prog.wantsStandIn t = false by simpa using List.all_eq_true.1 hall t hm)⟩)
    (by kernel_rfl)
#print axioms faultChains_card_holds
end Go.Proofs.YtlkhbepmkembgaaDoor
