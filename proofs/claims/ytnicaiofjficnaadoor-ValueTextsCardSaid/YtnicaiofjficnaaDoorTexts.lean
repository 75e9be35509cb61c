/- PROVED: the law ValueTexts returns true for every input and leaves its arguments as they were; the listed package-level variables read as the program's text lays them (the card's tie). -/
import Derived.Test.YtnicaiofjficnaaDoorX
import Derived.Test.YtnicaiofjficnaaDoorCards
import Derived.Test.YtnicaiofjficnaaDoorTie
import Derived.SevenTiedAt
namespace Go.Proofs.YtnicaiofjficnaaDoor
open Go.RowKit
def valueTexts_laid : List (String × DataW Unit) := [("math/bits.deBruijn32tab", Rows.laid_math_bits_deBruijn32tab), ("math/bits.deBruijn64tab", Rows.laid_math_bits_deBruijn64tab), ("internal/strconv.uint64pow10", Rows.laid_internal_strconv_uint64pow10), ("strconv.ErrRange", Rows.laid_strconv_ErrRange), ("strconv.ErrSyntax", Rows.laid_strconv_ErrSyntax)]
set_option maxRecDepth 100000 in
theorem valueTexts_lifted (os : Os) (started : os.Started) (H : Type) (enc : TypeId × Value → H) :
    ReturnsInHanded {} Tryd.checked os 6 .any (fun w args => (Rows.valueTextsSpec.pre enc Tryd.prog Tryd.f6 [] false w args ∧ laidMetH Tryd.prog valueTexts_laid w) ∧ sizedMet enc Tryd.prog Tryd.f6 (OpenSpec.ofChange Rows.valueTextsSpec) false w args) (Rows.valueTextsSpec.post enc Tryd.prog Tryd.f6 false true false false) :=
  lawLiftL (laid := valueTexts_laid) (C := Tryd.checked) (s := Rows.valueTextsSpec) (bt := 4) (by kernel_rfl) started (by kernel_rfl) Tryd.func6 (by kernel_rfl)
    (by rw [Tryd.params6]; intro t ht; simp only [List.mem_cons, List.not_mem_nil, or_false] at ht; rcases ht with rfl | rfl <;> exact ⟨by kernel_rfl, of_decide_eq_true (by kernel_rfl)⟩)
    rfl rfl Tryd.underlying4 (by intro ds h; rw [Tryd.params6] at h; match ds, h with | [_, _], _ => rfl)
    (ChangeSpec.witness_shaped (enc := enc) (C := Tryd.checked) (os := os) (X := fun w _ => laidMetH Tryd.prog valueTexts_laid w) false (World.laidAll Tryd.prog os valueTexts_laid) #[.agg #[.int .u8 0, .int .i64 0, .string ByteArray.empty], .string ByteArray.empty] 8 (World.laidAll_os _ _ _)
      (World.shaped_of_ZipB (by kernel_rfl) (by kernel_rfl)) (by kernel_rfl) (by kernel_rfl) (by kernel_rfl)
      (by rw [MakeChecks.laidMetH_plain _ _ _ (by kernel_rfl)]; exact laidMet_laidAll _ (by kernel_rfl) (by kernel_rfl)))
    (texts_walk (by kernel_rfl) (by kernel_rfl) (by kernel_rfl) (by kernel_rfl))
theorem valueTexts_holds : Rows.ValueTextsSaid :=
  OpenClaim.holds_of_wide 6 Tryd.f6 rfl rfl rfl rfl rfl rfl rfl ⟨rfl, rfl, rfl, rfl, rfl⟩ rfl rfl rfl rfl rfl (by kernel_rfl) Tryd.func6 (by kernel_rfl)
    (of_decide_eq_true (by kernel_rfl)) (by unfold Func.isWrapper; rw [if_neg (of_decide_eq_false (by kernel_rfl))]; exact ⟨rfl, rfl⟩)
    (fun os started H enc _ => valueTexts_lifted os started H enc)
theorem valueTexts_card_holds : Rows.ValueTextsCardSaid :=
  Claim7.holds_tied_plain_at .later [] [.data, .data, .data, .sentinel, .sentinel] true (true, "c691a303d99d8819fc5459ac3d217d5fc7b09b7827fec7054ac241a4e100abbe") true
    valueTexts_holds (fun _ h => by cases h) (by kernel_rfl) (fun _ h => by cases h) valueTexts_row_tie rfl ⟨rfl, rfl⟩ (by kernel_rfl) rfl
    (fun f fn hf hfn => by
      obtain rfl : f = 6 := Option.some.inj ((show Tryd.prog.funcNamed "gusset/gussetlaw02.ValueTexts" = some 6 by kernel_rfl).symm.trans hf) |>.symm
      obtain rfl : fn = Tryd.f6 := (Option.some.inj (Tryd.func6.symm.trans hfn)).symm
      exact ⟨by kernel_rfl, fun j t ht => by
        have hall : (Tryd.f6.params.toList.all fun u => !Tryd.prog.wantsStandIn u) = true := by kernel_rfl
        have hm : t ∈ Tryd.f6.params.toList := by simpa using Array.mem_of_getElem? ht
        exact (show Tryd.prog.wantsStandIn t = false by simpa using List.all_eq_true.1 hall t hm)⟩)
    (by kernel_rfl)
#print axioms valueTexts_card_holds
end Go.Proofs.YtnicaiofjficnaaDoor
