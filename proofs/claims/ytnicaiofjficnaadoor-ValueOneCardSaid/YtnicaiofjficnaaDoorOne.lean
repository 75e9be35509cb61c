/- PROVED: the law ValueOne returns true for every input and leaves its arguments as they were; the listed package-level variables read as the program's text lays them (the card's tie). -/
import Derived.Test.YtnicaiofjficnaaDoorL
import Derived.Test.YtnicaiofjficnaaDoorCards
import Derived.Test.YtnicaiofjficnaaDoorTie
import Derived.SevenTiedAt
namespace Go.Proofs.YtnicaiofjficnaaDoor
open Go.RowKit
def valueOne_laid : List (String × DataW Unit) := [("math/bits.deBruijn32tab", Rows.laid_math_bits_deBruijn32tab), ("math/bits.deBruijn64tab", Rows.laid_math_bits_deBruijn64tab), ("internal/strconv.uint64pow10", Rows.laid_internal_strconv_uint64pow10)]
set_option maxRecDepth 100000 in
theorem valueOne_lifted (os : Os) (started : os.Started) (H : Type) (enc : TypeId × Value → H) :
    ReturnsInHanded {} Tryd.checked os 4 .any (fun w args => (Rows.valueOneSpec.pre enc Tryd.prog Tryd.f4 [] false w args ∧ laidMetH Tryd.prog valueOne_laid w) ∧ sizedMet enc Tryd.prog Tryd.f4 (OpenSpec.ofChange Rows.valueOneSpec) false w args) (Rows.valueOneSpec.post enc Tryd.prog Tryd.f4 false true false false) :=
  lawLiftL (laid := valueOne_laid) (C := Tryd.checked) (s := Rows.valueOneSpec) (bt := 4) (by kernel_rfl) started (by kernel_rfl) Tryd.func4 (by kernel_rfl)
    (by rw [Tryd.params4]; intro t ht; simp only [List.mem_cons, List.not_mem_nil, or_false] at ht; rcases ht with rfl | rfl | rfl <;> exact ⟨by kernel_rfl, of_decide_eq_true (by kernel_rfl)⟩)
    rfl rfl Tryd.underlying4 (by intro ds h; rw [Tryd.params4] at h; match ds, h with | [_, _, _], _ => rfl)
    (ChangeSpec.witness_shaped (enc := enc) (C := Tryd.checked) (os := os) (X := fun w _ => laidMetH Tryd.prog valueOne_laid w) false (World.laidAll Tryd.prog os valueOne_laid) #[.agg #[.int .u8 0, .int .i64 0, .string ByteArray.empty], .agg #[.int .u8 0, .int .i64 0, .string ByteArray.empty], .agg #[.int .u8 0, .int .i64 0, .string ByteArray.empty]] 8 (World.laidAll_os _ _ _)
      (World.shaped_of_ZipB (by kernel_rfl) (by kernel_rfl)) (by kernel_rfl) (by kernel_rfl) (by kernel_rfl)
      (by rw [MakeChecks.laidMetH_plain _ _ _ (by kernel_rfl)]; exact laidMet_laidAll _ (by kernel_rfl) (by kernel_rfl)))
    (one_walk (by kernel_rfl))
theorem valueOne_holds : Rows.ValueOneSaid :=
  OpenClaim.holds_of_wide 4 Tryd.f4 rfl rfl rfl rfl rfl rfl rfl ⟨rfl, rfl, rfl, rfl, rfl⟩ rfl rfl rfl rfl rfl (by kernel_rfl) Tryd.func4 (by kernel_rfl)
    (of_decide_eq_true (by kernel_rfl)) (by unfold Func.isWrapper; rw [if_neg (of_decide_eq_false (by kernel_rfl))]; exact ⟨rfl, rfl⟩)
    (fun os started H enc _ => valueOne_lifted os started H enc)
theorem valueOne_card_holds : Rows.ValueOneCardSaid :=
  Claim7.holds_tied_plain_at .later [] [.data, .data, .data] true (true, "c691a303d99d8819fc5459ac3d217d5fc7b09b7827fec7054ac241a4e100abbe") true
    valueOne_holds (fun _ h => by cases h) (by kernel_rfl) (fun _ h => by cases h) valueOne_row_tie rfl ⟨rfl, rfl⟩ (by kernel_rfl) rfl
    (fun f fn hf hfn => by
      obtain rfl : f = 4 := Option.some.inj ((show Tryd.prog.funcNamed "gusset/gussetlaw02.ValueOne" = some 4 by kernel_rfl).symm.trans hf) |>.symm
      obtain rfl : fn = Tryd.f4 := (Option.some.inj (Tryd.func4.symm.trans hfn)).symm
      exact ⟨by kernel_rfl, fun j t ht => by
        have hall : (Tryd.f4.params.toList.all fun u => !Tryd.prog.wantsStandIn u) = true := by kernel_rfl
        have hm : t ∈ Tryd.f4.params.toList := by simpa using Array.mem_of_getElem? ht
        exact (show Tryd.prog.wantsStandIn t = false by simpa using List.all_eq_true.1 hall t hm)⟩)
    (by kernel_rfl)
#print axioms valueOne_card_holds
end Go.Proofs.YtnicaiofjficnaaDoor
