/- PROVED: the law ValueApart returns true for every input and leaves its arguments as they were; the listed package-level variables read as the program's text lays them (the card's tie). -/
import Derived.Test.YtnicaiofjficnaaDoorY
import Derived.Test.YtnicaiofjficnaaDoorCards
import Derived.Test.YtnicaiofjficnaaDoorTie
import Derived.SevenTiedAt
namespace Go.Proofs.YtnicaiofjficnaaDoor
open Go.RowKit
def valueApart_laid : List (String × DataW Unit) := [("math/bits.deBruijn32tab", Rows.laid_math_bits_deBruijn32tab), ("math/bits.deBruijn64tab", Rows.laid_math_bits_deBruijn64tab), ("internal/strconv.uint64pow10", Rows.laid_internal_strconv_uint64pow10), ("strconv.ErrRange", Rows.laid_strconv_ErrRange), ("strconv.ErrSyntax", Rows.laid_strconv_ErrSyntax)]
set_option maxRecDepth 100000 in
theorem valueApart_lifted (os : Os) (started : os.Started) (H : Type) (enc : TypeId × Value → H) :
    ReturnsInHanded {} Tryd.checked os 7 .any (fun w args => (Rows.valueApartSpec.pre enc Tryd.prog Tryd.f7 [] false w args ∧ laidMetH Tryd.prog valueApart_laid w) ∧ sizedMet enc Tryd.prog Tryd.f7 (OpenSpec.ofChange Rows.valueApartSpec) false w args) (Rows.valueApartSpec.post enc Tryd.prog Tryd.f7 false true false false) :=
  lawLiftL (laid := valueApart_laid) (C := Tryd.checked) (s := Rows.valueApartSpec) (bt := 4) (by kernel_rfl) started (by kernel_rfl) Tryd.func7 (by kernel_rfl)
    (by rw [Tryd.params7]; intro t ht; simp only [List.mem_cons, List.not_mem_nil, or_false] at ht; rcases ht with rfl | rfl | rfl <;> exact ⟨by kernel_rfl, of_decide_eq_true (by kernel_rfl)⟩)
    rfl rfl Tryd.underlying4 (by intro ds h; rw [Tryd.params7] at h; match ds, h with | [_, _, _], _ => rfl)
    (ChangeSpec.witness_shaped (enc := enc) (C := Tryd.checked) (os := os) (X := fun w _ => laidMetH Tryd.prog valueApart_laid w) false (World.laidAll Tryd.prog os valueApart_laid) #[.agg #[.int .u8 0, .int .i64 0, .string ByteArray.empty], .agg #[.int .u8 0, .int .i64 0, .string ByteArray.empty], .int .u8 0] 8 (World.laidAll_os _ _ _)
      (World.shaped_of_ZipB (by kernel_rfl) (by kernel_rfl)) (by kernel_rfl) (by kernel_rfl) (by kernel_rfl)
      (by rw [MakeChecks.laidMetH_plain _ _ _ (by kernel_rfl)]; exact laidMet_laidAll _ (by kernel_rfl) (by kernel_rfl)))
    (apart_walk (by kernel_rfl) (by kernel_rfl) (by kernel_rfl) (by kernel_rfl))
theorem valueApart_holds : Rows.ValueApartSaid :=
  OpenClaim.holds_of_wide 7 Tryd.f7 rfl rfl rfl rfl rfl rfl rfl ⟨rfl, rfl, rfl, rfl, rfl⟩ rfl rfl rfl rfl rfl (by kernel_rfl) Tryd.func7 (by kernel_rfl)
    (of_decide_eq_true (by kernel_rfl)) (by unfold Func.isWrapper; rw [if_neg (of_decide_eq_false (by kernel_rfl))]; exact ⟨rfl, rfl⟩)
    (fun os started H enc _ => valueApart_lifted os started H enc)
theorem valueApart_card_holds : Rows.ValueApartCardSaid :=
  Claim7.holds_tied_plain_at .later [] [.data, .data, .data, .sentinel, .sentinel] true (true, "c691a303d99d8819fc5459ac3d217d5fc7b09b7827fec7054ac241a4e100abbe") true
    valueApart_holds (fun _ h => by cases h) (by kernel_rfl) (fun _ h => by cases h) valueApart_row_tie rfl ⟨rfl, rfl⟩ (by kernel_rfl) rfl
    (fun f fn hf hfn => by
      obtain rfl : f = 7 := Option.some.inj ((show Tryd.prog.funcNamed "gusset/gussetlaw02.ValueApart" = some 7 by kernel_rfl).symm.trans hf) |>.symm
      obtain rfl : fn = Tryd.f7 := (Option.some.inj (Tryd.func7.symm.trans hfn)).symm
      exact ⟨by kernel_rfl, fun j t ht => by
        have hall : (Tryd.f7.params.toList.all fun u => !Tryd.prog.wantsStandIn u) = true := by kernel_rfl
        have hm : t ∈ Tryd.f7.params.toList := by simpa using Array.mem_of_getElem? ht
        exact (show Tryd.prog.wantsStandIn t = false by simpa using List.all_eq_true.1 hall t hm)⟩)
    (by kernel_rfl)
#print axioms valueApart_card_holds
end Go.Proofs.YtnicaiofjficnaaDoor
