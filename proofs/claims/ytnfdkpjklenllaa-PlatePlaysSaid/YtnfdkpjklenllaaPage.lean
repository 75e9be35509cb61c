/- Arrays of bytes: equality; a region's ops picked; macros for regions walked under 'Till'. -/
import Derived.Test.YtnfdkpjklenllaaHold
import Derived.Test.YtnfdkpjklenllaaByt
import Derived.Test.YtnfdkpjklenllaaRow
import Derived.ChangeKeysEq
namespace Go.Proofs.Ytnfdkpjklenllaa
open Go.RowKit

section
variable {P : Program} (w : World)
theorem run_eqItems_bytes (d : Nat) {e : TypeId} (he : P.plainKey e = true) (hu : P.underlying e = some (.int .u8)) (hc : P.cellsOf e = 1) (xs ys : List Int) (hl : xs.length = ys.length) : ∀ is : List Nat, (∀ i ∈ is, i < xs.length) →
    (Op.eqItems (d + 1) e (P.cellsOf e) (u8s xs).toArray (u8s ys).toArray is).run P w = .ok (is.all fun i => xs[i]? == ys[i]?) w
  | [], _ => by simp [Op.eqItems]
  | i :: is, h => by
    have hi := h i (List.mem_cons_self ..)
    have ih := run_eqItems_bytes d he hu hc xs ys hl is (fun j hj => h j (List.mem_cons_of_mem _ hj))
    have p1 := run_part_plain (P := P) (w := w) he (xs := (u8s xs).toArray) (off := i * P.cellsOf e) (v := .int .u8 xs[i]) (by rw [hc]; simp [u8s, hi])
    have p2 := run_part_plain (P := P) (w := w) he (xs := (u8s ys).toArray) (off := i * P.cellsOf e) (v := .int .u8 (ys[i]'(by omega))) (by rw [hc]; simp [u8s, show i < ys.length by omega])
    have p3 := run_equalIn_int (P := P) (w := w) d e .u8 .u8 xs[i] (ys[i]'(by omega)) hu
    simp only [Op.eqItems, Sem.run_bind, p1, p2, p3, Result.andThen_ok]
    have e1 : xs[i]? = some xs[i] := by simp
    have e2 : ys[i]? = some (ys[i]'(by omega)) := by simp
    simp only [List.all_cons, e1, e2]
    by_cases hx : xs[i] = ys[i]'(by omega)
    · have : (xs[i] == ys[i]'(by omega)) = true := by simp [hx]
      simp [this, ih, hx]
    · have : (xs[i] == ys[i]'(by omega)) = false := by simp [hx]
      simp [this, hx]
theorem run_eql_page {t e : TypeId} {n : Nat} (hu : P.underlying t = some (.array n e)) (he : P.plainKey e = true) (hu8 : P.underlying e = some (.int .u8)) (hc : P.cellsOf e = 1) (hie : (P.info? e).isSome = true) (xs ys : List Int) (h1 : xs.length = n) (h2 : ys.length = n) :
    (binOp .eql t (.agg (u8s xs).toArray) (.agg (u8s ys).toArray)).run P w = .ok (.bool (decide (xs = ys))) w := by
  obtain ⟨i, hi⟩ := Option.isSome_iff_exists.1 hie
  rw [run_eql_struct, run_equalIn_array w 9999 _ _ hu hi, run_eqItems_bytes w 9998 he hu8 hc xs ys (by omega) _ (by simp [h1])]
  simp only [Result.andThen_ok]
  congr 2
  rw [Bool.eq_iff_iff]
  simp only [List.all_eq_true, List.mem_range, beq_iff_eq, decide_eq_true_eq]
  constructor
  · intro h
    apply List.ext_getElem?
    intro j
    by_cases hj : j < n
    · exact h j hj
    · rw [List.getElem?_eq_none (by omega), List.getElem?_eq_none (by omega)]
  · rintro rfl j _; rfl
end
end Go.Proofs.Ytnfdkpjklenllaa
