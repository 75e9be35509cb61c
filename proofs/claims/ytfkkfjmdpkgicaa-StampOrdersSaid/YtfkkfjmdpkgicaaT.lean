/- Eldest of any list; the plain law over lists that may be empty. -/
import Derived.Test.YtfkkfjmdpkgicaaS
namespace Go.Proofs.Ytfkkfjmdpkgicaa
open Go.RowKit Go.Shelf
def eldO : List Sp → Sp
  | [] => (0, 0, 0, 0)
  | y :: L => minS y L
def has (L : List Sp) : Bool := !L.isEmpty
theorem eldest_all {F : Nat → Prop} {w : World} {a : Option Addr} {N c : Nat} {L : List Sp} (h : Lies F w 4 (.slice a N c) N (L.flatMap encS)) (hLN : L.length = N) (hN : N ≤ 1000000) :
    Calls Try.prog 18 #[.slice a N c] w fun e w' => e = .returned (.tuple #[sv (eldO L), .bool (has L)]) ∧ Kept (fun _ => False) w w' := by
  cases L with
  | nil =>
    have : N = 0 := by simpa using hLN.symm
    subst this
    exact eldest_nil
  | cons y L => exact eldest_any h hLN hN
theorem eldO_isMin {L : List Sp} (h : has L = true) : IsMin (eldO L) L := by
  cases L with
  | nil => simp [has] at h
  | cons y L => exact minS_isMin y L
/-- what the law wants of two lists -/
theorem eldO_app (A B : List Sp) : (eldO (A ++ B), has (A ++ B)) = (if has B = true ∧ (has A = false ∨ eldS (eldO B) (eldO A)) then (eldO B, true) else (eldO A, has A)) := by
  cases A with
  | nil =>
    cases B with
    | nil => simp [has]
    | cons y B => simp [has]
  | cons x A =>
    cases B with
    | nil => simp [has]
    | cons y B =>
      have h1 := (eldO_isMin (L := x :: A) rfl).app (eldO_isMin (L := y :: B) rfl)
      have h2 := eldO_isMin (L := x :: A ++ y :: B) (by simp [has])
      rw [h2.unique h1]
      by_cases h : eldS (eldO (y :: B)) (eldO (x :: A))
      · simp [has, h]
      · simp [has, h]
theorem sortS_first {L : List Sp} {x : Sp} (h : (sortS L)[0]? = some x) : x = eldO L := by
  cases hs : sortS L with
  | nil => rw [hs] at h; simp at h
  | cons y r =>
    rw [hs] at h
    simp at h
    subst h
    have h1 := sortS_head hs
    have hL : has L = true := by
      cases L with
      | nil => simp [sortS] at hs
      | cons _ _ => rfl
    exact h1.unique (eldO_isMin hL)
end Go.Proofs.Ytfkkfjmdpkgicaa
