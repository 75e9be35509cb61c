/- voted. -/
import Derived.Test.YtaobioleodfafaaD
namespace Go.Proofs.Ytaobioleodfafaa
open Go.RowKit
set_option maxHeartbeats 400000 in
theorem yes_any {w : World} {b : Nat} {y z : Bool} (h : w.heap[b]? = some (.cells #[.bool y, .bool z] 58 (0, 0))) :
    Calls Try.prog 39 #[.pointer (some ⟨b, 0, none⟩)] w fun e w' => e = .returned (.bool y) ∧ w = w' := by
  have c0 : w.cell? ⟨b, 0, none⟩ = some (.bool y) := by rw [row_cell h]; rfl
  clear h
  go_enter Try.func39, Try.ntmps39
  go_wp2
  go_ret
  exact ⟨rfl, rfl⟩
theorem mem_erase {α : Type} {R : List α} {i : Nat} {x y : α} (hi : R[i]? = some x) (hy : y ∈ R) : y = x ∨ y ∈ R.eraseIdx i := by
  obtain ⟨j, hj⟩ := List.mem_iff_getElem?.1 hy
  by_cases h : j = i
  · subst h; rw [hi] at hj; simp at hj; exact .inl hj.symm
  · exact .inr (List.mem_eraseIdx_iff_getElem?.2 ⟨j, h, hj⟩)
set_option maxRecDepth 100000 in
set_option maxHeartbeats 1000000 in
theorem all_any {B T : Nat} {w : World} {rb mp : Nat} {ns : List Int} {pb : Int → Nat} {Y : Int → Bool} {st : Int} (hr : RunAt B T w rb mp ns pb Y st) :
    Calls Try.prog 38 #[.pointer (some ⟨rb, 0, none⟩), .func (.func 39) #[] #[]] w fun e w' => e = .returned (.bool (ns.all Y)) ∧ Kept (fun _ => False) w w' := by
  have HR := hid hr
  obtain ⟨r0, _, _⟩ := HR.out.facts
  clear hr
  go_enter Try.func38, Try.ntmps38
  go_wp2_with (refine wpList_rng rfl _ 55 rfl 5 56 Try.underlying55 mp _ rfl HR.out.map.mapOf ?_; intro w1 hrg hk1 hz1; have RG := hid hrg; have K1 := hid hk1; clear hrg hk1)
  obtain ⟨it, hit⟩ : ∃ it, w.heap.size = it := ⟨_, rfl⟩
  rw [hit] at RG ⊢
  have HIT := hid (Nat.le_of_eq hit)
  clear hit hz1 r0
  have HSUB := hid (fun (p : Value × Value) (hp : p ∈ (pents ns pb).map fun p => (Value.int .u8 p.1, p.2)) => show ∃ x ∈ ns, p = (.int .u8 x, ptr (pb x)) from by
    simp only [pents, List.map_map, List.mem_map, Function.comp] at hp
    obtain ⟨x, hx, e⟩ := hp
    exact ⟨x, hx, e.symm⟩)
  have HALL := hid (fun x (hx : x ∈ ns) => show ((.int .u8 x, ptr (pb x)) : Value × Value) ∈ (pents ns pb).map fun p => (Value.int .u8 p.1, p.2) from by
    simp only [pents, List.map_map, List.mem_map, Function.comp]
    exact ⟨x, hx, rfl⟩)
  obtain ⟨E, hE⟩ : ∃ E, ((pents ns pb).map fun p => (Value.int .u8 p.1, p.2)) = E := ⟨_, rfl⟩
  rw [hE] at RG HSUB HALL
  clear hE
  go_frame
  go_loopw [6] (fun _ wr => ∃ R, RngOf wr mp it E R ∧ (∀ x ∈ ns, ((.int .u8 x, ptr (pb x)) : Value × Value) ∈ R ∨ Y x = true) ∧ Kept (fun _ => False) w wr) (fun _ wr => rngLeft wr mp it)
  case atStart => exact ⟨E, RG.out, fun x hx => .inl (HALL.out x hx), K1.out⟩
  case round =>
    rename World => wr
    obtain ⟨R, hrg, hx, hkp⟩ := hrel
    have RR := hid hrg; have HX := hid hx; have KR := hid hkp
    have MW := hid hrg.left
    clear hrg hx hkp RG K1
    go_wp2_with (refine wpList_nxt rfl _ rfl mp it _ _ rfl RR.out ?_ ?_)
    · intro hR0
      have hall : ns.all Y = true := by
        rw [List.all_eq_true]
        intro x hx
        rcases HX.out x hx with h | h
        · rw [hR0] at h; cases h
        · exact h
      clear hR0
      go_wp2
      go_ret
      exact ⟨by rw [hall]; rfl, KR.out⟩
    · intro i kv v w2 hi hrg2 hk2 hz2 hen
      obtain ⟨x, hx, hxe⟩ := HSUB.out _ (RR.out.sub _ (List.mem_of_getElem? hi))
      simp only [Prod.mk.injEq] at hxe
      obtain ⟨rfl, rfl⟩ := hxe
      have hmz : rngLeft w2 mp it < rngLeft wr mp it := by
        rw [hrg2.left, MW.out, List.length_eraseIdx]
        have := (List.getElem?_eq_some_iff.1 hi).1
        split <;> omega
      have HMZ := hid hmz
      have K2 := hid (KR.out.trans' hk2 (fun j e => .inr (by have := HIT.out; omega)))
      have hpt := (HR.out.same K2.out).part x hx
      have HE := hid (fun y hy => mem_erase hi (y := y) hy)
      have HPT := hid hpt; have HG2 := hid hrg2; have HXN := hid hx
      unfold ptr at hen
      simp only [ptr]
      clear hmz hrg2 hk2 hz2 hi hpt hx
      go_wp2_with fail
      refine (yes_any HPT.out).mono ?_
      rintro e w3 ⟨rfl, rfl⟩
      cases hy : Y x with
      | true =>
        go_wp2
        go_roundw
        case rel =>
          refine ⟨_, HG2.out, fun y hyn => ?_, K2.out⟩
          rcases HX.out y hyn with h | h
          · rcases HE.out _ h with h | h
            · simp only [Prod.mk.injEq, Value.int.injEq, true_and] at h
              rw [h.1]; exact .inr hy
            · exact .inl h
          · exact .inr h
        case measure => exact HMZ.out
      | false =>
        have hall : ns.all Y = false := by
          rw [List.all_eq_false]
          exact ⟨x, HXN.out, by rw [hy]; decide⟩
        go_wp2
        go_ret
        exact ⟨by rw [hall]; rfl, K2.out⟩
set_option maxHeartbeats 400000 in
theorem voted_any {B T : Nat} {w : World} {rb mp : Nat} {ns : List Int} {pb : Int → Nat} {Y : Int → Bool} {st : Int} (hr : RunAt B T w rb mp ns pb Y st) :
    Calls Try.prog 18 #[.pointer (some ⟨rb, 0, none⟩)] w fun e w' => e = .returned (.bool (ns.all Y)) ∧ Kept (fun _ => False) w w' := by
  have HR := hid hr
  clear hr
  go_enter Try.func18, Try.ntmps18
  go_wp2_with fail
  refine (all_any HR.out).mono ?_
  rintro e w1 ⟨rfl, hk⟩
  have K := hid hk
  clear hk
  go_wp2
  go_ret
  exact ⟨rfl, K.out⟩
end Go.Proofs.Ytaobioleodfafaa
