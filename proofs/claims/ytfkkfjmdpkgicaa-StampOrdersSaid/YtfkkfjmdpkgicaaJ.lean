/- Values and Collect, as calls. -/
import Derived.Test.YtfkkfjmdpkgicaaI
namespace Go.Proofs.Ytfkkfjmdpkgicaa
open Go.RowKit Go.Shelf
set_option maxHeartbeats 400000 in
theorem values_any (v : Value) (h1 : ∃ a n c, v = .slice a n c) (w : World) : Calls Try.prog 27 #[v] w fun e w' => e = .returned (.func (.func 34) #[] #[.pointer (some ⟨w.heap.size, 0, none⟩)]) ∧ w' = w.alloc (.cells #[v] 50) := by
  obtain ⟨a, n, c, rfl⟩ := h1
  go_enter Try.func27, Try.ntmps27
  go_wp2
  go_ret
  exact ⟨rfl, rfl⟩
/-- a list that is read as stamps, as the iterator wants it -/
theorem Lies.liesB {F : Nat → Prop} {w : World} {a : Option Addr} {N c : Nat} {L : List Sp} (h : Lies F w 4 (.slice a N c) N (L.flatMap encS)) (hL : L.length = N) : LiesB w.heap.size w a L := by
  intro i x hx
  have hi : i < N := by have := (List.getElem?_eq_some_iff.1 hx).1; omega
  obtain ⟨g, o, c', e, _, _, _, hg, z⟩ := h.cell (by omega)
  simp only [Value.slice.injEq] at e
  have key : ∀ (l : List Sp) (i : Nat), l[i]? = some x → ∀ r, r < 4 → (l.flatMap encS)[i * 4 + r]? = (encS x)[r]? := by
    intro l
    induction l with
    | nil => intro i h; simp at h
    | cons y l ih =>
      intro i h r hr
      cases i with
      | zero =>
        simp at h; subst h
        rw [List.flatMap_cons, List.getElem?_append_left (by simp [encS]; omega)]
        simp
      | succ i =>
        rw [List.flatMap_cons, List.getElem?_append_right (by simp [encS]; omega), show (i + 1) * 4 + r - (encS y).length = i * 4 + r from by simp [encS]; omega]
        exact ih i (by simpa using h) r hr
  have k := key L i hx
  refine ⟨g, o, e.1, hg, ?_, ?_, ?_, ?_⟩
  · exact z (i * 4 + 0) _ (k 0 (by omega))
  all_goals rw [Nat.add_assoc]
  · exact z (i * 4 + 1) _ (k 1 (by omega))
  · exact z (i * 4 + 2) _ (k 2 (by omega))
  · exact z (i * 4 + 3) _ (k 3 (by omega))
set_option maxHeartbeats 1000000 in
theorem collect_any {w : World} {Bm : Nat} {a : Option Addr} {N c : Nat} {L : List Sp} (hLN : L.length = N) (hN : N ≤ 1000000) (hc : N ≤ c ∧ c ≤ maxLen) (hm : w.cell? ⟨Bm, 0, none⟩ = some (.slice a N c)) (hL : LiesB w.heap.size w a L) :
    Calls Try.prog 32 #[.func (.func 34) #[] #[.pointer (some ⟨Bm, 0, none⟩)]] w fun e w' => ∃ v : Value, e = .returned v ∧ w'.ownsRow w.heap.size 48 4 v N (L.flatMap encS) ∧ Below w.heap.size w w' := by
  have h := appendSeq_in Fence.wide 4 trivial rfl (by decide) 34 #[.pointer (some ⟨Bm, 0, none⟩)] trivial (enters_of Try.func34 (by kernel_rfl) rfl) _ _ N hN w
    (values_stops Fence.wide 3 trivial rfl (by decide) Bm a N c L hLN hN hc w (World.block_lt_of_cell? _ _ hm) hm hL)
  have h2 := hid (callsIn_wide.1 h)
  have HLN := hid hLN
  clear h hL hLN hm
  go_enter Try.func32, Try.ntmps32
  go_wp2_with fail
  refine h2.out.mono ?_
  rintro e w' ⟨v, ss, rfl, rfl, hr, hb⟩
  rw [HLN.out] at hr
  have HR := hid hr; have HB := hid hb
  clear hr hb
  go_wp2
  go_ret
  exact ⟨v, rfl, HR.out, HB.out⟩
end Go.Proofs.Ytfkkfjmdpkgicaa
