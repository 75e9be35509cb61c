/- A set in memory; New, after, check, Has. -/
import Derived.Test.YtglcpiokmieppaaB
namespace Go.Proofs.Ytglcpiokmieppaa
open Go.RowKit

theorem scells_len (l : List Sp) : (scells l).length = l.length * 2 := by
  induction l with
  | nil => rfl
  | cons x l ih => simp [scells, scell, List.flatMap_cons] at ih ⊢; omega
theorem scells_one (l : List Sp) : ∀ u ∈ scells l, u.oneCell' = true := by
  intro u hu
  simp only [scells, List.mem_flatMap, scell] at hu
  obtain ⟨x, _, hx⟩ := hu
  simp at hx
  rcases hx with rfl | rfl <;> rfl
/-- rising, none touching the next; numbers of 32 bits -/
structure Good (S : List Sp) : Prop where
  r : ∀ (i : Nat) (x y : Sp), S[i]? = some x → S[i + 1]? = some y → x.2 + 1 < y.1
  b : ∀ x ∈ S, 0 ≤ x.1 ∧ x.1 ≤ x.2 ∧ x.2 ≤ 4294967295
theorem Good.lt {S : List Sp} (h : Good S) : ∀ (d p : Nat) (x y : Sp), S[p]? = some x → S[p + 1 + d]? = some y → x.2 < y.1
  | 0, p, x, y, hx, hy => by have := h.r p x y hx hy; omega
  | d + 1, p, x, y, hx, hy => by
    have hl : p + 1 + d < S.length := by have := (List.getElem?_eq_some_iff.1 hy).1; omega
    have h1 := h.lt d p x S[p + 1 + d] hx (by simp [hl])
    have h2 := h.r (p + 1 + d) S[p + 1 + d] y (by simp [hl]) hy
    have h3 := h.b S[p + 1 + d] (List.getElem_mem _)
    omega
theorem Good.rising {S : List Sp} (h : Good S) : Rising S := fun p q x y hpq hx hy => by
  obtain ⟨d, rfl⟩ : ∃ d, q = p + 1 + d := ⟨q - (p + 1), by omega⟩
  have h1 := h.lt d p x y hx hy
  have h2 := h.b y (List.mem_of_getElem? hy)
  omega
/-- block sb is a set of these spans; its row lies in a block of F -/
structure SetAt (F : Nat → Prop) (w : World) (sb : Nat) (S : List Sp) : Prop where
  c : ∃ ao cap, w.heap[sb]? = some (.cells #[.slice ao S.length cap] 66 (0, 0)) ∧ Own w 46 2 (.slice ao S.length cap) S.length (scells S) ∧ (∀ g, (Value.slice ao S.length cap).ownBlock = some g → F g)
  m : F sb
  g : Good S
  n : S.length ≤ 2147483648
theorem SetAt.kept {F G : Nat → Prop} {w w' : World} {sb : Nat} {S : List Sp} (h : SetAt F w sb S) (k : Kept G w w') (hg : ∀ g, F g → ¬ G g) : SetAt F w' sb S := by
  obtain ⟨ao, cap, h1, h2, h3⟩ := h.c
  exact ⟨⟨ao, cap, (k.block _ (row_lt h1) (hg _ h.m)).trans h1, h2.kept k fun g hb => hg g (h3 g hb), h3⟩, h.m, h.g, h.n⟩
set_option maxHeartbeats 400000 in
theorem new_any (w : World) : Calls Try.prog 9 #[] w fun e w' => e = .returned (.pointer (some ⟨w.heap.size, 0, none⟩)) ∧ SetAt (fun g => g = w.heap.size) w' w.heap.size [] ∧ Kept (fun _ => False) w w' := by
  go_enter Try.func9, Try.ntmps9
  go_wp2
  go_ret
  exact ⟨rfl, ⟨⟨none, 0, row_new _ _, Own.nil _ _ _, by simp [Value.ownBlock]⟩, rfl, ⟨by simp, by simp⟩, by simp⟩, (Kept.refl _ _).alloc _⟩
set_option maxHeartbeats 1000000 in
theorem after_any {F : Nat → Prop} {w : World} {sb : Nat} {S : List Sp} (h : SetAt F w sb S) (n : Int) : Calls Try.prog 31 #[.pointer (some ⟨sb, 0, none⟩), .int .u32 n] w fun e w' => e = .returned (.int .i64 (aft S n)) ∧ Kept (fun _ => False) w w' := by
  obtain ⟨ao, cap, h1, h2, h3⟩ := h.c
  have c0 := row_cell h1 0
  simp at c0
  have HL := hid (h2.lies (F := fun _ => False) (scells_one S) (fun _ _ h => h))
  have HG := hid h.g.rising
  have hn := h.n
  clear h h1 h2 h3
  go_enter Try.func31, Try.ntmps31
  go_wp2_with fail
  refine (search_any HL.out HG.out (by omega) n).mono ?_
  rintro e w2 ⟨b, rfl, hk2⟩
  have HK := hid hk2; clear hk2
  go_wp2
  go_ret
  exact ⟨rfl, HK.out⟩
def chk (a b : Int) : Int := if b < a then 1 else 0
set_option maxHeartbeats 400000 in
theorem check_any (sb : Nat) (a b : Int) (w : World) : Calls Try.prog 25 #[.pointer (some ⟨sb, 0, none⟩), .int .u32 a, .int .u32 b] w fun e w' => e = .returned (.int .i64 (chk a b)) ∧ w = w' := by
  by_cases h : b < a
  · go_enter Try.func25, Try.ntmps25
    go_wp2
    go_ret
    exact ⟨ret_int (by simp [chk, h]), rfl⟩
  · go_enter Try.func25, Try.ntmps25
    go_wp2
    go_ret
    exact ⟨ret_int (by simp [chk, h]), rfl⟩
end Go.Proofs.Ytglcpiokmieppaa
