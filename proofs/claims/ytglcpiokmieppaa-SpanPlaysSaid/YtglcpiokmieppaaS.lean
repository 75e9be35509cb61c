/- How spans read; many Adds; three sets at once. -/
import Derived.Test.YtglcpiokmieppaaR
import Derived.Test.YtglcpiokmieppaaN
import Derived.Test.YtglcpiokmieppaaArg
namespace Go.Proofs.Ytglcpiokmieppaa
open Go.RowKit

theorem wf32 {n : Int} (h : (Lit.int .u32 n).wf = true) : 0 ≤ n ∧ n ≤ 4294967295 := by
  simp [Lit.wf, IntKind.min, IntKind.max, IntKind.signed, IntKind.bits] at h; omega
theorem cellsR2 : Try.prog.cellsOf 31 = 2 := by kernel_rfl
theorem cellsU : Try.prog.cellsOf 23 = 1 := by kernel_rfl
theorem bytesR2 : Try.prog.bytesOf 31 = 8 := by kernel_rfl
abbrev B32 (x : Sp) : Prop := 0 ≤ x.1 ∧ x.1 ≤ 4294967295 ∧ 0 ≤ x.2 ∧ x.2 ≤ 4294967295
theorem span_read {w : World} {es : List Value} (hl : es.length = 2) (h : Rd Try.prog w 31 es) : ∃ x : Sp, es = scell x ∧ B32 x := by
  match es, hl with
  | [x0, x1], _ =>
    have h0 : Rd Try.prog w 23 [x0] := h.field Try.underlying31 0 23 0 1 rfl cellsU
    have h1 : Rd Try.prog w 23 [x1] := h.field Try.underlying31 1 23 1 1 rfl cellsU
    obtain ⟨a, e0, q0⟩ := h0.int Try.underlying23
    obtain ⟨b, e1, q1⟩ := h1.int Try.underlying23
    simp only [List.cons.injEq, and_true] at e0 e1
    subst e0 e1
    have := wf32 q0; have := wf32 q1
    exact ⟨(a, b), rfl, by simp only [B32]; omega⟩
theorem list_read {w : World} {v : Value} (h : RdV Try.prog w 39 v) : ∃ (a : Option Addr) (cap : Nat) (L : List Sp), v = .slice a L.length cap ∧ Lies (fun g => w.heap.size ≤ g) w 2 (.slice a L.length cap) L.length (scells L) ∧ L.length ≤ 17592186043904 ∧ ∀ x ∈ L, B32 x := by
  obtain ⟨a, len, cap, rfl, h0⟩ := h.slice Try.underlying39
  obtain ⟨l, hl, hv, hb, hq⟩ := lies_of scell 2 (fun _ => rfl) (by decide) (fun x u hu => scells_one [x] u (by simpa [scells] using hu)) (0, 0) Try.underlying39 cellsR2 B32 (fun es h1 h2 => span_read h1 h2) h0
  subst hl
  rw [bytesR2] at hb
  simp only [reachBytes] at hb
  exact ⟨a, cap, l, rfl, hv, by omega, hq⟩
def addAll (S : List Sp) (L : List Sp) : List Sp := L.foldl (fun S x => addS S x.1 x.2) S
theorem addAll_snoc (S L : List Sp) (x : Sp) : addAll S (L ++ [x]) = addS (addAll S L) x.1 x.2 := by simp [addAll]
theorem addS_none (S : List Sp) (a b : Int) (h : b < a) : addS S a b = S := by rw [addS, if_pos h]
theorem addAll_law : ∀ (L S : List Sp), Good S → (∀ x ∈ L, B32 x) → Good (addAll S L) ∧ ∀ n, Has (addAll S L) n ↔ Has S n ∨ Has L n
  | [], S, h, _ => ⟨h, fun n => by simp [addAll, Has]⟩
  | x :: L, S, h, hb => by
    have hx := hb x (by simp)
    have h1 := add_law h x.1 x.2 hx.1 hx.2.2.2
    have h2 := addAll_law L (addS S x.1 x.2) h1.1 (fun y hy => hb y (by simp [hy]))
    refine ⟨h2.1, fun n => ?_⟩
    have h3 := h2.2 n
    rw [h1.2 n] at h3
    change Has (addAll (addS S x.1 x.2) L) n ↔ _
    rw [h3]
    constructor
    · rintro ((h | h) | ⟨y, hy, h⟩)
      · exact .inl h
      · exact .inr ⟨x, by simp, h⟩
      · exact .inr ⟨y, by simp [hy], h⟩
    · rintro (h | ⟨y, hy, h⟩)
      · exact .inl (.inl h)
      · rcases List.mem_cons.1 hy with rfl | hy
        · exact .inl (.inr h)
        · exact .inr ⟨y, hy, h⟩
/-- one more element of the first 25 -/
theorem step25 (S L : List Sp) (k : Nat) (hk : k < L.length) : addAll S (L.take (min (k + 1) 25)) = if k < 25 then addS (addAll S (L.take (min k 25))) L[k].1 L[k].2 else addAll S (L.take (min k 25)) := by
  split
  · rw [Nat.min_eq_left (by omega), Nat.min_eq_left (by omega), List.take_succ_eq_append_getElem hk, addAll_snoc]
  · rw [Nat.min_eq_right (by omega), Nat.min_eq_right (by omega)]
theorem end25 (L : List Sp) : L.take (min L.length 25) = L.take 25 := by
  rcases Nat.le_total L.length 25 with h | h
  · rw [Nat.min_eq_left h, List.take_of_length_le h, List.take_length]
  · rw [Nat.min_eq_right h]
/-- three sets, and blocks that are none of theirs -/
structure Three (B : Nat) (w : World) (sx sy se : Nat) (N : List (Nat × Obj)) (X Y E : List Sp) : Prop where
  ex : ∃ Fx Fy Fe, St B Fx w sx X ∧ St B Fy w sy Y ∧ St B Fe w se E ∧ (∀ g, Fx g → ¬ Fy g) ∧ (∀ g, Fx g → ¬ Fe g) ∧ (∀ g, Fy g → ¬ Fe g) ∧ ∀ p ∈ N, ¬ Fx p.1 ∧ ¬ Fy p.1 ∧ ¬ Fe p.1
  c : ∀ p ∈ N, w.heap[p.1]? = some p.2
theorem Three.rot {B : Nat} {w : World} {sx sy se : Nat} {N : List (Nat × Obj)} {X Y E : List Sp} (h : Three B w sx sy se N X Y E) : Three B w sy se sx N Y E X := by
  obtain ⟨⟨Fx, Fy, Fe, h1, h2, h3, h4, h5, h6, h7⟩, c⟩ := h
  exact ⟨⟨Fy, Fe, Fx, h2, h3, h1, h6, fun g a b => h4 g b a, fun g a b => h5 g b a, fun p hp => ⟨(h7 p hp).2.1, (h7 p hp).2.2, (h7 p hp).1⟩⟩, c⟩
theorem Three.one {B : Nat} {w : World} {sx sy se : Nat} {N : List (Nat × Obj)} {X Y E : List Sp} (h : Three B w sx sy se N X Y E) : S1 B w sx X := by
  obtain ⟨⟨Fx, Fy, Fe, h1, _⟩, c⟩ := h
  exact ⟨Fx, h1⟩
theorem Three.same {B : Nat} {w w' : World} {sx sy se : Nat} {N : List (Nat × Obj)} {X Y E : List Sp} (h : Three B w sx sy se N X Y E) (k : Kept (fun _ => False) w w') : Three B w' sx sy se N X Y E := by
  obtain ⟨⟨Fx, Fy, Fe, h1, h2, h3, h4⟩, c⟩ := h
  exact ⟨⟨Fx, Fy, Fe, h1.same k, h2.same k, h3.same k, h4⟩, fun p hp => (k.block _ (row_lt (c p hp)) id).trans (c p hp)⟩
theorem Three.pop {B : Nat} {w : World} {sx sy se : Nat} {q : Nat × Obj} {N : List (Nat × Obj)} {X Y E : List Sp} (h : Three B w sx sy se (q :: N) X Y E) : Three B w sx sy se N X Y E := by
  obtain ⟨⟨Fx, Fy, Fe, h1, h2, h3, h4, h5, h6, h7⟩, c⟩ := h
  exact ⟨⟨Fx, Fy, Fe, h1, h2, h3, h4, h5, h6, fun p hp => h7 p (List.mem_cons_of_mem _ hp)⟩, fun p hp => c p (List.mem_cons_of_mem _ hp)⟩
theorem Three.push {B : Nat} {w : World} {sx sy se : Nat} {N : List (Nat × Obj)} {X Y E : List Sp} (h : Three B w sx sy se N X Y E) (O : Obj) : Three B (w.alloc O) sx sy se ((w.heap.size, O) :: N) X Y E := by
  have k : Kept (fun _ => False) w (w.alloc O) := (Kept.refl _ _).alloc _
  obtain ⟨⟨Fx, Fy, Fe, h1, h2, h3, h4, h5, h6, h7⟩, c⟩ := h.same k
  obtain ⟨⟨Gx, Gy, Ge, g1, g2, g3, g4, g5, g6, g7⟩, d⟩ := h
  refine ⟨⟨Gx, Gy, Ge, g1.same k, g2.same k, g3.same k, g4, g5, g6, fun p hp => ?_⟩, fun p hp => ?_⟩
  · rcases List.mem_cons.1 hp with rfl | hp
    · exact ⟨fun h => by have : w.heap.size < w.heap.size := (g1.r _ h).2; omega, fun h => by have : w.heap.size < w.heap.size := (g2.r _ h).2; omega, fun h => by have : w.heap.size < w.heap.size := (g3.r _ h).2; omega⟩
    · exact g7 p hp
  · rcases List.mem_cons.1 hp with rfl | hp
    · exact row_new w O
    · exact c p hp
theorem Three.add {B : Nat} {w : World} {sx sy se : Nat} {N : List (Nat × Obj)} {X Y E : List Sp} (h : Three B w sx sy se N X Y E) (a b : Int) (ha : 0 ≤ a) (hb : b ≤ 4294967295) :
    Calls Try.prog 10 #[.pointer (some ⟨sx, 0, none⟩), .int .u32 a, .int .u32 b] w fun e w' => e = .returned (.int .i64 (chk a b)) ∧ Three B w' sx sy se N (addS X a b) Y E ∧ Below B w w' := by
  obtain ⟨⟨Fx, Fy, Fe, h1, h2, h3, h4, h5, h6, h7⟩, c⟩ := h
  refine (h1.add a b ha hb).mono ?_
  rintro e w' ⟨e1, F', k1, k2, k3⟩
  refine ⟨e1, ⟨⟨F', Fy, Fe, k1, h2.kept k3 (fun g hg hx => h4 g hx hg), h3.kept k3 (fun g hg hx => h5 g hx hg), fun g hg hy => ?_, fun g hg he => ?_, h6, fun p hp => ⟨fun hg => ?_, (h7 p hp).2⟩⟩, fun p hp => (k3.block _ (row_lt (c p hp)) (h7 p hp).1).trans (c p hp)⟩, k3.below h1.B (fun i hi => (h1.r i hi).1)⟩
  · rcases k2 g hg with h | h
    · exact h4 g h hy
    · have := (h2.r g hy).2; omega
  · rcases k2 g hg with h | h
    · exact h5 g h he
    · have := (h3.r g he).2; omega
  · rcases k2 _ hg with h | h
    · exact (h7 p hp).1 h
    · have := row_lt (c p hp); omega
theorem St.weak {B C : Nat} {F : Nat → Prop} {w : World} {sb : Nat} {S : List Sp} (h : St B F w sb S) (hC : C ≤ B) : St C F w sb S := ⟨h.s, fun g hg => ⟨Nat.le_trans hC (h.r g hg).1, (h.r g hg).2⟩⟩
theorem three_new {B : Nat} {w : World} {sx sy se : Nat} {X Y E : List Sp} (hx : St B (fun g => g = sx) w sx X) (hy : St B (fun g => g = sy) w sy Y) (he : St B (fun g => g = se) w se E) (h1 : sx < sy) (h2 : sy < se) :
    Three B w sx sy se [] X Y E :=
  ⟨⟨_, _, _, hx, hy, he, fun g a b => by subst a; omega, fun g a b => by subst a; omega, fun g a b => by subst a; omega, fun p hp => by cases hp⟩, fun p hp => by cases hp⟩
theorem below_kept {B : Nat} {w w' : World} (k : Below B w w') : Kept (fun g => B ≤ g) w w' := ⟨k.os, k.tape, k.output, k.size, fun i _ hn => k.block i (Nat.lt_of_not_le hn)⟩
end Go.Proofs.Ytglcpiokmieppaa
