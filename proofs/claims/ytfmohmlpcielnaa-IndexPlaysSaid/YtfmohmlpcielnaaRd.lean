/- The index and the document's list side by side. -/
import Derived.Test.YtfmohmlpcielnaaRc
namespace Go.Proofs.Ytfmohmlpcielnaa
open Go.RowKit
/-- the index at xb holds A, the document's list at yb holds B; both are new, and apart -/
def XY (W w : World) (xb yb : Nat) (A B : List It) : Prop := ∃ (F G : Nat → Prop) (v : Value), Ix F w xb A ∧ RIn G w yb v B ∧ (∀ g, F g → W.heap.size ≤ g ∧ g < w.heap.size ∧ ¬ G g) ∧ (∀ g, G g → W.heap.size ≤ g ∧ g < w.heap.size) ∧ Kept (fun _ => False) W w
theorem XY.kept0 {W w w' : World} {xb yb : Nat} {A B : List It} (h : XY W w xb yb A B) (k : Kept (fun _ => False) w w') : XY W w' xb yb A B := by
  obtain ⟨F, G, v, hx, hy, hF, hG, hk⟩ := h
  have hz := k.size
  exact ⟨F, G, v, hx.same k, hy.same k, fun g hg => ⟨(hF g hg).1, by have := (hF g hg).2.1; omega, (hF g hg).2.2⟩, fun g hg => ⟨(hG g hg).1, by have := (hG g hg).2; omega⟩, hk.trans k⟩
theorem XY.k {W w : World} {xb yb : Nat} {A B : List It} (h : XY W w xb yb A B) : Kept (fun _ => False) W w := by
  obtain ⟨F, G, v, hx, hy, hF, hG, hk⟩ := h; exact hk
theorem XY.upA {W w : World} {xb yb : Nat} {A B : List It} (h : XY W w xb yb A B) : Up A := by
  obtain ⟨F, G, v, hx, hy, hF, hG, hk⟩ := h; exact hx.up
theorem XY.lenA {W w : World} {xb yb : Nat} {A B : List It} (h : XY W w xb yb A B) : A.length ≤ 4096 := by
  obtain ⟨F, G, v, hx, hy, hF, hG, hk⟩ := h; exact hx.len
theorem XY.cell {W w : World} {xb yb : Nat} {A B : List It} (h : XY W w xb yb A B) : ∃ v, w.cell? ⟨yb, 0, none⟩ = some v ∧ Seg w 55 2 v B.length (icells B) := by
  obtain ⟨F, G, v, hx, hy, hF, hG, hk⟩ := h; exact ⟨v, row_cell hy.r 0, hy.s⟩
/-- what turns the index leaves the list -/
theorem XY.putx {W w : World} {xb yb : Nat} {A B : List It} (h : XY W w xb yb A B) (k v : Int) :
    Calls Try.prog 10 #[.pointer (some ⟨xb, 0, none⟩), .int .u64 k, .int .u64 v] w fun e w' => e = .returned (.int .i64 (putN A k)) ∧ XY W w' xb yb (putM A k v) B := by
  obtain ⟨F, G, u, hx, hy, hF, hG, hk⟩ := h
  have hz := hk.size
  refine (put_flat (F := fun g => F g ∨ w.heap.size ≤ g) (hx.mono (fun g hg => .inl hg)) (fun g hg => .inr hg) k v).mono ?_
  rintro e w' ⟨rfl, h1, h2⟩
  refine ⟨rfl, _, G, u, h1.bound, hy.kept h2 (fun g hg hGg hKg => ?_), fun g hg => ?_, fun g hg => ⟨(hG g hg).1, by have := (hG g hg).2; have := h2.size; omega⟩, hk.trans' h2 (fun g hg => .inr ?_)⟩
  · rcases hKg with e | e
    · exact (hF g e).2.2 hGg
    · omega
  · rcases hg.1 with e | e
    · exact ⟨(hF g e).1, hg.2, (hF g e).2.2⟩
    · exact ⟨by omega, hg.2, fun hGg => by have := (hG g hGg).2; omega⟩
  · rcases hg with e | e
    · exact (hF g e).1
    · omega
theorem XY.delx {W w : World} {xb yb : Nat} {A B : List It} (h : XY W w xb yb A B) (k : Int) :
    Calls Try.prog 17 #[.pointer (some ⟨xb, 0, none⟩), .int .u64 k] w fun e w' => e = .returned (.int .i64 (delN A k)) ∧ XY W w' xb yb (dropL A k) B := by
  obtain ⟨F, G, u, hx, hy, hF, hG, hk⟩ := h
  have hz := hk.size
  refine (del_flat (F := fun g => F g ∨ w.heap.size ≤ g) (hx.mono (fun g hg => .inl hg)) (fun g hg => .inr hg) k).mono ?_
  rintro e w' ⟨rfl, h1, h2⟩
  refine ⟨rfl, _, G, u, h1.bound, hy.kept h2 (fun g hg hGg hKg => ?_), fun g hg => ?_, fun g hg => ⟨(hG g hg).1, by have := (hG g hg).2; have := h2.size; omega⟩, hk.trans' h2 (fun g hg => .inr ?_)⟩
  · rcases hKg with e | e
    · exact (hF g e).2.2 hGg
    · omega
  · rcases hg.1 with e | e
    · exact ⟨(hF g e).1, hg.2, (hF g e).2.2⟩
    · exact ⟨by omega, hg.2, fun hGg => by have := (hG g hGg).2; omega⟩
  · rcases hg with e | e
    · exact (hF g e).1
    · omega
theorem XY.openY {W w : World} {xb yb : Nat} {A B : List It} (h : XY W w xb yb A B) : ∃ (G : Nat → Prop) (v : Value), RIn G w yb v B ∧ (∀ g, w.heap.size ≤ g → G g) ∧ ∀ w' v' B', RIn G w' yb v' B' → Kept G w w' → XY W w' xb yb A B' := by
  obtain ⟨F, G, u, hx, hy, hF, hG, hk⟩ := h
  have hz := hk.size
  refine ⟨fun g => G g ∨ w.heap.size ≤ g, u, hy.mono (fun g hg => .inl hg), fun g hg => .inr hg, fun w' v' B' h1 h2 => ?_⟩
  refine ⟨F, _, v', hx.kept h2 (fun g hg hFg hKg => ?_), h1.bound, fun g hg => ⟨(hF g hg).1, by have := (hF g hg).2.1; have := h2.size; omega, fun h => ?_⟩, fun g hg => ⟨?_, hg.2⟩, hk.trans' h2 (fun g hg => .inr ?_)⟩
  · rcases hKg with e | e
    · exact (hF g hFg).2.2 e
    · omega
  · rcases h.1 with e | e
    · exact (hF g hg).2.2 e
    · have := (hF g hg).2.1; omega
  · rcases hg.1 with e | e
    · exact (hG g e).1
    · omega
  · rcases hg with e | e
    · exact (hG g e).1
    · omega
theorem XY.puty {W w : World} {xb yb : Nat} {A B : List It} (h : XY W w xb yb A B) (hB : B.length ≤ 1000000) (hu : Up B) (k v : Int) :
    Calls Try.prog 14 #[.pointer (some ⟨yb, 0, none⟩), .int .u64 k, .int .u64 v] w fun e w' => e = .returned (.int .i64 (putN B k)) ∧ XY W w' xb yb A (putM B k v) := by
  obtain ⟨G, u, hy, hG, back⟩ := h.openY
  refine (docput_any hy hB hu hG k v).mono ?_
  rintro e w' ⟨rfl, ⟨v', h1⟩, h2⟩
  exact ⟨rfl, back _ _ _ h1 h2⟩
theorem XY.dely {W w : World} {xb yb : Nat} {A B : List It} (h : XY W w xb yb A B) (hB : B.length ≤ 1000000) (hu : Up B) (k : Int) :
    Calls Try.prog 18 #[.pointer (some ⟨yb, 0, none⟩), .int .u64 k] w fun e w' => e = .returned (.int .i64 (delN B k)) ∧ XY W w' xb yb A (dropL B k) := by
  obtain ⟨G, u, hy, hG, back⟩ := h.openY
  refine (docdel_any hy hB hu hG k).mono ?_
  rintro e w' ⟨rfl, ⟨v', h1⟩, h2⟩
  exact ⟨rfl, back _ _ _ h1 h2⟩
theorem XY.ix {W w : World} {xb yb : Nat} {A B : List It} (h : XY W w xb yb A B) : ∃ F, Ix F w xb A := by
  obtain ⟨F, G, u, hx, _⟩ := h; exact ⟨F, hx⟩
theorem XY.ry {W w : World} {xb yb : Nat} {A B : List It} (h : XY W w xb yb A B) : ∃ G v, RIn G w yb v B := by
  obtain ⟨F, G, u, hx, hy, _⟩ := h; exact ⟨G, u, hy⟩
/-- two new ones -/
theorem XY.start {W w : World} (hk : Kept (fun _ => False) W w) {xb : Nat} (hx : Ix (fun g => g = xb) w xb []) (hz : W.heap.size ≤ xb) (v : Value) (hv : v = .slice none 0 0) : XY W (w.alloc (.cells #[v] 41)) xb w.heap.size [] [] := by
  subst hv
  have hl := hx.lt.1
  refine ⟨fun g => g = xb, fun g => g = w.heap.size, .slice none 0 0, hx.same ((Kept.refl _ _).alloc _), ⟨row_new _ _, Seg.nil _ _ _, rfl, by simp [Value.ownBlock]⟩, fun g hg => ⟨by omega, by simp; omega, by omega⟩, fun g hg => ⟨by have := hk.size; omega, by simp; omega⟩, hk.alloc _⟩
theorem putM_up {M : List It} (h : Up M) (k v : Int) : Up (putM M k v) := by
  unfold putM; split
  · exact layL_up h k v
  · split
    · exact h
    · exact layL_up h k v
end Go.Proofs.Ytfmohmlpcielnaa
