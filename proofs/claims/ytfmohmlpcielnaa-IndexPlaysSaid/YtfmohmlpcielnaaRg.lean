/- The index and the list side by side, and blocks N that are neither's. -/
import Derived.Test.YtfmohmlpcielnaaRe
namespace Go.Proofs.Ytfmohmlpcielnaa
open Go.RowKit
def XN (W w : World) (xb yb : Nat) (N : Nat → Prop) (A B : List It) : Prop := ∃ (F G : Nat → Prop) (v : Value), Ix F w xb A ∧ RIn G w yb v B ∧ (∀ g, F g → W.heap.size ≤ g ∧ g < w.heap.size ∧ ¬ G g) ∧ (∀ g, G g → W.heap.size ≤ g ∧ g < w.heap.size) ∧ Kept (fun _ => False) W w ∧ ∀ g, N g → ¬ F g ∧ ¬ G g ∧ g < w.heap.size
theorem XN.xy {W w : World} {xb yb : Nat} {N : Nat → Prop} {A B : List It} (h : XN W w xb yb N A B) : XY W w xb yb A B := by
  obtain ⟨F, G, v, hx, hy, hF, hG, hk, _⟩ := h; exact ⟨F, G, v, hx, hy, hF, hG, hk⟩
theorem XN.kept0 {W w w' : World} {xb yb : Nat} {N : Nat → Prop} {A B : List It} (h : XN W w xb yb N A B) (k : Kept (fun _ => False) w w') : XN W w' xb yb N A B := by
  obtain ⟨F, G, v, hx, hy, hF, hG, hk, hN⟩ := h
  have hz := k.size
  exact ⟨F, G, v, hx.same k, hy.same k, fun g hg => ⟨(hF g hg).1, by have := (hF g hg).2.1; omega, (hF g hg).2.2⟩, fun g hg => ⟨(hG g hg).1, by have := (hG g hg).2; omega⟩, hk.trans k, fun g hg => ⟨(hN g hg).1, (hN g hg).2.1, by have := (hN g hg).2.2; omega⟩⟩
theorem XY.wide {W w w' : World} {xb yb : Nat} {A B : List It} (h : XY W w xb yb A B) (k : Kept (fun _ => False) w w') : XN W w' xb yb (fun g => w.heap.size ≤ g ∧ g < w'.heap.size) A B := by
  obtain ⟨F, G, v, hx, hy, hF, hG, hk⟩ := h
  have hz := k.size
  exact ⟨F, G, v, hx.same k, hy.same k, fun g hg => ⟨(hF g hg).1, by have := (hF g hg).2.1; omega, (hF g hg).2.2⟩, fun g hg => ⟨(hG g hg).1, by have := (hG g hg).2; omega⟩, hk.trans k, fun g hg => ⟨fun h => by have := (hF g h).2.1; omega, fun h => by have := (hG g h).2; omega, hg.2⟩⟩
theorem XN.openX {W w : World} {xb yb : Nat} {N : Nat → Prop} {A B : List It} (h : XN W w xb yb N A B) : ∃ F : Nat → Prop, Ix F w xb A ∧ (∀ g, w.heap.size ≤ g → F g) ∧ ∀ w' A', Ix F w' xb A' → Kept F w w' → XN W w' xb yb N A' B ∧ Kept (fun g => ¬ N g) w w' := by
  obtain ⟨F, G, u, hx, hy, hF, hG, hk, hN⟩ := h
  have hz := hk.size
  refine ⟨fun g => F g ∨ w.heap.size ≤ g, hx.mono (fun g hg => .inl hg), fun g hg => .inr hg, fun w' A' h1 h2 => ⟨?_, h2.mono (fun g hg hFg hNg => ?_)⟩⟩
  · refine ⟨_, G, u, h1.bound, hy.kept h2 (fun g hg hGg hKg => ?_), fun g hg => ?_, fun g hg => ⟨(hG g hg).1, by have := (hG g hg).2; have := h2.size; omega⟩, hk.trans' h2 (fun g hg => .inr ?_), fun g hg => ⟨fun h => ?_, (hN g hg).2.1, by have := (hN g hg).2.2; have := h2.size; omega⟩⟩
    · rcases hKg with e | e
      · exact (hF g e).2.2 hGg
      · omega
    · rcases hg.1 with e | e
      · exact ⟨(hF g e).1, hg.2, (hF g e).2.2⟩
      · exact ⟨by omega, hg.2, fun hGg => by have := (hG g hGg).2; omega⟩
    · rcases hg with e | e
      · exact (hF g e).1
      · omega
    · rcases h.1 with e | e
      · exact (hN g hg).1 e
      · have := (hN g hg).2.2; omega
  · rcases hFg with e | e
    · exact (hN g hNg).1 e
    · have := (hN g hNg).2.2; omega
theorem XN.openY {W w : World} {xb yb : Nat} {N : Nat → Prop} {A B : List It} (h : XN W w xb yb N A B) : ∃ (G : Nat → Prop) (v : Value), RIn G w yb v B ∧ (∀ g, w.heap.size ≤ g → G g) ∧ ∀ w' v' B', RIn G w' yb v' B' → Kept G w w' → XN W w' xb yb N A B' ∧ Kept (fun g => ¬ N g) w w' := by
  obtain ⟨F, G, u, hx, hy, hF, hG, hk, hN⟩ := h
  have hz := hk.size
  refine ⟨fun g => G g ∨ w.heap.size ≤ g, u, hy.mono (fun g hg => .inl hg), fun g hg => .inr hg, fun w' v' B' h1 h2 => ⟨?_, h2.mono (fun g hg hFg hNg => ?_)⟩⟩
  · refine ⟨F, _, v', hx.kept h2 (fun g hg hFg hKg => ?_), h1.bound, fun g hg => ⟨(hF g hg).1, by have := (hF g hg).2.1; have := h2.size; omega, fun h => ?_⟩, fun g hg => ⟨?_, hg.2⟩, hk.trans' h2 (fun g hg => .inr ?_), fun g hg => ⟨(hN g hg).1, fun h => ?_, by have := (hN g hg).2.2; have := h2.size; omega⟩⟩
    · rcases hKg with e | e
      · exact (hF g hFg).2.2 e
      · omega
    · rcases h.1 with e | e
      · exact (hF g hg).2.2 e
      · have := (hF g hg).2.1; omega
    · rcases hg.1 with e | e
      · exact (hG g e).1
      · omega
    · rcases hg with e | e
      · exact (hG g e).1
      · omega
    · rcases h.1 with e | e
      · exact (hN g hg).2.1 e
      · have := (hN g hg).2.2; omega
  · rcases hFg with e | e
    · exact (hN g hNg).2.1 e
    · have := (hN g hNg).2.2; omega
theorem XN.putx {W w : World} {xb yb : Nat} {N : Nat → Prop} {A B : List It} (h : XN W w xb yb N A B) (k v : Int) :
    Calls Try.prog 10 #[.pointer (some ⟨xb, 0, none⟩), .int .u64 k, .int .u64 v] w fun e w' => e = .returned (.int .i64 (putN A k)) ∧ XN W w' xb yb N (putM A k v) B ∧ Kept (fun g => ¬ N g) w w' := by
  obtain ⟨F, hx, hF, back⟩ := h.openX
  refine (put_flat hx hF k v).mono ?_
  rintro e w' ⟨rfl, h1, h2⟩
  exact ⟨rfl, back _ _ h1 h2⟩
theorem XN.delx {W w : World} {xb yb : Nat} {N : Nat → Prop} {A B : List It} (h : XN W w xb yb N A B) (k : Int) :
    Calls Try.prog 17 #[.pointer (some ⟨xb, 0, none⟩), .int .u64 k] w fun e w' => e = .returned (.int .i64 (delN A k)) ∧ XN W w' xb yb N (dropL A k) B ∧ Kept (fun g => ¬ N g) w w' := by
  obtain ⟨F, hx, hF, back⟩ := h.openX
  refine (del_flat hx hF k).mono ?_
  rintro e w' ⟨rfl, h1, h2⟩
  exact ⟨rfl, back _ _ h1 h2⟩
theorem XN.puty {W w : World} {xb yb : Nat} {N : Nat → Prop} {A B : List It} (h : XN W w xb yb N A B) (hB : B.length ≤ 1000000) (hu : Up B) (k v : Int) :
    Calls Try.prog 14 #[.pointer (some ⟨yb, 0, none⟩), .int .u64 k, .int .u64 v] w fun e w' => e = .returned (.int .i64 (putN B k)) ∧ XN W w' xb yb N A (putM B k v) ∧ Kept (fun g => ¬ N g) w w' := by
  obtain ⟨G, u, hy, hG, back⟩ := h.openY
  refine (docput_any hy hB hu hG k v).mono ?_
  rintro e w' ⟨rfl, ⟨v', h1⟩, h2⟩
  exact ⟨rfl, back _ _ _ h1 h2⟩
theorem XN.dely {W w : World} {xb yb : Nat} {N : Nat → Prop} {A B : List It} (h : XN W w xb yb N A B) (hB : B.length ≤ 1000000) (hu : Up B) (k : Int) :
    Calls Try.prog 18 #[.pointer (some ⟨yb, 0, none⟩), .int .u64 k] w fun e w' => e = .returned (.int .i64 (delN B k)) ∧ XN W w' xb yb N A (dropL B k) ∧ Kept (fun g => ¬ N g) w w' := by
  obtain ⟨G, u, hy, hG, back⟩ := h.openY
  refine (docdel_any hy hB hu hG k).mono ?_
  rintro e w' ⟨rfl, ⟨v', h1⟩, h2⟩
  exact ⟨rfl, back _ _ _ h1 h2⟩
end Go.Proofs.Ytfmohmlpcielnaa
