/- Both plates in memory; two calls with one answer. -/
import Derived.Test.YtnfdkpjklenllaaDn
namespace Go.Proofs.Ytnfdkpjklenllaa
open Go.RowKit
theorem DAt.bound {F H : Nat → Prop} {w : World} {b : Nat} {D : Dpl} (h : DAt F H w b D) : DAt (fun g => F g ∧ g < w.heap.size) H w b D := by
  obtain ⟨lo, lc, so, sc, h⟩ := h
  exact ⟨lo, lc, so, sc, h.r, h.ol, h.os, ⟨h.m, row_lt h.r⟩, fun g e => ⟨h.gl g e, h.ol.lt e⟩, fun g e => ⟨h.gs g e, h.os.lt e⟩, h.ne, h.el, h.es, h.e0, fun g hg => h.fh g hg.1⟩
theorem DAt.grow {F G H : Nat → Prop} {w : World} {b : Nat} {D : Dpl} (h : DAt F H w b D) (hg : ∀ g, F g → G g) (hh : ∀ g, G g → H g) : DAt G H w b D := by
  obtain ⟨lo, lc, so, sc, h⟩ := h
  exact ⟨lo, lc, so, sc, h.r, h.ol, h.os, hg _ h.m, fun g e => hg _ (h.gl g e), fun g e => hg _ (h.gs g e), h.ne, h.el, h.es, h.e0, hh⟩
/-- what is said of both, no memory in sight -/
structure Nice (S : Plt) (D : Dpl) (k : Nat) : Prop where
  rel : Rel S D
  ops : 0 ≤ S.ops ∧ S.ops ≤ k
  arm : 0 ≤ S.armed ∧ S.armed ≤ 9223372036854775807
  len : D.last.length + D.since.length ≤ k
theorem Nice.mono {S : Plt} {D : Dpl} {k m : Nat} (h : Nice S D k) (hm : k ≤ m) : Nice S D m := ⟨h.rel, ⟨h.ops.1, by have := h.ops.2; omega⟩, h.arm, Nat.le_trans h.len hm⟩
theorem Nice.small {S : Plt} {D : Dpl} {k : Nat} (h : Nice S D k) (hk : k ≤ 1000) : Small S := ⟨⟨h.ops.1, by have := h.ops.2; omega⟩, h.arm⟩
theorem Nice.dsmall {S : Plt} {D : Dpl} {k : Nat} (h : Nice S D k) (hk : k ≤ 1000) : DSmall D := ⟨by rw [← h.rel.ops]; exact ⟨h.ops.1, by have := h.ops.2; omega⟩, by rw [← h.rel.armed]; exact h.arm⟩
theorem Nice.sl {S : Plt} {D : Dpl} {k : Nat} (h : Nice S D k) (hk : k ≤ 1000) : S.since.length ≤ 10000 := by have := h.rel.sl; have := h.len; omega
theorem Nice.dl {S : Plt} {D : Dpl} {k : Nat} (h : Nice S D k) (hk : k ≤ 1000) : D.last.length ≤ 100000 ∧ D.since.length ≤ 100000 := by have := h.len; omega
theorem Nice.tick {S : Plt} {D : Dpl} {k : Nat} (h : Nice S D k) (ho : S.off = false) : Nice (tick S) (dtick D) (k + 1) := by
  refine ⟨h.rel.tick ho, ?_, ?_, by have := h.len; show D.last.length + D.since.length ≤ k + 1; omega⟩
  · have := h.ops
    show 0 ≤ S.ops + 1 ∧ S.ops + 1 ≤ ((k + 1 : Nat) : Int)
    omega
  · have := h.arm
    show 0 ≤ (if 0 < S.armed then S.armed - 1 else S.armed) ∧ (if 0 < S.armed then S.armed - 1 else S.armed) ≤ 9223372036854775807
    split <;> omega
theorem Nice.addt {S : Plt} {D : Dpl} {k : Nat} (h : Nice S D k) (ho : S.off = false) (i : Int) {l : List Int} (hl : l.length ≤ 64) (v : Value) : Nice (Go.Proofs.Ytnfdkpjklenllaa.tick (S.add i l)) (dtick (D.add i l v)) (k + 1) := by
  refine ⟨(h.rel.add i hl v).tick ho, (h.tick ho).ops, (h.tick ho).arm, ?_⟩
  have := h.len
  show D.last.length + (D.since ++ [_]).length ≤ k + 1
  simp only [List.length_append, List.length_singleton]
  omega
theorem Nice.flushed {S : Plt} {D : Dpl} {k : Nat} (h : Nice S D k) : Nice S.flushed D.flushed k := by
  refine ⟨h.rel.flushed, h.ops, h.arm, ?_⟩
  have := h.len
  show (D.last ++ D.since).length + 0 ≤ k
  simp only [List.length_append]
  omega
theorem Nice.restart {S : Plt} {D : Dpl} {k : Nat} (h : Nice S D k) (K : List Int) : Nice (S.restart K) (D.restart K) k := by
  refine ⟨h.rel.restart K, h.ops, ⟨Int.le_refl 0, (by decide : (0 : Int) ≤ 9223372036854775807)⟩, ?_⟩
  have := h.len
  have hk := keepD_len (K := K) (l := D.since) D.since.length (Nat.le_refl _)
  rw [List.take_of_length_le (Nat.le_refl _)] at hk
  show (D.last ++ keepD K D.since).length + 0 ≤ k
  simp only [List.length_append]
  omega
theorem Nice.armed {S : Plt} {D : Dpl} {k : Nat} (h : Nice S D k) {n : Int} (hn : 0 ≤ n ∧ n ≤ 9223372036854775807) : Nice { S with armed := n } { D with armed := n } k := ⟨h.rel.arm n, h.ops, hn, h.len⟩
/-- both in memory; none of the document's bytes lie in P or G -/
structure Bo (P F G : Nat → Prop) (w : World) (b xb : Nat) (S : Plt) (D : Dpl) (k : Nat) : Prop where
  s : PlAt P w b S
  d : DAt F (fun g => F g ∨ P g ∨ G g) w xb D
  pf : ∀ g, P g → ¬ F g
  pl : ∀ g, P g → g < w.heap.size
  fl : ∀ g, F g → g < w.heap.size
  gl : ∀ g, G g → g < w.heap.size
  pg : ∀ g, P g → ¬ G g
  fg : ∀ g, F g → ¬ G g
  n : Nice S D k
section
variable {P F G : Nat → Prop} {w w1 w2 w3 w' : World} {b xb k : Nat} {S S' : Plt} {D D' : Dpl}
theorem Bo.same (h : Bo P F G w b xb S D k) (hk : Kept (fun _ => False) w w') : Bo P F G w' b xb S D k :=
  ⟨h.s.same hk, h.d.same hk, h.pf, fun g hg => Nat.lt_of_lt_of_le (h.pl g hg) hk.size, fun g hg => Nat.lt_of_lt_of_le (h.fl g hg) hk.size, fun g hg => Nat.lt_of_lt_of_le (h.gl g hg) hk.size, h.pg, h.fg, h.n⟩
theorem Bo.mono {m : Nat} (h : Bo P F G w b xb S D k) (hm : k ≤ m) : Bo P F G w b xb S D m := ⟨h.s, h.d, h.pf, h.pl, h.fl, h.gl, h.pg, h.fg, h.n.mono hm⟩
/-- what is new is not its own -/
theorem Bo.wide (h : Bo P F (fun _ => False) w b xb S D k) (hk : Kept (fun _ => False) w w1) : Bo P F (fun g => w.heap.size ≤ g ∧ g < w1.heap.size) w1 b xb S D k :=
  ⟨h.s.same hk, (h.d.wide (H' := fun g => F g ∨ P g ∨ (w.heap.size ≤ g ∧ g < w1.heap.size)) (fun g hg hh => hh.imp id (fun hh => hh.imp id (fun hh => by omega))) (fun g hg => .inl hg)).same hk,
    h.pf, fun g hg => Nat.lt_of_lt_of_le (h.pl g hg) hk.size, fun g hg => Nat.lt_of_lt_of_le (h.fl g hg) hk.size, fun g hg => hg.2, fun g hg hh => by have := h.pl g hg; omega, fun g hg hh => by have := h.fl g hg; omega, h.n⟩
/-- what is not its own was written -/
theorem Bo.drop (h : Bo P F G w b xb S D k) (hk : Kept G w w') : Bo P F (fun _ => False) w' b xb S D k :=
  ⟨h.s.kept hk (fun g _ hg => h.pg g hg), (h.d.kept hk (fun g _ hg => h.fg g hg) (fun g _ hg => .inr (.inr hg))).wide (fun g _ hg => hg.imp id (fun hh => .inl (hh.resolve_right id))) (fun g hg => .inl hg),
    h.pf, fun g hg => Nat.lt_of_lt_of_le (h.pl g hg) hk.size, fun g hg => Nat.lt_of_lt_of_le (h.fl g hg) hk.size, fun g hg => hg.elim, fun _ _ => id, fun _ _ => id, h.n⟩
abbrev H2 (P F G : Nat → Prop) (w1 w2 : World) (g : Nat) : Prop := F g ∨ P g ∨ G g ∨ (w1.heap.size ≤ g ∧ g < w2.heap.size)
theorem Bo.mid (h : Bo P F G w1 b xb S D k) (hk : Kept P w1 w2) : DAt F (H2 P F G w1 w2) w2 xb D :=
  (h.d.wide (H' := H2 P F G w1 w2) (fun g hg hh => hh.imp id (fun hh => hh.imp id (fun hh => hh.elim id (fun hh => by omega)))) (fun g hg => .inl hg)).kept hk (fun g _ hf hp => h.pf g hp hf) (fun g _ hp => .inr (.inl hp))
theorem Bo.h2 (h : Bo P F G w1 b xb S D k) (hk : Kept P w1 w2) : ∀ g, H2 P F G w1 w2 g → g < w2.heap.size := fun g hg => by
  have hs := hk.size
  rcases hg with hg | hg | hg | hg
  · exact Nat.lt_of_lt_of_le (h.fl g hg) hs
  · exact Nat.lt_of_lt_of_le (h.pl g hg) hs
  · exact Nat.lt_of_lt_of_le (h.gl g hg) hs
  · exact hg.2
/-- what comes behind a call -/
def Nx (P F : Nat → Prop) (w : World) (b xb k : Nat) (wa wb : World) : Prop := ∃ P' F' S' D', Bo P' F' (fun g => w.heap.size ≤ g ∧ g < wa.heap.size) wb b xb S' D' k ∧ (∀ g, P' g → P g ∨ wa.heap.size ≤ g) ∧ (∀ g, F' g → F g ∨ wa.heap.size ≤ g)
theorem Bo.fin {P1 : Nat → Prop} (h : Bo P F G w1 b xb S D k) (k1 : Kept P w1 w2) (hs : PlAt P1 w2 b S') (hP : ∀ g, P1 g → P g ∨ w1.heap.size ≤ g) (hd : DPost F (H2 P F G w1 w2) w2 xb D' w3) {m : Nat} (hn : Nice S' D' m) :
    ∃ P' F', Bo P' F' G w3 b xb S' D' m ∧ (∀ g, P' g → P g ∨ w1.heap.size ≤ g) ∧ (∀ g, F' g → F g ∨ w1.heap.size ≤ g) := by
  obtain ⟨F', hd, hF, k2⟩ := hd
  have s1 := k1.size
  have s2 := k2.size
  refine ⟨fun g => (P g ∨ P1 g) ∧ g < w2.heap.size, fun g => F' g ∧ g < w3.heap.size, ⟨?_, ?_, ?_, ?_, fun g hg => hg.2, ?_, ?_, ?_, hn⟩, ?_, ?_⟩
  · refine (hs.bound.mono (G := fun g => (P g ∨ P1 g) ∧ g < w2.heap.size) (fun g hg => ⟨.inr hg.1, hg.2⟩)).kept k2 (fun g hl hg hf => ?_)
    rcases hg.1 with hp | hp
    · exact h.pf g hp hf
    · rcases hP g hp with hp | hp
      · exact h.pf g hp hf
      · have := h.fl g hf; omega
  · have hd1 : DAt (fun g => F' g ∧ g < w3.heap.size) _ w3 xb D' := hd.bound
    refine hd1.wide (fun g _ hg => ?_) (fun g hg => .inl hg)
    rcases hg with hg | hg | hg
    · exact .inr hg.1
    · refine .inl ?_
      rcases hg.1 with hp | hp
      · exact .inr (.inl hp)
      · rcases hP g hp with hp | hp
        · exact .inr (.inl hp)
        · exact .inr (.inr (.inr ⟨hp, hg.2⟩))
    · exact .inl (.inr (.inr (.inl hg)))
  · intro g hg hf
    rcases hF g hf.1 with hf | hf
    · rcases hg.1 with hp | hp
      · exact h.pf g hp hf
      · rcases hP g hp with hp | hp
        · exact h.pf g hp hf
        · have := h.fl g hf; omega
    · have := hg.2; omega
  · intro g hg; have := hg.2; omega
  · intro g hg; have := h.gl g hg; omega
  · intro g hg hh
    rcases hg.1 with hp | hp
    · exact h.pg g hp hh
    · rcases hP g hp with hp | hp
      · exact h.pg g hp hh
      · have := h.gl g hh; omega
  · intro g hg hh
    rcases hF g hg.1 with hf | hf
    · exact h.fg g hf hh
    · have := h.gl g hh; omega
  · intro g hg
    exact hg.1.elim .inl (hP g)
  · intro g hg
    exact (hF g hg.1).imp id (fun h => by omega)
theorem Calls.kk {P : Program} {f : Nat} {xs : Array Value} {w : World} {R : Ending} (h : Calls P f xs w (fun e w' => e = R ∧ w = w')) : Calls P f xs w (fun e w' => e = R ∧ Kept (fun _ => False) w w') := h.mono fun e w' hh => ⟨hh.1, by rw [hh.2]; exact Kept.refl _ _⟩
theorem pr_no (h : Bo P F (fun g => w.heap.size ≤ g ∧ g < w1.heap.size) w1 b xb S D k) {f g : Nat} {xs ys : Array Value} {r : Int} (h1 : Calls Try.prog f xs w1 (fun e w' => e = .returned (.int .i64 r) ∧ Kept (fun _ => False) w1 w'))
    (h2 : ∀ w2, Kept (fun _ => False) w1 w2 → Calls Try.prog g ys w2 (fun e w' => e = .returned (.int .i64 r) ∧ Kept (fun _ => False) w2 w')) :
    Pr (fun g => P g ∨ F g) (Nx P F w b xb (k + 1)) w1 f g xs ys :=
  ⟨r, fun w2 => Kept (fun _ => False) w1 w2, h1.mono fun e w' hh => ⟨hh.1, hh.2, hh.2.mono (fun _ _ h => h.elim)⟩,
    fun w2 hk _ => (h2 w2 hk).mono fun e w' hh => ⟨hh.1, ⟨P, F, S, D, (h.same (hk.trans hh.2)).mono (Nat.le_succ k), fun _ h => .inl h, fun _ h => .inl h⟩, hh.2.mono (fun _ _ h => h.elim)⟩⟩
theorem pr_yes (h : Bo P F (fun g => w.heap.size ≤ g ∧ g < w1.heap.size) w1 b xb S D k) {f g : Nat} {xs ys : Array Value} {r : Int} {m : Nat}
    (h1 : Calls Try.prog f xs w1 (fun e w2 => e = .returned (.int .i64 r) ∧ (∃ P1, PlAt P1 w2 b S' ∧ ∀ g, P1 g → P g ∨ w1.heap.size ≤ g) ∧ Kept P w1 w2))
    (h2 : ∀ w2, Kept P w1 w2 → DAt F (H2 P F (fun g => w.heap.size ≤ g ∧ g < w1.heap.size) w1 w2) w2 xb D → Calls Try.prog g ys w2 (fun e w3 => e = .returned (.int .i64 r) ∧ ∃ D', Nice S' D' m ∧ DPost F (H2 P F (fun g => w.heap.size ≤ g ∧ g < w1.heap.size) w1 w2) w2 xb D' w3)) :
    Pr (fun g => P g ∨ F g) (Nx P F w b xb m) w1 f g xs ys :=
  ⟨r, fun w2 => (∃ P1, PlAt P1 w2 b S' ∧ ∀ g, P1 g → P g ∨ w1.heap.size ≤ g) ∧ Kept P w1 w2, h1.mono fun e w' hh => ⟨hh.1, hh.2, hh.2.2.mono (fun _ _ h => .inl h)⟩,
    fun w2 hM _ => (h2 w2 hM.2 (h.mid hM.2)).mono fun e w3 hh => by
      obtain ⟨he, D', hn, hd⟩ := hh
      obtain ⟨⟨P1, hp, hP⟩, hk⟩ := hM
      obtain ⟨P', F', hb, h1, h2⟩ := h.fin hk hp hP hd hn
      exact ⟨he, ⟨P', F', S', D', hb, h1, h2⟩, hd.choose_spec.2.2.mono (fun _ _ h => .inr h)⟩⟩
end
end Go.Proofs.Ytnfdkpjklenllaa
