/- The document's plate in memory: state, counted, DocNew, DocArm. -/
import Derived.Test.YtnfdkpjklenllaaS
import Derived.Test.YtnfdkpjklenllaaLies
namespace Go.Proofs.Ytnfdkpjklenllaa
open Go.RowKit
/-- bytes that come over a page; where they lie -/
structure DE where
  pg : Int
  pl : Nat
  bs : List Int
  v : Value
def dcell (x : DE) : List Value := [.int .i64 x.pg, .int .i64 x.pl, x.v]
def dcells (l : List DE) : List Value := l.flatMap dcell
structure Dpl where
  n : Int
  last : List DE
  since : List DE
  off : Bool
  armed : Int
  ops : Int
abbrev dlRow (D : Dpl) (lo : Option Addr) (lc : Nat) (so : Option Addr) (sc : Nat) : Obj := .cells #[.int .i64 D.n, .slice lo D.last.length lc, .slice so D.since.length sc, .bool D.off, .int .i64 D.armed, .int .i64 D.ops] 61 (0, 0)
/-- bytes in form: a whole page or a half; their block is none of H -/
structure DEok (H : Nat → Prop) (w : World) (x : DE) : Prop where
  v : Lies H w 1 x.v x.bs.length (u8s x.bs)
  f : (x.pl = 0 ∧ x.bs.length = 64) ∨ (x.pl = 0 ∧ x.bs.length = 32) ∨ (x.pl = 32 ∧ x.bs.length = 32)
/-- F: the blocks of its row and lists; H: blocks in which no bytes of it lie -/
structure DIn (F H : Nat → Prop) (w : World) (b : Nat) (lo : Option Addr) (lc : Nat) (so : Option Addr) (sc : Nat) (D : Dpl) : Prop where
  r : w.heap[b]? = some (dlRow D lo lc so sc)
  ol : Own w 85 3 (.slice lo D.last.length lc) D.last.length (dcells D.last)
  os : Own w 85 3 (.slice so D.since.length sc) D.since.length (dcells D.since)
  m : F b
  gl : ∀ g, (Value.slice lo D.last.length lc).ownBlock = some g → F g
  gs : ∀ g, (Value.slice so D.since.length sc).ownBlock = some g → F g
  ne : ∀ g, (Value.slice lo D.last.length lc).ownBlock = some g → (Value.slice so D.since.length sc).ownBlock ≠ some g
  el : ∀ x ∈ D.last, DEok H w x
  es : ∀ x ∈ D.since, DEok H w x
  e0 : ∀ x ∈ D.since, x.pl = 0 ∧ x.bs.length = 64
  fh : ∀ g, F g → H g
def DAt (F H : Nat → Prop) (w : World) (b : Nat) (D : Dpl) : Prop := ∃ lo lc so sc, DIn F H w b lo lc so sc D
section
variable {F G H H' : Nat → Prop} {w w' : World} {b lc sc : Nat} {lo so : Option Addr} {D : Dpl}
theorem DEok.kept {x : DE} (h : DEok H w x) (k : Kept G w w') (hg : ∀ g, g < w.heap.size → G g → H g) : DEok H w' x := ⟨h.v.kept k hg, h.f⟩
theorem DEok.mono {x : DE} (h : DEok H w x) (hg : ∀ g, g < w.heap.size → H' g → H g) : DEok H' w x := ⟨h.v.mono hg, h.f⟩
theorem DIn.kept (h : DIn F H w b lo lc so sc D) (k : Kept G w w') (hg : ∀ g, g < w.heap.size → F g → ¬ G g) (hh : ∀ g, g < w.heap.size → G g → H g) : DIn F H w' b lo lc so sc D :=
  ⟨(k.block _ (row_lt h.r) (hg _ (row_lt h.r) h.m)).trans h.r, h.ol.kept k (fun g hb => hg g (h.ol.lt hb) (h.gl g hb)), h.os.kept k (fun g hb => hg g (h.os.lt hb) (h.gs g hb)), h.m, h.gl, h.gs, h.ne, fun x hx => (h.el x hx).kept k hh, fun x hx => (h.es x hx).kept k hh, h.e0, h.fh⟩
theorem DIn.same (h : DIn F H w b lo lc so sc D) (k : Kept (fun _ => False) w w') : DIn F H w' b lo lc so sc D := h.kept k (fun _ _ _ h => h) (fun _ _ h => h.elim)
theorem DIn.wide (h : DIn F H w b lo lc so sc D) (hg : ∀ g, g < w.heap.size → H' g → H g) (fh : ∀ g, F g → H' g) : DIn F H' w b lo lc so sc D :=
  ⟨h.r, h.ol, h.os, h.m, h.gl, h.gs, h.ne, fun x hx => (h.el x hx).mono hg, fun x hx => (h.es x hx).mono hg, h.e0, fh⟩
theorem DAt.kept (h : DAt F H w b D) (k : Kept G w w') (hg : ∀ g, g < w.heap.size → F g → ¬ G g) (hh : ∀ g, g < w.heap.size → G g → H g) : DAt F H w' b D := by
  obtain ⟨lo, lc, so, sc, h⟩ := h
  exact ⟨lo, lc, so, sc, h.kept k hg hh⟩
theorem DAt.same (h : DAt F H w b D) (k : Kept (fun _ => False) w w') : DAt F H w' b D := h.kept k (fun _ _ _ h => h) (fun _ _ h => h.elim)
theorem DAt.wide (h : DAt F H w b D) (hg : ∀ g, g < w.heap.size → H' g → H g) (fh : ∀ g, F g → H' g) : DAt F H' w b D := by
  obtain ⟨lo, lc, so, sc, h⟩ := h
  exact ⟨lo, lc, so, sc, h.wide hg fh⟩
theorem DIn.neb (h : DIn F H w b lo lc so sc D) : (∀ g, (Value.slice lo D.last.length lc).ownBlock = some g → g ≠ b) ∧ ∀ g, (Value.slice so D.since.length sc).ownBlock = some g → g ≠ b :=
  ⟨fun g e he => by subst he; exact h.ol.ne_block h.r (by decide) e, fun g e he => by subst he; exact h.os.ne_block h.r (by decide) e⟩
/-- the row alone is written, and not its lists -/
theorem DIn.set (h : DIn F H w b lo lc so sc D) (k : Kept (fun g => g = b) w w') (D' : Dpl) (hr : w'.heap[b]? = some (dlRow D' lo lc so sc)) (h1 : D'.last = D.last) (h2 : D'.since = D.since) : DIn F H w' b lo lc so sc D' := by
  obtain ⟨n', l', s', o', a', p'⟩ := D'
  obtain ⟨n, l, s, o, a, p⟩ := D
  dsimp only at h1 h2
  subst h1; subst h2
  exact ⟨hr, h.ol.kept k (fun g hb => h.neb.1 g hb), h.os.kept k (fun g hb => h.neb.2 g hb), h.m, h.gl, h.gs, h.ne, fun x hx => (h.el x hx).kept k (fun g _ e => by rw [e]; exact h.fh _ h.m), fun x hx => (h.es x hx).kept k (fun g _ e => by rw [e]; exact h.fh _ h.m), h.e0, h.fh⟩
end
def newD (n : Int) : Dpl := ⟨n, [], [], false, 0, 0⟩
def Dpl.err (D : Dpl) : Int := if D.off then 11 else 0
def dtick (D : Dpl) : Dpl := { D with ops := D.ops + 1, off := D.off || decide (D.armed = 1), armed := if 0 < D.armed then D.armed - 1 else D.armed }
set_option maxHeartbeats 1000000 in
theorem dnew_ok (w : World) (n : Int) (h1 : 1 ≤ n) (h2 : n ≤ 65536) :
    Calls Try.prog 21 #[.int .i64 n] w fun e w' => e = .returned (.tuple #[.pointer (some ⟨w.heap.size, 0, none⟩), .int .i64 0]) ∧ DAt (fun g => g = w.heap.size) (fun g => g = w.heap.size) w' w.heap.size (newD n) ∧ Kept (fun _ => False) w w' := by
  have e1 : ¬ n < 1 := by omega
  have e2 : ¬ 65536 < n := by omega
  go_enter Try.func21, Try.ntmps21
  go_wp2
  go_ret2
  exact ⟨rfl, ⟨none, 0, none, 0, row_new w _, Own.nil _ _ _, Own.nil _ _ _, rfl, by simp [Value.ownBlock, newD], by simp [Value.ownBlock, newD], by simp [Value.ownBlock, newD], by simp [newD], by simp [newD], by simp [newD], fun _ h => h⟩, (Kept.refl _ _).alloc _⟩
set_option maxHeartbeats 1000000 in
theorem dnew_bad (w : World) (n : Int) (h : ¬ (1 ≤ n ∧ n ≤ 65536)) :
    Calls Try.prog 21 #[.int .i64 n] w fun e w' => e = .returned (.tuple #[.pointer none, .int .i64 1]) ∧ w = w' := by
  by_cases h1 : n < 1
  · go_enter Try.func21, Try.ntmps21
    go_wp2
    go_ret2
    exact ⟨rfl, rfl⟩
  · have h2 : 65536 < n := by omega
    go_enter Try.func21, Try.ntmps21
    go_wp2
    go_ret2
    exact ⟨rfl, rfl⟩
set_option maxHeartbeats 1000000 in
theorem state_nil (w : World) : Calls Try.prog 39 #[.pointer none] w fun e w' => e = .returned (.int .i64 6) ∧ w = w' := by
  go_enter Try.func39, Try.ntmps39
  go_wp2
  go_ret
  exact ⟨rfl, rfl⟩
set_option maxHeartbeats 1000000 in
theorem state_any {F H : Nat → Prop} {w : World} {b : Nat} {D : Dpl} (h : DAt F H w b D) :
    Calls Try.prog 39 #[.pointer (some ⟨b, 0, none⟩)] w fun e w' => e = .returned (.int .i64 D.err) ∧ w = w' := by
  obtain ⟨lo, lc, so, sc, h⟩ := h
  obtain ⟨c0, c1, c2, c3, c4, c5⟩ := cells6 h.r
  clear h c0 c1 c2 c4 c5
  unfold Dpl.err
  cases hoff : D.off <;> rw [hoff] at c3 <;> clear hoff
  all_goals
    go_enter Try.func39, Try.ntmps39
    go_wp2
    go_ret
    exact ⟨rfl, rfl⟩
structure DSmall (D : Dpl) : Prop where
  o : 0 ≤ D.ops ∧ D.ops ≤ 1000000
  a : 0 ≤ D.armed ∧ D.armed ≤ 9223372036854775807
set_option maxHeartbeats 1000000 in
theorem counted_any {F H : Nat → Prop} {w : World} {b lc sc : Nat} {lo so : Option Addr} {D : Dpl} (h : DIn F H w b lo lc so sc D) (hs : DSmall D) (hoff : D.off = false) :
    Calls Try.prog 40 #[.pointer (some ⟨b, 0, none⟩)] w fun e w' => e = .returned (.bool (dtick D).off) ∧ DIn F H w' b lo lc so sc (dtick D) ∧ Kept (fun g => g = b) w w' := by
  obtain ⟨c0, c1, c2, c3, c4, c5⟩ := cells6 h.r
  have HI := hid h; clear h
  rw [hoff] at c3
  have HOF := hid hoff; clear hoff
  obtain ⟨⟨o1, o2⟩, a1, a2⟩ := hs
  have fz := fun j => row_free HI.out.r j
  have r1 := row_set HI.out.r 5 (.int .i64 (D.ops + 1))
  have k1 := (Kept.refl (fun g => g = b) w).setCell (p := ⟨b, 5, none⟩) (.inl rfl) (.int .i64 (D.ops + 1))
  have z1 : IntKind.i64.wrap (D.ops + 1) = D.ops + 1 := IntWalk.i64_in _ (by omega)
  have R1 := hid r1; have K1 := hid k1; clear r1 k1
  by_cases ha : 0 < D.armed
  · by_cases h1 : D.armed = 1
    · have z2 : IntKind.i64.wrap (D.armed - 1) = D.armed - 1 := IntWalk.i64_in _ (by omega)
      have b1 : (D.armed == 1) = true := by simp [h1]
      have r2 := row_set R1.out 3 (.bool true)
      have k2 := K1.out.setCell (p := ⟨b, 3, none⟩) (.inl rfl) (.bool true)
      have r3 := row_set r2 4 (.int .i64 (D.armed - 1))
      have k3 := k2.setCell (p := ⟨b, 4, none⟩) (.inl rfl) (.int .i64 (D.armed - 1))
      have hp := HI.out.set k3 (dtick D) (by rw [r3]; simp only [dlRow, dtick, if_pos ha]; rw [show (D.off || decide (D.armed = 1)) = true by simp [h1]]; rfl) rfl rfl
      have HP := hid hp; have K3 := hid k3; clear hp k3 r2 k2 r3
      have he : (dtick D).off = true := by simp [dtick, h1]
      rw [he]
      clear h1
      go_enter Try.func40, Try.ntmps40
      go_wp2
      go_ret
      exact ⟨rfl, HP.out, K3.out⟩
    · have z2 : IntKind.i64.wrap (D.armed - 1) = D.armed - 1 := IntWalk.i64_in _ (by omega)
      have b1 : (D.armed == 1) = false := by simp [h1]
      have r3 := row_set R1.out 4 (.int .i64 (D.armed - 1))
      have k3 := K1.out.setCell (p := ⟨b, 4, none⟩) (.inl rfl) (.int .i64 (D.armed - 1))
      have hp := HI.out.set k3 (dtick D) (by rw [r3]; simp only [dlRow, dtick, if_pos ha]; rw [show (D.off || decide (D.armed = 1)) = false by simp [h1, HOF.out]]; rw [HOF.out]; rfl) rfl rfl
      have HP := hid hp; have K3 := hid k3; clear hp k3 r3
      have he : (dtick D).off = false := by simp [dtick, h1, HOF.out]
      rw [he]
      clear h1
      go_enter Try.func40, Try.ntmps40
      go_wp2
      go_ret
      exact ⟨rfl, HP.out, K3.out⟩
  · have b1 : (D.armed == 1) = false := by simp; omega
    have hp := HI.out.set K1.out (dtick D) (by rw [R1.out]; simp only [dlRow, dtick, if_neg ha]; rw [show (D.off || decide (D.armed = 1)) = D.off by simp; omega]; rfl) rfl rfl
    have HP := hid hp; clear hp
    have he : (dtick D).off = false := by simp [dtick, HOF.out]; omega
    rw [he]
    go_enter Try.func40, Try.ntmps40
    go_wp2
    go_ret
    exact ⟨rfl, HP.out, K1.out⟩
end Go.Proofs.Ytnfdkpjklenllaa
