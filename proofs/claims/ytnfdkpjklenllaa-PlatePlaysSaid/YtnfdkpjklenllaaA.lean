/- A plate in memory; New, check, goes, Arm, On, Ops, Len. -/
import Derived.Test.YtnfdkpjklenllaaRow
import Derived.Test.YtnfdkpjklenllaaCopy
import Derived.Test.YtnfdkpjklenllaaByt
import Derived.Test.YtnfdkpjklenllaaArg
import Derived.Test.YtnfdkpjklenllaaHold
namespace Go.Proofs.Ytnfdkpjklenllaa
open Go.RowKit

abbrev Pend := Int × List Int
def pcell (x : Pend) : List Value := .int .i64 x.1 :: u8s x.2
def pcells (l : List Pend) : List Value := l.flatMap pcell
def zpg : List Int := List.replicate 64 0
theorem zpg_len : zpg.length = 64 := by simp [zpg]
theorem pcell_len (x : Pend) (h : x.2.length = 64) : (pcell x).length = 65 := by simp [pcell, u8s, h]
theorem pcell_one (x : Pend) : ∀ u ∈ pcell x, u.oneCell' = true := by
  intro u hu
  simp only [pcell, List.mem_cons] at hu
  rcases hu with rfl | hu
  · rfl
  · exact u8s_one _ u hu
theorem pcells_one (l : List Pend) : ∀ u ∈ pcells l, u.oneCell' = true := by
  intro u hu
  simp only [pcells, List.mem_flatMap] at hu
  obtain ⟨x, _, hx⟩ := hu
  exact pcell_one x u hx
theorem pcells_snoc (l : List Pend) (x : Pend) : pcells (l ++ [x]) = pcells l ++ pcell x := by simp [pcells]
theorem pcells_at : ∀ (l : List Pend) (h : ∀ x ∈ l, x.2.length = 64) (i : Nat) (x : Pend) (j : Nat) (u : Value), l[i]? = some x → (pcell x)[j]? = some u → (pcells l)[i * 65 + j]? = some u
  | [], _, _, _, _, _, h, _ => by simp at h
  | y :: l, h, 0, x, j, u, hx, hu => by
    simp at hx; subst hx
    have hj : j < (pcell y).length := (List.getElem?_eq_some_iff.1 hu).1
    simp only [pcells, List.flatMap_cons, Nat.zero_mul, Nat.zero_add]
    rw [List.getElem?_append_left hj]; exact hu
  | y :: l, h, i + 1, x, j, u, hx, hu => by
    have ih := pcells_at l (fun z hz => h z (by simp [hz])) i x j u (by simpa using hx) hu
    simp only [pcells, List.flatMap_cons] at ih ⊢
    rw [List.getElem?_append_right (by rw [pcell_len y (h y (by simp))]; omega), pcell_len y (h y (by simp))]
    rw [show (i + 1) * 65 + j - 65 = i * 65 + j by omega]; exact ih

structure Plt where
  n : Int
  last : Int → List Int
  since : List Pend
  off : Bool
  armed : Int
  ops : Int

/-- a map's entries tell the pages: those that are not there are zero -/
def Tells (L : List (Int × Value)) (f : Int → List Int) : Prop := ∀ k, (look L k = some (.agg (u8s (f k)).toArray) ∧ f k ≠ zpg) ∨ (look L k = none ∧ f k = zpg)
def upd (f : Int → List Int) (i : Int) (p : List Int) : Int → List Int := fun k => if k = i then p else f k
theorem tells_nil : Tells [] (fun _ => zpg) := fun _ => .inr ⟨rfl, rfl⟩
theorem tells_lay {L : List (Int × Value)} {f : Int → List Int} (h : Tells L f) (i : Int) {p : List Int} (hp : p ≠ zpg) : Tells (lay L i (.agg (u8s p).toArray)) (upd f i p) := fun k => by
  rw [look_lay]
  unfold upd
  split
  · exact .inl ⟨rfl, hp⟩
  · exact h k
theorem tells_out {L : List (Int × Value)} {f : Int → List Int} (h : Tells L f) (i : Int) (v : Value) : Tells (wipe (lay L i v) i) (upd f i zpg) := fun k => by
  rw [look_wipe, look_lay]
  unfold upd
  split
  · exact .inr ⟨rfl, rfl⟩
  · exact h k

abbrev plRow (S : Plt) (mb : Nat) (ao : Option Addr) (cap : Nat) : Obj := .cells #[.int .i64 S.n, .map (some mb), .slice ao S.since.length cap, .bool S.off, .int .i64 S.armed, .int .i64 S.ops] 68 (0, 0)
/-- block b is a plate -/
structure PlIn (F : Nat → Prop) (w : World) (b mb : Nat) (ao : Option Addr) (cap : Nat) (S : Plt) : Prop where
  r : w.heap[b]? = some (plRow S mb ao cap)
  q : ∃ L, MapIs w mb .i64 L ∧ Tells L S.last
  o : Own w 71 65 (.slice ao S.since.length cap) S.since.length (pcells S.since)
  m : F b
  f : F mb
  g : ∀ g, (Value.slice ao S.since.length cap).ownBlock = some g → F g
  l : ∀ k, (S.last k).length = 64
  s : ∀ x ∈ S.since, x.2.length = 64
def PlAt (F : Nat → Prop) (w : World) (b : Nat) (S : Plt) : Prop := ∃ mb ao cap, PlIn F w b mb ao cap S

section
variable {F G : Nat → Prop} {w w' : World} {b mb cap : Nat} {ao : Option Addr} {S : Plt}
theorem PlIn.kept (h : PlIn F w b mb ao cap S) (k : Kept G w w') (hg : ∀ g, g < w.heap.size → F g → ¬ G g) : PlIn F w' b mb ao cap S :=
  ⟨(k.block _ (row_lt h.r) (hg _ (row_lt h.r) h.m)).trans h.r, (by
    obtain ⟨L, h1, h2⟩ := h.q
    exact ⟨L, h1.of_block (k.block _ h1.lt (hg _ h1.lt h.f)), h2⟩), h.o.kept k (fun g hb => hg g (h.o.lt hb) (h.g g hb)), h.m, h.f, h.g, h.l, h.s⟩
theorem PlAt.kept (h : PlAt F w b S) (k : Kept G w w') (hg : ∀ g, g < w.heap.size → F g → ¬ G g) : PlAt F w' b S := by
  obtain ⟨mb, ao, cap, h⟩ := h
  exact ⟨mb, ao, cap, h.kept k hg⟩
theorem PlAt.same (h : PlAt F w b S) (k : Kept (fun _ => False) w w') : PlAt F w' b S := h.kept k (fun _ _ _ h => h)
theorem PlIn.mono (h : PlIn F w b mb ao cap S) (hg : ∀ g, F g → G g) : PlIn G w b mb ao cap S := ⟨h.r, h.q, h.o, hg _ h.m, hg _ h.f, fun g hb => hg _ (h.g g hb), h.l, h.s⟩
theorem PlAt.mono (h : PlAt F w b S) (hg : ∀ g, F g → G g) : PlAt G w b S := by
  obtain ⟨mb, ao, cap, h⟩ := h
  exact ⟨mb, ao, cap, ⟨h.r, h.q, h.o, hg _ h.m, hg _ h.f, fun g hb => hg _ (h.g g hb), h.l, h.s⟩⟩
/-- only the plate's own row is written, and not where its pages lie -/
theorem PlIn.set (h : PlIn F w b mb ao cap S) (k : Kept (fun g => g = b) w w') (S' : Plt) (hr : w'.heap[b]? = some (plRow S' mb ao cap)) (h1 : S'.last = S.last) (h2 : S'.since = S.since) : PlIn F w' b mb ao cap S' := by
  obtain ⟨n', l', s', o', a', p'⟩ := S'
  obtain ⟨n, l, s, o, a, p⟩ := S
  dsimp only at h1 h2
  subst h1; subst h2
  refine ⟨hr, ?_, ?_, h.m, h.f, h.g, h.l, h.s⟩
  · obtain ⟨L, q1, q2⟩ := h.q
    refine ⟨L, q1.of_block (k.block _ q1.lt fun e => ?_), q2⟩
    subst e
    obtain ⟨es, cl, e1, _⟩ := q1
    have := h.r.symm.trans e1
    simp at this
  · exact h.o.kept k fun g hb e => by subst e; exact h.o.ne_block h.r (by decide) hb
end
theorem cells6 {w : World} {b : Nat} {x0 x1 x2 x3 x4 x5 : Value} {T : TypeId} (h : w.heap[b]? = some (.cells #[x0, x1, x2, x3, x4, x5] T (0, 0))) :
    w.cell? ⟨b, 0, none⟩ = some x0 ∧ w.cell? ⟨b, 1, none⟩ = some x1 ∧ w.cell? ⟨b, 2, none⟩ = some x2 ∧ w.cell? ⟨b, 3, none⟩ = some x3 ∧ w.cell? ⟨b, 4, none⟩ = some x4 ∧ w.cell? ⟨b, 5, none⟩ = some x5 := by
  refine ⟨?_, ?_, ?_, ?_, ?_, ?_⟩ <;> (rw [row_cell h]; rfl)

def newP (n : Int) : Plt := ⟨n, fun _ => zpg, [], false, 0, 0⟩
set_option maxHeartbeats 1000000 in
theorem new_ok (w : World) (n : Int) (h1 : 1 ≤ n) (h2 : n ≤ 65536) :
    Calls Try.prog 19 #[.int .i64 n] w fun e w' => ∃ b, e = .returned (.tuple #[.pointer (some ⟨b, 0, none⟩), .int .i64 0]) ∧ PlAt (fun g => w.heap.size ≤ g) w' b (newP n) ∧ Kept (fun _ => False) w w' ∧ w.heap.size ≤ b := by
  have e1 : ¬ n < 1 := by omega
  have e2 : ¬ 65536 < n := by omega
  have hmm := @run_makeMap Try.prog
  go_enter Try.func19, Try.ntmps19
  go_wp2
  go_returns
  refine ⟨_, rfl, ⟨w.heap.size, none, 0, ?_⟩, ((Kept.refl _ _).alloc _).alloc _, by simp⟩
  refine ⟨(two_new w (.map #[] 0) _).2, ⟨[], (MapIs.made w .i64).of_block (Below.heap_alloc _ _ _ (by simp)), tells_nil⟩, Own.nil _ _ _, by simp, by simp, by simp [Value.ownBlock, newP], fun k => zpg_len, by simp [newP]⟩

def Plt.err (S : Plt) : Int := if S.off then 11 else 0
set_option maxHeartbeats 1000000 in
theorem check_any {F : Nat → Prop} {w : World} {b : Nat} {S : Plt} (h : PlAt F w b S) :
    Calls Try.prog 25 #[.pointer (some ⟨b, 0, none⟩)] w fun e w' => e = .returned (.int .i64 S.err) ∧ Kept (fun _ => False) w w' := by
  obtain ⟨mb, ao, cap, h⟩ := h
  obtain ⟨c0, c1, c2, c3, c4, c5⟩ := cells6 h.r
  clear h c0 c1 c2 c4 c5
  go_enter Try.func25, Try.ntmps25
  unfold Plt.err
  cases hoff : S.off <;> rw [hoff] at c3 <;> clear hoff
  all_goals
    go_wp2
    go_ret
    exact ⟨rfl, Kept.refl _ _⟩
end Go.Proofs.Ytnfdkpjklenllaa
