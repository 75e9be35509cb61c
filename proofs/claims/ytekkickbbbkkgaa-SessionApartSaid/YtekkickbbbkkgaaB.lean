/- A table of clients in memory; at, far, Start, Fail. -/
import Derived.Test.YtekkickbbbkkgaaA
namespace Go.Proofs.Ytekkickbbbkkgaa
open Go.RowKit

/-- what is known of a client -/
structure Cl where
  last : Int
  run : Int
  a : Ans
structure ClIn (F : Nat → Prop) (w : World) (cs : Array Value) (c : Nat) (x : Cl) (v l : Value) : Prop where
  c0 : cs[c * 6]? = some (.int .u32 x.last)
  c1 : cs[c * 6 + 1]? = some (.int .i64 x.a.e)
  c2 : cs[c * 6 + 2]? = some (.int .i64 x.a.p)
  c3 : cs[c * 6 + 3]? = some v
  c4 : cs[c * 6 + 4]? = some l
  c5 : cs[c * 6 + 5]? = some (.int .u32 x.run)
  a : AnsIn F w v l x.a
  r0 : 0 ≤ x.last
  r1 : x.last ≤ 4294967295
structure TabAt (F : Nat → Prop) (w : World) (tb : Nat) (f : Nat → Cl) : Prop where
  mem : F tb
  lt : ∀ g, F g → g < w.heap.size
  blk : ∃ cs : Array Value, w.heap[tb]? = some (.cells cs 49 (0, 0)) ∧ cs.size = 24 ∧ ∀ c, c < 4 → ∃ v l, ClIn F w cs c (f c) v l
def upd (f : Nat → Cl) (c : Nat) (x : Cl) : Nat → Cl := fun k => if k = c then x else f k
theorem upd_same (f : Nat → Cl) (c : Nat) : upd f c (f c) = f := by
  funext k
  unfold upd
  split
  · rename_i h; rw [h]
  · rfl
theorem upd_upd (f : Nat → Cl) (c : Nat) (x y : Cl) : upd (upd f c x) c y = upd f c y := by
  funext k
  unfold upd
  split <;> rfl
theorem upd_at (f : Nat → Cl) (c : Nat) (x : Cl) : upd f c x c = x := by simp [upd]

theorem ClIn.kept {F G : Nat → Prop} {w w' : World} {cs : Array Value} {c : Nat} {x : Cl} {v l : Value} (h : ClIn F w cs c x v l) (k : Kept G w w') (hg : ∀ g, g < w.heap.size → G g → F g) : ClIn F w' cs c x v l :=
  ⟨h.c0, h.c1, h.c2, h.c3, h.c4, h.c5, h.a.kept k hg, h.r0, h.r1⟩
theorem TabAt.kept {F G : Nat → Prop} {w w' : World} {tb : Nat} {f : Nat → Cl} (h : TabAt F w tb f) (k : Kept G w w') (hg : ∀ g, G g → F g) (ht : ¬ G tb) : TabAt F w' tb f := by
  obtain ⟨cs, h1, h2, h3⟩ := h.blk
  refine ⟨h.mem, fun g hg => Nat.lt_of_lt_of_le (h.lt g hg) k.size, cs, (k.block _ (row_lt h1) ht).trans h1, h2, fun c hc => ?_⟩
  obtain ⟨v, l, q⟩ := h3 c hc
  exact ⟨v, l, q.kept k fun g _ => hg g⟩
theorem TabAt.same {F : Nat → Prop} {w w' : World} {tb : Nat} {f : Nat → Cl} (h : TabAt F w tb f) (k : Kept (fun _ => False) w w') : TabAt F w' tb f := h.kept k (fun _ h => h.elim) id
theorem TabAt.put {F : Nat → Prop} {w : World} {tb : Nat} {f : Nat → Cl} (h : TabAt F w tb f) {c k : Nat} (hc : c < 4) (hk : k < 6) (u : Value) (x : Cl)
    (hx : ∀ cs v l, cs.size = 24 → ClIn F w cs c (f c) v l → ∃ v' l', ClIn F w (cs.setIfInBounds (c * 6 + k) u) c x v' l') : TabAt F (w.setCell ⟨tb, c * 6 + k, none⟩ u) tb (upd f c x) := by
  obtain ⟨cs, h1, h2, h3⟩ := h.blk
  have K : Kept F w (w.setCell ⟨tb, c * 6 + k, none⟩ u) := (Kept.refl F w).setCell (.inl h.mem) u
  refine ⟨h.mem, fun g hg => Nat.lt_of_lt_of_le (h.lt g hg) K.size, _, row_set h1 _ _, by simpa using h2, fun d hd => ?_⟩
  by_cases hdc : d = c
  · subst hdc
    obtain ⟨v, l, q⟩ := h3 d hd
    obtain ⟨v', l', q'⟩ := hx cs v l h2 q
    refine ⟨v', l', ?_⟩
    rw [upd_at]
    exact q'.kept K fun _ _ h => h
  · obtain ⟨v, l, q⟩ := h3 d hd
    have e : ∀ j, j < 6 → (cs.setIfInBounds (c * 6 + k) u)[d * 6 + j]? = cs[d * 6 + j]? := fun j hj => by
      rw [Array.getElem?_setIfInBounds_ne]
      omega
    have e' : upd f c x d = f d := by simp [upd, hdc]
    refine ⟨v, l, ?_⟩
    rw [e']
    exact ⟨(e 0 (by decide)).trans q.c0, (e 1 (by decide)).trans q.c1, (e 2 (by decide)).trans q.c2, (e 3 (by decide)).trans q.c3, (e 4 (by decide)).trans q.c4, (e 5 (by decide)).trans q.c5, q.a.kept K fun _ _ h => h, q.r0, q.r1⟩
theorem TabAt.setRun {F : Nat → Prop} {w : World} {tb : Nat} {f : Nat → Cl} (h : TabAt F w tb f) {c : Nat} (hc : c < 4) (r : Int) : TabAt F (w.setCell ⟨tb, c * 6 + 5, none⟩ (.int .u32 r)) tb (upd f c { f c with run := r }) :=
  h.put hc (by decide) _ _ fun cs v l hz q => ⟨v, l, by
    constructor <;> first | exact q.a | exact q.r0 | exact q.r1 | (rw [Array.getElem?_setIfInBounds_ne (by omega)]; first | exact q.c0 | exact q.c1 | exact q.c2 | exact q.c3 | exact q.c4) | (rw [Array.getElem?_setIfInBounds]; simp; omega)⟩

theorem TabAt.cell {F : Nat → Prop} {w : World} {tb : Nat} {f : Nat → Cl} (h : TabAt F w tb f) {c : Nat} (hc : c < 4) : ∃ v l,
    w.cell? ⟨tb, c * 6, none⟩ = some (.int .u32 (f c).last) ∧ w.cell? ⟨tb, c * 6 + 1, none⟩ = some (.int .i64 (f c).a.e) ∧ w.cell? ⟨tb, c * 6 + 2, none⟩ = some (.int .i64 (f c).a.p) ∧
    w.cell? ⟨tb, c * 6 + 3, none⟩ = some v ∧ w.cell? ⟨tb, c * 6 + 4, none⟩ = some l ∧ w.cell? ⟨tb, c * 6 + 5, none⟩ = some (.int .u32 (f c).run) ∧ (∀ i, w.frozen? ⟨tb, i, none⟩ = false) ∧
    AnsIn F w v l (f c).a ∧ 0 ≤ (f c).last ∧ (f c).last ≤ 4294967295 := by
  obtain ⟨cs, h1, h2, h3⟩ := h.blk
  obtain ⟨v, l, q⟩ := h3 c hc
  exact ⟨v, l, (row_cell h1 _).trans q.c0, (row_cell h1 _).trans q.c1, (row_cell h1 _).trans q.c2, (row_cell h1 _).trans q.c3, (row_cell h1 _).trans q.c4, (row_cell h1 _).trans q.c5, row_free h1, q.a, q.r0, q.r1⟩

def zans : Ans := ⟨0, 0, [], []⟩
def zcl : Cl := ⟨0, 0, zans⟩
set_option maxHeartbeats 400000 in
theorem new_any (w : World) : Calls Try.prog 6 #[] w fun e w' => e = .returned (.pointer (some ⟨w.heap.size, 0, none⟩)) ∧ TabAt (fun g => g = w.heap.size) w' w.heap.size (fun _ => zcl) ∧ Kept (fun _ => False) w w' ∧ w'.heap.size = w.heap.size + 1 := by
  go_enter Try.func6, Try.ntmps6
  go_wp2
  go_ret
  refine ⟨rfl, ⟨rfl, fun g hg => by subst hg; simp, _, row_new _ _, by rfl, fun c hc => ⟨.slice none 0 0, .slice none 0 0, ?_⟩⟩, (Kept.refl _ _).alloc _, by simp⟩
  match c, hc with
  | 0, _ | 1, _ | 2, _ | 3, _ => exact ⟨rfl, rfl, rfl, rfl, rfl, rfl, AnsIn.nil _ _ _ _, by simp [zcl], by simp [zcl]⟩

set_option maxHeartbeats 400000 in
theorem at_yes (tb c : Nat) (seq : Int) (w : World) (hc : c < 4) (hs : seq ≠ 0) :
    Calls Try.prog 14 #[.pointer (some ⟨tb, 0, none⟩), .int .u8 c, .int .u32 seq] w fun e w' => e = .returned (.tuple #[.pointer (some ⟨tb, c * 6, none⟩), .int .i64 0]) ∧ w = w' := by
  have h1 : (c : Int) < 4 := by omega
  have h2 : ¬ (4 : Int) ≤ (c : Int) := by omega
  have h3 : (0 : Int) ≤ (c : Int) := by omega
  have hs' : (seq == 0) = false := by simpa using hs
  clear hs
  go_enter Try.func14, Try.ntmps14
  go_wp2
  go_ret2
  exact ⟨rfl, rfl⟩
set_option maxHeartbeats 400000 in
theorem at_no (tb : Nat) (c seq : Int) (w : World) (hc : 4 ≤ c ∨ seq = 0) :
    Calls Try.prog 14 #[.pointer (some ⟨tb, 0, none⟩), .int .u8 c, .int .u32 seq] w fun e w' => e = .returned (.tuple #[.pointer none, .int .i64 1]) ∧ w = w' := by
  by_cases h : 4 ≤ c
  · go_enter Try.func14, Try.ntmps14
    go_wp2
    go_ret2
    exact ⟨rfl, rfl⟩
  · obtain rfl : seq = 0 := by omega
    go_enter Try.func14, Try.ntmps14
    go_wp2
    go_ret2
    exact ⟨rfl, rfl⟩

def farB (last seq : Int) : Bool := decide (last + 4 < seq)
set_option maxHeartbeats 400000 in
theorem far_any (tb o : Nat) (last seq : Int) (w : World) (c0 : w.cell? ⟨tb, o, none⟩ = some (.int .u32 last)) (h0 : 0 ≤ last) (h1 : last ≤ 4294967295) (h2 : 0 ≤ seq) (h3 : seq ≤ 4294967295) :
    Calls Try.prog 15 #[.pointer (some ⟨tb, o, none⟩), .int .u32 seq] w fun e w' => e = .returned (.bool (farB last seq)) ∧ w = w' := by
  by_cases h : last < seq
  · by_cases h' : (4 : Int) < seq - last
    · go_enter Try.func15, Try.ntmps15
      go_wp2
      go_ret
      exact ⟨ret_bool (by simp [farB]; omega), rfl⟩
    · go_enter Try.func15, Try.ntmps15
      go_wp2
      go_ret
      exact ⟨ret_bool (by simp [farB]; omega), rfl⟩
  · go_enter Try.func15, Try.ntmps15
    go_wp2
    go_ret
    exact ⟨ret_bool (by simp [farB]; omega), rfl⟩
end Go.Proofs.Ytekkickbbbkkgaa
