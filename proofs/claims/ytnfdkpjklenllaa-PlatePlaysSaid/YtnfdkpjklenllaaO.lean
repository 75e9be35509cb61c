/- Two plates at once; plain laws of what is kept. -/
import Derived.Test.YtnfdkpjklenllaaM
import Derived.Deep.CutBlock
import Derived.Deep.OwnRows
namespace Go.Proofs.Ytnfdkpjklenllaa
open Go.RowKit

/-- two plates, apart from one another and from X -/
structure Two (W w : World) (X : Nat → Prop) (b c : Nat) (S T : Plt) (F G : Nat → Prop) : Prop where
  p : PlAt F w b S
  q : PlAt G w c T
  f : ∀ g, F g → W.heap.size ≤ g ∧ g < w.heap.size ∧ ¬ X g
  g : ∀ g, G g → W.heap.size ≤ g ∧ g < w.heap.size ∧ ¬ X g
  d : ∀ g, F g → ¬ G g
theorem Two.same {W w w' : World} {X : Nat → Prop} {b c : Nat} {S T : Plt} {F G : Nat → Prop} (h : Two W w X b c S T F G) (k : Kept (fun _ => False) w w') : Two W w' X b c S T F G :=
  ⟨h.p.same k, h.q.same k, fun g hg => ⟨(h.f g hg).1, Nat.lt_of_lt_of_le (h.f g hg).2.1 k.size, (h.f g hg).2.2⟩, fun g hg => ⟨(h.g g hg).1, Nat.lt_of_lt_of_le (h.g g hg).2.1 k.size, (h.g g hg).2.2⟩, h.d⟩
theorem Two.swap {W w : World} {X : Nat → Prop} {b c : Nat} {S T : Plt} {F G : Nat → Prop} (h : Two W w X b c S T F G) : Two W w X c b T S G F := ⟨h.q, h.p, h.g, h.f, fun g hg hf => h.d g hf hg⟩
/-- the first one is worked on; X lies below -/
theorem Two.step {W w w' : World} {X : Nat → Prop} {b c : Nat} {S S' T : Plt} {F F' G : Nat → Prop} (h : Two W w X b c S T F G) (hW : W.heap.size ≤ w.heap.size) (hX : ∀ g, X g → g < w.heap.size) (p : PlAt F' w' b S') (hF : ∀ g, F' g → F g ∨ w.heap.size ≤ g) (k : Kept F w w') :
    ∃ F2, Two W w' X b c S' T F2 G := by
  refine ⟨fun g => F' g ∧ g < w'.heap.size, p.bound, h.q.kept k (fun g _ hg hf => h.d g hf hg), fun g hg => ?_, fun g hg => ⟨(h.g g hg).1, Nat.lt_of_lt_of_le (h.g g hg).2.1 k.size, (h.g g hg).2.2⟩, fun g hg hG => ?_⟩
  · rcases hF g hg.1 with h1 | h1
    · exact ⟨(h.f g h1).1, hg.2, (h.f g h1).2.2⟩
    · exact ⟨by omega, hg.2, fun hx => by have := hX g hx; omega⟩
  · rcases hF g hg.1 with h1 | h1
    · exact h.d g h1 hG
    · have := (h.g g hG).2.1; omega
theorem Two.more {W w : World} {X Y : Nat → Prop} {b c : Nat} {S T : Plt} {F G : Nat → Prop} (h : Two W w X b c S T F G) (hf : ∀ g, F g → ¬ Y g) (hg : ∀ g, G g → ¬ Y g) : Two W w (fun g => X g ∨ Y g) b c S T F G :=
  ⟨h.p, h.q, fun g q => ⟨(h.f g q).1, (h.f g q).2.1, fun e => e.elim (h.f g q).2.2 (hf g q)⟩, fun g q => ⟨(h.g g q).1, (h.g g q).2.1, fun e => e.elim (h.g g q).2.2 (hg g q)⟩, h.d⟩

/-- what a write more makes -/
def moreStep (S : Plt) (x : OpD) : Plt := tick (S.add (x.i % 8) (x.l.take 64))
theorem calm_more {S : Plt} {k : Nat} (h : Calm S k) (x : OpD) : Calm (moreStep S x) (k + 2) := (h.add _ _).tick
theorem calm_mores (ops : List OpD) : ∀ {S : Plt} {k : Nat}, Calm S k → Calm (ops.foldl moreStep S) (k + 2 * ops.length) := by
  induction ops with
  | nil => intro S k h; simpa using h
  | cons x l ih => intro S k h; rw [List.foldl_cons, List.length_cons]; exact (ih (calm_more h x)).mono (by omega)
theorem mores_take {S : Plt} {ops : List OpD} {k : Nat} {x : OpD} (h : ops[k]? = some x) : (ops.take (k + 1)).foldl moreStep S = moreStep ((ops.take k).foldl moreStep S) x := by
  rw [List.take_add_one, h]; simp
theorem mores_last (ops : List OpD) : ∀ S : Plt, (ops.foldl moreStep S).last = S.last ∧ (ops.foldl moreStep S).since.length = S.since.length + ops.length := by
  induction ops with
  | nil => intro S; simp
  | cons x l ih =>
    intro S
    obtain ⟨h1, h2⟩ := ih (moreStep S x)
    rw [List.foldl_cons]
    refine ⟨h1, ?_⟩
    rw [h2]
    simp [moreStep, tick, Plt.add]; omega
theorem upd_self (f : Int → List Int) (i : Int) : upd f i (f i) = f := by
  funext k; unfold upd; split
  · rename_i h; rw [h]
  · rfl
theorem keepAll_go (K : List Int) (c : Int) (hc : c = 0 ∨ c = 1) : ∀ (l : List Pend) (m : Nat) (f : Int → List Int), (∀ j, m ≤ j → j < m + l.length → K[j]? = some c) →
    (l.zipIdx m).foldl (fun f p => upd f p.1.1 (keepB (keepOf K p.2) (f p.1.1) p.1.2)) f = if c = 1 then lastAll f l else f
  | [], m, f, _ => by simp [lastAll]
  | x :: l, m, f, h => by
    have hm := h m (Nat.le_refl _) (by simp)
    have hk : keepOf K m = c := by rcases hc with rfl | rfl <;> simp [keepOf, hm]
    rw [List.zipIdx_cons, List.foldl_cons, keepAll_go K c hc l (m + 1) _ (fun j h1 h2 => h j (by omega) (by simp; omega))]
    dsimp only
    rw [hk]
    rcases hc with rfl | rfl
    · simp [keepB, upd_self]
    · simp [keepB, lastAll]
theorem keepAll_const {f : Int → List Int} {l : List Pend} {c : Int} (hc : c = 0 ∨ c = 1) (hl : l.length ≤ 20) : keepAll f (List.replicate 20 c) l = if c = 1 then lastAll f l else f :=
  keepAll_go _ c hc l 0 f (fun j _ h2 => by rw [List.getElem?_replicate]; simp; omega)
theorem restart_page {S : Plt} (K : List Int) (i : Int) : (S.restart K).page i = keepAll S.last K S.since i := rfl
/-- the whole cut: armed, flushed, on again -/
def Plt.cut (S : Plt) (K : List Int) : Plt := (tick { S with armed := 1 }).restart K
theorem cut_page {S : Plt} (K : List Int) (i : Int) : (S.cut K).page i = keepAll S.last K S.since i := rfl
theorem cut_off (S : Plt) : (tick { S with armed := 1 }).off = true := rfl
structure Calm2 (S : Plt) (k : Nat) : Prop where
  n : S.n = 8
  off : S.off = false
  ops : 0 ≤ S.ops ∧ S.ops ≤ k
  since : S.since.length ≤ k
theorem Calm.two {S : Plt} {k : Nat} (h : Calm S k) : Calm2 S k := ⟨h.n, h.off, h.ops, h.since⟩
theorem Calm2.cut {S : Plt} {k : Nat} (h : Calm2 S k) (K : List Int) : Calm2 (S.cut K) (k + 1) := ⟨h.n, rfl, ⟨by have := h.ops.1; show 0 ≤ S.ops + 1; omega, by have := h.ops.2; show S.ops + 1 ≤ _; omega⟩, by simp [Plt.cut, Plt.restart]⟩
theorem cut_since (S : Plt) (K : List Int) : (S.cut K).since = [] := rfl
theorem Calm2.small {S : Plt} {k : Nat} (h : Calm2 S k) (hk : k ≤ 1000) : Small { S with armed := 1 } := ⟨⟨h.ops.1, by have := h.ops.2; simp only; omega⟩, by simp⟩
theorem made20 : madeCells #[.int .u8 0] 20 = (u8s (List.replicate 20 0)).toArray := by kernel_rfl
theorem fill_one {k : Nat} (hk : k < 20) : (u8s (List.replicate k 1 ++ List.replicate (20 - k) 0)).toArray.setIfInBounds k (.int .u8 1) = (u8s (List.replicate (k + 1) 1 ++ List.replicate (20 - (k + 1)) 0)).toArray := by
  rw [List.setIfInBounds_toArray]
  congr 1
  have e : 20 - k = (20 - (k + 1)) + 1 := by omega
  rw [e, List.replicate_succ]
  simp only [u8s, List.map_append, List.map_cons, List.map_replicate]
  rw [List.set_append_right _ _ (by simp)]
  simp [List.replicate_succ', List.append_assoc]
theorem row_byt {w : World} {g : Nat} {l : List Int} (h : w.heap[g]? = some (.cells (u8s l).toArray 5 (0, 0))) (hl : l.length ≤ maxLen) : Byt w (.slice (some ⟨g, 0, none⟩) l.length l.length) l :=
  ⟨_, _, rfl, ⟨Nat.le_refl _, hl⟩, (fun h => nomatch h), fun j x hj => ⟨g, 0, rfl, by rw [row_cell h]; simp [u8s, hj]⟩⟩
theorem fill_at {k : Nat} (hk : k < 20) (c : Int) : (u8s (List.replicate k c ++ List.replicate (20 - k) 0)).toArray[k]? = some (.int .u8 0) := by
  rw [List.getElem?_toArray, u8s, List.getElem?_map, List.getElem?_append_right (by simp), List.length_replicate, Nat.sub_self, List.getElem?_replicate, if_pos (by omega)]
  rfl
theorem fill_none {k : Nat} (hk : k < 20) : List.replicate (k + 1) (0 : Int) ++ List.replicate (20 - (k + 1)) 0 = List.replicate k 0 ++ List.replicate (20 - k) 0 := by
  simp only [List.replicate_append_replicate]
  congr 1; omega
end Go.Proofs.Ytnfdkpjklenllaa
