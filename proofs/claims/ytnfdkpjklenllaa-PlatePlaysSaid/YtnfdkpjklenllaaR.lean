/- What was written of each page: an array of lists of slices; each half of a page that is left. -/
import Derived.Test.YtnfdkpjklenllaaO
namespace Go.Proofs.Ytnfdkpjklenllaa
open Go.RowKit

/-- what was written on page j -/
def wrote (l : List Pend) (j : Nat) : List (List Int) := (l.filter (fun x => decide (x.1 = (j : Int)))).map (·.2)
theorem wrote_snoc (l : List Pend) (x : Pend) (j : Nat) : wrote (l ++ [x]) j = if x.1 = (j : Int) then wrote l j ++ [x.2] else wrote l j := by
  unfold wrote
  rw [List.filter_append, List.map_append]
  by_cases h : x.1 = (j : Int) <;> simp [h]
theorem wrote_len {l : List Pend} (h : ∀ x ∈ l, x.2.length = 64) (j : Nat) : ∀ p ∈ wrote l j, p.length = 64 := by
  intro p hp
  simp only [wrote, List.mem_map, List.mem_filter] at hp
  obtain ⟨x, ⟨hx, _⟩, rfl⟩ := hp
  exact h x hx
theorem wrote_le (l : List Pend) (j : Nat) : (wrote l j).length ≤ l.length := by
  unfold wrote; rw [List.length_map]; exact List.length_filter_le _ _

/-- a half of a page -/
def half (h : Nat) (p : List Int) : List Int := (p.drop h).take 32
theorem half_keepB {k : Int} {o n : List Int} (ho : o.length = 64) (hn : n.length = 64) {h : Nat} (hh : h = 0 ∨ h = 32) : half h (keepB k o n) = half h o ∨ half h (keepB k o n) = half h n := by
  unfold keepB half
  split
  · exact .inr rfl
  · split
    · rcases hh with rfl | rfl
      · right; simp [ho, hn]
      · left; rw [List.drop_append_of_le_length (by simp [hn])]; simp [ho, hn]
    · split
      · rcases hh with rfl | rfl
        · left; simp [ho, hn]
        · right; rw [List.drop_append_of_le_length (by simp [ho])]; simp [ho, hn]
      · exact .inl rfl
theorem half_keepAll {f : Int → List Int} {K : List Int} {l : List Pend} (hf : ∀ k, (f k).length = 64) (hl : ∀ x ∈ l, x.2.length = 64) {h : Nat} (hh : h = 0 ∨ h = 32) (j : Nat) : ∀ n, n ≤ l.length →
    half h (keepAll f K (l.take n) (j : Int)) = half h (f (j : Int)) ∨ ∃ p ∈ wrote (l.take n) j, half h (keepAll f K (l.take n) (j : Int)) = half h p
  | 0, _ => .inl (by simp [keepAll])
  | n + 1, hn => by
    have hx : l[n]? = some l[n] := by simp
    have ih := half_keepAll (K := K) hf hl hh j n (by omega)
    have e : l.take (n + 1) = l.take n ++ [l[n]] := by rw [List.take_add_one, hx]; rfl
    rw [keepAll_take hx, e, wrote_snoc]
    unfold upd
    by_cases hj : (j : Int) = l[n].1
    · rw [if_pos hj, if_pos hj.symm, ← hj]
      rcases half_keepB (k := keepOf K n) (keepAll_len (K := K) hf hl n (by omega) (j : Int)) (hl l[n] (by simp)) hh with h1 | h1
      · rw [h1]
        rcases ih with h2 | ⟨p, hp, h2⟩
        · exact .inl h2
        · exact .inr ⟨p, List.mem_append_left _ hp, h2⟩
      · exact .inr ⟨l[n].2, by simp, h1⟩
    · rw [if_neg hj, if_neg (Ne.symm hj)]
      exact ih

theorem pg_half {w : World} {nb : Nat} {l : List Int} (h : w.heap[nb]? = some (.cells (u8s l).toArray 69 (0, 0))) (hl : l.length = 64) {o : Nat} (ho : o = 0 ∨ o = 32) : Byt w (.slice (some ⟨nb, o, none⟩) 32 (64 - o)) (half o l) :=
  pgByt h hl o 32 (64 - o) (by omega) (by omega) (by omega)
theorem own_half {w : World} {zb zc : Nat} {l : List Int} (h : Own w 5 1 (.slice (some ⟨zb, 0, none⟩) 64 zc) 64 (u8s l)) (hl : l.length = 64) {o : Nat} (ho : o = 0 ∨ o = 32) : Byt w (.slice (some ⟨zb, o, none⟩) 32 (zc - o)) (half o l) := by
  obtain ⟨_, c', e, ⟨h1, h2⟩, _, h4⟩ := h.byt
  simp only [Value.slice.injEq] at e
  obtain ⟨rfl, _, rfl⟩ := e
  have hlen : (half o l).length = 32 := by simp [half]; omega
  refine ⟨some ⟨zb, o, none⟩, zc - o, by rw [hlen], ⟨by omega, by omega⟩, (fun h => nomatch h), fun j x hj => ?_⟩
  unfold half at hj
  rw [List.getElem?_take] at hj
  split at hj
  · rw [List.getElem?_drop] at hj
    obtain ⟨b, off, e, hc⟩ := h4 _ _ hj
    simp only [Option.some.injEq, Addr.mk.injEq] at e
    obtain ⟨rfl, rfl, _⟩ := e
    exact ⟨zb, o, rfl, by rw [← hc, Nat.zero_add]⟩
  · cases hj
/-- is it found among the first n? -/
def fnd (a b : List Int) (l : List (List Int)) (h n : Nat) : Bool := decide (half h a = half h b) || (l.take n).any (fun p => decide (half h a = half h p))
theorem fnd_zero (a b : List Int) (l : List (List Int)) (h : Nat) : fnd a b l h 0 = decide (half h a = half h b) := by simp [fnd]
theorem fnd_succ {a b : List Int} {l : List (List Int)} {h n : Nat} {p : List Int} (hp : l[n]? = some p) : fnd a b l h (n + 1) = (fnd a b l h n || decide (half h a = half h p)) := by
  unfold fnd
  rw [List.take_add_one, hp]
  simp [List.any_append, Bool.or_assoc]
theorem fnd_all {a b : List Int} {l : List (List Int)} {h : Nat} (hx : half h a = half h b ∨ ∃ p ∈ l, half h a = half h p) : fnd a b l h l.length = true := by
  unfold fnd
  rw [List.take_length]
  rcases hx with hx | ⟨p, hp, hx⟩
  · simp [hx]
  · rw [Bool.or_eq_true]; right
    rw [List.any_eq_true]
    exact ⟨p, hp, by simp [hx]⟩

/-- the array of lists at wb: L j is what page j's list holds -/
structure Wr (w : World) (wb : Nat) (Y : Nat → Prop) (L : Nat → List (List Int)) (vs : Nat → Value) (zs : Nat → Nat → Nat × Nat) : Prop where
  r : w.heap[wb]? = some (.cells ((List.range 8).map vs).toArray 46 (0, 0))
  o : ∀ k, k < 8 → Own w 23 1 (vs k) (L k).length ((List.range (L k).length).map fun m => .slice (some ⟨(zs k m).1, 0, none⟩) 64 (zs k m).2)
  y : ∀ k, k < 8 → ∀ g, (vs k).ownBlock = some g → Y g
  b : ∀ k m l, k < 8 → (L k)[m]? = some l → l.length = 64 ∧ Y (zs k m).1 ∧ Own w 5 1 (.slice (some ⟨(zs k m).1, 0, none⟩) 64 (zs k m).2) 64 (u8s l)
  a : ∀ j k, j < 8 → k < 8 → j ≠ k → ∀ g, (vs j).ownBlock = some g → (vs k).ownBlock ≠ some g
theorem Wr.kept {K : Nat → Prop} {w w' : World} {wb : Nat} {Y : Nat → Prop} {L : Nat → List (List Int)} {vs : Nat → Value} {zs : Nat → Nat → Nat × Nat} (h : Wr w wb Y L vs zs) (k : Kept K w w') (hb : ¬ K wb) (hy : ∀ g, Y g → ¬ K g) : Wr w' wb Y L vs zs :=
  ⟨(k.block _ (row_lt h.r) hb).trans h.r, fun j hj => (h.o j hj).kept k (fun g hg => hy g (h.y j hj g hg)), h.y, fun j m l hj hl => ⟨(h.b j m l hj hl).1, (h.b j m l hj hl).2.1, (h.b j m l hj hl).2.2.kept k (fun g hg => hy g (by simp [Value.ownBlock] at hg; subst hg; exact (h.b j m l hj hl).2.1))⟩, h.a⟩
/-- a list more on page J: behind append and the store -/
theorem Wr.push {w w1 w2 : World} {wb : Nat} {Y : Nat → Prop} {L : Nat → List (List Int)} {vs : Nat → Value} {zs : Nat → Nat → Nat × Nat} (h : Wr w wb Y L vs zs) {J : Nat} (hJ : J < 8) {l : List Int} (hl : l.length = 64) {zb zc : Nat}
    (hz : Own w1 5 1 (.slice (some ⟨zb, 0, none⟩) 64 zc) 64 (u8s l)) (k1 : Kept (fun _ => False) w w1) {a' : Option Addr} {c' : Nat}
    (ho : Own w2 23 1 (.slice a' ((L J).length + 1) c') ((L J).length + 1) (((List.range (L J).length).map fun m => .slice (some ⟨(zs J m).1, 0, none⟩) 64 (zs J m).2) ++ [.slice (some ⟨zb, 0, none⟩) 64 zc])) (k2 : Kept (fun g => (vs J).ownBlock = some g) w1 w2)
    (hf : ∀ g, (Value.slice a' ((L J).length + 1) c').ownBlock = some g → (vs J).ownBlock = some g ∨ w1.heap.size ≤ g):
    Wr (w2.setCell ⟨wb, J, none⟩ (.slice a' ((L J).length + 1) c')) wb (fun g => Y g ∨ g = zb ∨ (Value.slice a' ((L J).length + 1) c').ownBlock = some g) (fun j => if j = J then L j ++ [l] else L j) (fun j => if j = J then .slice a' ((L J).length + 1) c' else vs j) (fun j m => if j = J ∧ m = (L J).length then (zb, zc) else zs j m) := by
  have h1 := h.kept k1 id (fun _ _ h => h)
  have hne : ∀ j, j < 8 → ∀ g, (vs j).ownBlock = some g → g ≠ wb := fun j hj g hg e => by subst e; exact (h1.o j hj).ne_block h1.r (by decide) hg
  have hr2 : w2.heap[wb]? = some (.cells ((List.range 8).map vs).toArray 46 (0, 0)) := (k2.block _ (row_lt h1.r) (fun e => hne J hJ wb e rfl)).trans h1.r
  have kS : Kept (fun g => g = wb) w2 (w2.setCell ⟨wb, J, none⟩ (.slice a' ((L J).length + 1) c')) := (Kept.refl (fun g => g = wb) w2).setCell (p := ⟨wb, J, none⟩) (.inl rfl) _
  -- a block of bytes is no block of lists
  have hbb : ∀ {v : Value} {n : Nat} {xs : List Value} {g : Nat}, Own w1 5 1 v n xs → v.ownBlock = some g → (vs J).ownBlock ≠ some g ∧ g ≠ wb := fun hv hg =>
    ⟨hv.ne (h1.o J hJ) (by decide) hg, fun e => by subst e; exact hv.ne_block h1.r (by decide) hg⟩
  have hnew : ∀ g, (Value.slice a' ((L J).length + 1) c').ownBlock = some g → g ≠ wb := fun g hg e => by subst e; exact ho.ne_block hr2 (by decide) hg
  refine ⟨?_, fun j hj => ?_, fun j hj g hg => ?_, fun j m l' hj hl' => ?_, fun i j hi hj hij g hg => ?_⟩
  · rw [row_set hr2 J _]
    congr 2
    apply Array.ext_getElem?
    intro i
    simp only [List.setIfInBounds_toArray, List.getElem?_toArray, List.getElem?_set, List.getElem?_map, List.length_map, List.length_range]
    by_cases hi : i < 8
    · rw [List.getElem?_range hi]
      by_cases hij : J = i
      · subst hij; simp [hi]
      · simp [hij, Ne.symm hij]
    · rw [List.getElem?_eq_none (by simp; omega)]
      simp; intro e; omega
  · by_cases hjJ : j = J
    · subst hjJ
      simp only [if_true, List.length_append, List.length_singleton]
      have := ho.kept kS (fun g hg e => hnew g hg e)
      rw [List.range_succ, List.map_append]
      have e1 : (List.range (L j).length).map (fun m => Value.slice (some ⟨(if j = j ∧ m = (L j).length then (zb, zc) else zs j m).1, 0, none⟩) 64 (if j = j ∧ m = (L j).length then (zb, zc) else zs j m).2) = (List.range (L j).length).map fun m => Value.slice (some ⟨(zs j m).1, 0, none⟩) 64 (zs j m).2 := by
        apply List.map_congr_left
        intro m hm
        rw [List.mem_range] at hm
        rw [if_neg (by omega)]
      simp only [true_and] at e1
      simp only [true_and, List.map_cons, List.map_nil, if_true, e1]
      exact this
    · simp only [if_neg hjJ, hjJ, false_and]
      exact ((h1.o j hj).kept k2 (fun g hg e => h1.a j J hj hJ hjJ g hg e)).kept kS (fun g hg e => hne j hj g hg e)
  · by_cases hjJ : j = J
    · subst hjJ
      simp only [if_true] at hg
      exact .inr (.inr hg)
    · simp only [if_neg hjJ] at hg
      exact .inl (h.y j hj g hg)
  · have old : ∀ l', (L j)[m]? = some l' → l'.length = 64 ∧ (Y (zs j m).1 ∨ (zs j m).1 = zb ∨ (Value.slice a' ((L J).length + 1) c').ownBlock = some (zs j m).1) ∧ Own (w2.setCell ⟨wb, J, none⟩ (.slice a' ((L J).length + 1) c')) 5 1 (.slice (some ⟨(zs j m).1, 0, none⟩) 64 (zs j m).2) 64 (u8s l') := fun l' hl' => by
      obtain ⟨q1, q2, q3⟩ := h1.b j m l' hj hl'
      exact ⟨q1, .inl q2, (q3.kept k2 (fun g hg => (hbb q3 hg).1)).kept kS (fun g hg => (hbb q3 hg).2)⟩
    by_cases hjJ : j = J
    · subst hjJ
      simp only [if_true, true_and] at hl' ⊢
      by_cases hm : m < (L j).length
      · rw [List.getElem?_append_left hm] at hl'
        rw [if_neg (by omega)]
        exact old l' hl'
      · rw [List.getElem?_append_right (by omega)] at hl'
        have hm0 : m - (L j).length = 0 := by
          cases h0 : m - (L j).length with
          | zero => rfl
          | succ q => rw [h0] at hl'; simp at hl'
        rw [hm0] at hl'
        simp at hl'
        subst hl'
        rw [if_pos (by omega)]
        exact ⟨hl, .inr (.inl rfl), (hz.kept k2 (fun g hg => (hbb hz hg).1)).kept kS (fun g hg => (hbb hz hg).2)⟩
    · simp only [if_neg hjJ] at hl'
      simp only [hjJ, false_and, if_false]
      exact old l' hl'
  · by_cases hiJ : i = J
    · subst hiJ
      have hjJ : ¬ j = i := Ne.symm hij
      simp only [if_true] at hg
      simp only [if_neg hjJ]
      rcases hf g hg with h2 | h2
      · exact h1.a i j hi hj hij g h2
      · intro e
        have := (h1.o j hj).lt e
        omega
    · simp only [if_neg hiJ] at hg
      by_cases hjJ : j = J
      · subst hjJ
        simp only [if_true]
        intro e
        rcases hf g e with h2 | h2
        · exact h1.a i j hi hj hij g hg h2
        · have := (h1.o i hi).lt hg
          omega
      · simp only [if_neg hjJ]
        exact h1.a i j hi hj hij g hg

theorem Wr.mono {w : World} {wb : Nat} {Y Z : Nat → Prop} {L M : Nat → List (List Int)} {vs : Nat → Value} {zs : Nat → Nat → Nat × Nat} (h : Wr w wb Y L vs zs) (hY : ∀ g, Y g → Z g) (hL : L = M) : Wr w wb Z M vs zs := by
  subst hL
  exact ⟨h.r, h.o, fun k hk g hg => hY g (h.y k hk g hg), fun k m l hk hl => ⟨(h.b k m l hk hl).1, hY _ (h.b k m l hk hl).2.1, (h.b k m l hk hl).2.2⟩, h.a⟩
theorem wr_new (w : World) : Wr (w.alloc (.cells #[.slice none 0 0, .slice none 0 0, .slice none 0 0, .slice none 0 0, .slice none 0 0, .slice none 0 0, .slice none 0 0, .slice none 0 0] 46)) w.heap.size (fun _ => False) (fun _ => []) (fun _ => .slice none 0 0) (fun _ _ => (0, 0)) :=
  ⟨row_new _ _, fun _ _ => Own.nil _ _ _, fun _ _ g hg => by simp [Value.ownBlock] at hg, fun _ _ _ _ h => by simp at h, fun _ _ _ _ _ g hg => by simp [Value.ownBlock] at hg⟩
/-- all that lives while page by page is written -/
structure Lst (W w : World) (lo wb b : Nat) (pv : Value) (f0 : Int → List Int) (S : Plt) (L : Nat → List (List Int)) (F Y : Nat → Prop) (vs : Nat → Value) (zs : Nat → Nat → Nat × Nat) : Prop where
  p : PlAt F w b S
  wr : Wr w wb Y L vs zs
  f : ∀ g, F g → W.heap.size ≤ g ∧ g < w.heap.size ∧ (g < lo ∨ wb < g)
  y : ∀ g, Y g → wb < g ∧ g < w.heap.size
  d : ∀ g, F g → ¬ Y g
  g : Pgs (fun g => lo ≤ g ∧ g < wb) w pv f0 8
  l : W.heap.size ≤ lo ∧ lo ≤ wb ∧ wb < w.heap.size
  k : Kept (fun _ => False) W w
theorem Lst.same {W w w' : World} {lo wb b : Nat} {pv : Value} {f0 : Int → List Int} {S : Plt} {L : Nat → List (List Int)} {F Y : Nat → Prop} {vs : Nat → Value} {zs : Nat → Nat → Nat × Nat} (h : Lst W w lo wb b pv f0 S L F Y vs zs) (k : Kept (fun _ => False) w w') : Lst W w' lo wb b pv f0 S L F Y vs zs :=
  ⟨h.p.same k, h.wr.kept k id (fun _ _ h => h), fun g hg => ⟨(h.f g hg).1, Nat.lt_of_lt_of_le (h.f g hg).2.1 k.size, (h.f g hg).2.2⟩, fun g hg => ⟨(h.y g hg).1, Nat.lt_of_lt_of_le (h.y g hg).2 k.size⟩, h.d, h.g.same k, ⟨h.l.1, h.l.2.1, Nat.lt_of_lt_of_le h.l.2.2 k.size⟩, h.k.trans k⟩
theorem Lst.kept {K : Nat → Prop} {W w w' : World} {lo wb b : Nat} {pv : Value} {f0 : Int → List Int} {S : Plt} {L : Nat → List (List Int)} {F Y : Nat → Prop} {vs : Nat → Value} {zs : Nat → Nat → Nat × Nat} (h : Lst W w lo wb b pv f0 S L F Y vs zs) (k : Kept K w w') (hF : ∀ g, F g → ¬ K g) (hK : ∀ g, K g → wb < g ∧ ¬ Y g) : Lst W w' lo wb b pv f0 S L F Y vs zs :=
  ⟨h.p.kept k (fun g _ hf => hF g hf), h.wr.kept k (fun hk => by have := (hK wb hk).1; omega) (fun g hy hk => (hK g hk).2 hy), fun g hg => ⟨(h.f g hg).1, Nat.lt_of_lt_of_le (h.f g hg).2.1 k.size, (h.f g hg).2.2⟩, fun g hg => ⟨(h.y g hg).1, Nat.lt_of_lt_of_le (h.y g hg).2 k.size⟩, h.d, h.g.kept k (fun g hg _ hk => by have := (hK g hk).1; omega), ⟨h.l.1, h.l.2.1, Nat.lt_of_lt_of_le h.l.2.2 k.size⟩, h.k.trans' k (fun g hg => .inr (by have := (hK g hg).1; have := h.l; omega))⟩
/-- the plate is worked on -/
theorem Lst.step {W w w' : World} {lo wb b : Nat} {pv : Value} {f0 : Int → List Int} {S S' : Plt} {L : Nat → List (List Int)} {F F' Y : Nat → Prop} {vs : Nat → Value} {zs : Nat → Nat → Nat × Nat} (h : Lst W w lo wb b pv f0 S L F Y vs zs) (p : PlAt F' w' b S') (hF : ∀ g, F' g → F g ∨ w.heap.size ≤ g) (k : Kept F w w') :
    Lst W w' lo wb b pv f0 S' L (fun g => F' g ∧ g < w'.heap.size) Y vs zs := by
  have hsz := k.size
  have hl := h.l
  refine ⟨p.bound, h.wr.kept k (fun hf => by have := (h.f wb hf).2.2; omega) (fun g hy hf => h.d g hf hy), fun g hg => ?_, fun g hg => ⟨(h.y g hg).1, Nat.lt_of_lt_of_le (h.y g hg).2 hsz⟩, fun g hg hy => ?_, h.g.kept k (fun g hg _ hf => by have := (h.f g hf).2.2; omega), ⟨h.l.1, h.l.2.1, Nat.lt_of_lt_of_le h.l.2.2 hsz⟩, h.k.trans' k (fun g hg => .inr (h.f g hg).1)⟩
  · rcases hF g hg.1 with h1 | h1
    · exact ⟨(h.f g h1).1, hg.2, (h.f g h1).2.2⟩
    · exact ⟨by omega, hg.2, .inr (by omega)⟩
  · rcases hF g hg.1 with h1 | h1
    · exact h.d g h1 hy
    · have := (h.y g hy).2; omega
/-- a list more on page J -/
theorem Lst.push {W w w1 w2 : World} {lo wb b : Nat} {pv : Value} {f0 : Int → List Int} {S : Plt} {L : Nat → List (List Int)} {F Y : Nat → Prop} {vs : Nat → Value} {zs : Nat → Nat → Nat × Nat} (h : Lst W w lo wb b pv f0 S L F Y vs zs) {J : Nat} (hJ : J < 8) {l : List Int} (hl : l.length = 64) {zb zc : Nat}
    (hz : Own w1 5 1 (.slice (some ⟨zb, 0, none⟩) 64 zc) 64 (u8s l)) (hzw : wb < zb) (hzF : ¬ F zb) (k1 : Kept (fun _ => False) w w1) {a' : Option Addr} {c' : Nat}
    (ho : Own w2 23 1 (.slice a' ((L J).length + 1) c') ((L J).length + 1) (((List.range (L J).length).map fun m => .slice (some ⟨(zs J m).1, 0, none⟩) 64 (zs J m).2) ++ [.slice (some ⟨zb, 0, none⟩) 64 zc])) (k2 : Kept (fun g => (vs J).ownBlock = some g) w1 w2)
    (hf : ∀ g, (Value.slice a' ((L J).length + 1) c').ownBlock = some g → (vs J).ownBlock = some g ∨ w1.heap.size ≤ g) :
    ∃ Y' vs' zs', Lst W (w2.setCell ⟨wb, J, none⟩ (.slice a' ((L J).length + 1) c')) lo wb b pv f0 S (fun j => if j = J then L j ++ [l] else L j) F Y' vs' zs' := by
  have h1 := h.same k1
  have hw := h.wr.push hJ hl hz k1 ho k2 hf
  have hl' := h1.l
  have hs2 := k2.size
  have hzl := hz.lt (g := zb) rfl
  have kS : Kept (fun g => (vs J).ownBlock = some g ∨ g = wb) w1 (w2.setCell ⟨wb, J, none⟩ (.slice a' ((L J).length + 1) c')) := (k2.mono (fun _ _ h => .inl h)).setCell (p := ⟨wb, J, none⟩) (.inl (.inr rfl)) _
  have hsS := kS.size
  have yJ : ∀ g, (vs J).ownBlock = some g → Y g := h.wr.y J hJ
  refine ⟨_, _, _, h1.p.kept kS (fun g _ hg hk => ?_), hw, fun g hg => ⟨(h1.f g hg).1, by have := (h1.f g hg).2.1; omega, (h1.f g hg).2.2⟩, fun g hg => ?_, fun g hg hy => ?_, h1.g.kept kS (fun g hg hlt hk => ?_), ⟨h1.l.1, h1.l.2.1, by omega⟩, h1.k.trans' kS (fun g hg => .inr ?_)⟩
  · rcases hk with hk | hk
    · exact h.d g hg (yJ g hk)
    · subst hk; have := (h.f _ hg).2.2; omega
  · rcases hg with hg | hg | hg
    · have := h1.y g hg; omega
    · subst hg; omega
    · have hg2 := ho.lt hg
      rw [World.setCell] at *
      rcases hf g hg with h2 | h2
      · have := h1.y g (yJ g h2); simp; omega
      · simp; omega
  · rcases hy with hy | hy | hy
    · exact h.d g hg hy
    · subst hy; exact hzF hg
    · rcases hf g hy with h2 | h2
      · exact h.d g hg (yJ g h2)
      · have := (h1.f g hg).2.1; omega
  · rcases hk with hk | hk
    · have := (h1.y g (yJ g hk)).1; omega
    · omega
  · rcases hg with hg | hg
    · have := (h1.y g (yJ g hg)).1; have := h.l; omega
    · have := h.l; omega
end Go.Proofs.Ytnfdkpjklenllaa
