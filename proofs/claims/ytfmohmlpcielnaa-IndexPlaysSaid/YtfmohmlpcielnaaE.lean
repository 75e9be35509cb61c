/- An index in memory; find. -/
import Derived.Test.YtfmohmlpcielnaaD
namespace Go.Proofs.Ytfmohmlpcielnaa
open Go.RowKit

abbrev Pg := Nat × Value × List It
def ptrs (S : List Pg) : List Value := S.map fun x => .pointer (some ⟨x.1, 0, none⟩)
def pl (S : List Pg) : List (List It) := S.map (·.2.2)
theorem ptrs_one (S : List Pg) : ∀ u ∈ ptrs S, u.oneCell' = true := by
  intro u hu; simp only [ptrs, List.mem_map] at hu; obtain ⟨x, _, rfl⟩ := hu; rfl
/-- two pages lie apart -/
def PgFar (x y : Pg) : Prop := x.1 ≠ y.1 ∧ ∀ g, x.2.1.ownBlock = some g → y.2.1.ownBlock ≠ some g
/-- block xb is an index of these pages -/
structure IxAt (F : Nat → Prop) (w : World) (xb : Nat) (pv : Value) (S : List Pg) (n : Int) : Prop where
  r : w.heap[xb]? = some (.cells #[pv, .int .i64 n] 64 (0, 0))
  s : Seg w 69 1 pv S.length (ptrs S)
  p : ∀ x ∈ S, PgAt w x.1 x.2.1 x.2.2
  m : F xb
  f : ∀ g, pv.ownBlock = some g → F g
  b : ∀ x ∈ S, F x.1 ∧ ∀ g, x.2.1.ownBlock = some g → F g
  d : S.Pairwise PgFar
theorem IxAt.kept {F G : Nat → Prop} {w w' : World} {xb : Nat} {pv : Value} {S : List Pg} {n : Int} (h : IxAt F w xb pv S n) (k : Kept G w w') (hg : ∀ g, g < w.heap.size → F g → ¬ G g) : IxAt F w' xb pv S n :=
  ⟨(k.block _ (row_lt h.r) (hg _ (row_lt h.r) h.m)).trans h.r, h.s.kept k (fun g hg' => hg g (h.s.lt hg') (h.f g hg')), fun x hx => (h.p x hx).kept k (hg _ (row_lt (h.p x hx).r) (h.b x hx).1) (fun g hg' => hg g ((h.p x hx).s.lt hg') ((h.b x hx).2 g hg')), h.m, h.f, h.b, h.d⟩
theorem IxAt.same {F : Nat → Prop} {w w' : World} {xb : Nat} {pv : Value} {S : List Pg} {n : Int} (h : IxAt F w xb pv S n) (k : Kept (fun _ => False) w w') : IxAt F w' xb pv S n := h.kept k (fun _ _ _ h => h)
theorem IxAt.mono {F G : Nat → Prop} {w : World} {xb : Nat} {pv : Value} {S : List Pg} {n : Int} (h : IxAt F w xb pv S n) (hg : ∀ g, F g → G g) : IxAt G w xb pv S n :=
  ⟨h.r, h.s, h.p, hg _ h.m, fun g q => hg _ (h.f g q), fun x hx => ⟨hg _ (h.b x hx).1, fun g q => hg _ ((h.b x hx).2 g q)⟩, h.d⟩
theorem IxAt.bound {F : Nat → Prop} {w : World} {xb : Nat} {pv : Value} {S : List Pg} {n : Int} (h : IxAt F w xb pv S n) : IxAt (fun g => F g ∧ g < w.heap.size) w xb pv S n :=
  ⟨h.r, h.s, h.p, ⟨h.m, row_lt h.r⟩, fun g q => ⟨h.f g q, h.s.lt q⟩, fun x hx => ⟨⟨(h.b x hx).1, row_lt (h.p x hx).r⟩, fun g q => ⟨(h.b x hx).2 g q, (h.p x hx).s.lt q⟩⟩, h.d⟩

/-- the keys of a list of items rise -/
def Up (L : List It) : Prop := L.Pairwise (fun x y => x.1 < y.1)
structure Wf (PL : List (List It)) : Prop where
  ne : ∀ L ∈ PL, 0 < L.length ∧ L.length ≤ 8
  two : 1 < PL.length → ∀ L ∈ PL, 2 ≤ L.length
  up : Up PL.flatten
theorem Up.rising {L : List It} (h : Up L) : Rising (L.map (·.1)) := fun p q x y hpq hx hy => by
  rw [List.getElem?_map, Option.map_eq_some_iff] at hx hy
  obtain ⟨a, ha, rfl⟩ := hx
  obtain ⟨b, hb, rfl⟩ := hy
  obtain ⟨h1, e1⟩ := List.getElem?_eq_some_iff.1 ha
  obtain ⟨h2, e2⟩ := List.getElem?_eq_some_iff.1 hb
  have := (List.pairwise_iff_getElem.1 h) p q h1 h2 hpq
  rw [e1, e2] at this
  exact this
theorem lastK_mem {L : List It} (h : 0 < L.length) : ∃ x ∈ L, lastK L = x.1 := by
  obtain ⟨x, hx, e⟩ := lastK_at h
  exact ⟨x, List.mem_of_getElem? hx, e⟩
theorem lastK_ge {L : List It} (h : Up L) : ∀ x ∈ L, x.1 ≤ lastK L := fun x hx => by
  obtain ⟨i, hi, e⟩ := List.mem_iff_getElem.1 hx
  obtain ⟨y, hy, ey⟩ := lastK_at (L := L) (by omega)
  obtain ⟨hl, e2⟩ := List.getElem?_eq_some_iff.1 hy
  rw [ey, ← e, ← e2]
  by_cases hil : i = L.length - 1
  · subst hil; exact Int.le_refl _
  · exact Int.le_of_lt ((List.pairwise_iff_getElem.1 h) i (L.length - 1) hi hl (by omega))
theorem up_flatten {PL : List (List It)} (h : Up PL.flatten) : (∀ L ∈ PL, Up L) ∧ PL.Pairwise (fun L M => ∀ x ∈ L, ∀ y ∈ M, x.1 < y.1) := List.pairwise_flatten.1 h
theorem Wf.lasts {PL : List (List It)} (h : Wf PL) : Rising (PL.map lastK) := fun p q x y hpq hx hy => by
  rw [List.getElem?_map, Option.map_eq_some_iff] at hx hy
  obtain ⟨a, ha, rfl⟩ := hx
  obtain ⟨b, hb, rfl⟩ := hy
  obtain ⟨h1, e1⟩ := List.getElem?_eq_some_iff.1 ha
  obtain ⟨h2, e2⟩ := List.getElem?_eq_some_iff.1 hb
  have := (List.pairwise_iff_getElem.1 (up_flatten h.up).2) p q h1 h2 hpq
  rw [e1, e2] at this
  obtain ⟨u, hu, eu⟩ := lastK_mem (h.ne a (List.mem_of_getElem? ha)).1
  obtain ⟨v, hv, ev⟩ := lastK_mem (h.ne b (List.mem_of_getElem? hb)).1
  rw [eu, ev]
  exact this u hu v hv

def findP (PL : List (List It)) (k : Int) : Nat × Nat × Bool :=
  match PL[aft (PL.map lastK) k]? with
  | none => (aft (PL.map lastK) k, 0, false)
  | some L => (aft (PL.map lastK) k, aft (L.map (·.1)) k, decide ((L.map (·.1))[aft (L.map (·.1)) k]? = some k))
theorem aft_le (S : List Int) (n : Int) : aft S n ≤ S.length := (List.takeWhile_sublist _).length_le
set_option maxRecDepth 100000 in
set_option maxHeartbeats 2000000 in
theorem find_any {F : Nat → Prop} {w : World} {xb : Nat} {pv : Value} {S : List Pg} {n : Int} (h : IxAt F w xb pv S n) (hw : Wf (pl S)) (hb : S.length ≤ 1000000) (k : Int) {i j : Nat} {ok : Bool} (hf : findP (pl S) k = (i, j, ok)) :
    Calls Try.prog 24 #[.pointer (some ⟨xb, 0, none⟩), .int .u64 k] w fun e w' => e = .returned (.tuple #[.int .i64 i, .int .i64 j, .bool ok]) ∧ Kept (fun _ => False) w w' := by
  have H := hid h; have HW := hid hw
  obtain ⟨ao, cap, rfl⟩ := h.s.isSlice
  have hcap := h.s.caps
  obtain ⟨_, hcm⟩ := hcap
  unfold maxLen at hcm
  have c0 : w.cell? ⟨xb, 0, none⟩ = some (.slice ao S.length cap) := row_cell h.r 0
  have hmap : S.map (fun x => lastK x.2.2) = (pl S).map lastK := by simp [pl]
  have hpp : ∀ x ∈ S, PgAt w x.1 x.2.1 x.2.2 ∧ 0 < x.2.2.length := fun x hx => ⟨h.p x hx, (hw.ne x.2.2 (by simp only [pl, List.mem_map]; exact ⟨x, hx, rfl⟩)).1⟩
  have HPP := hid hpp; have HM := hid hmap; have HF := hid hf
  have hle : aft ((pl S).map lastK) k ≤ S.length := by have := aft_le ((pl S).map lastK) k; simpa [pl] using this
  clear h hw hmap hpp hf
  go_enter Try.func24, Try.ntmps24
  go_wp2_with fail
  refine (spage_any H.out.s HPP.out (by rw [HM.out]; exact HW.out.lasts) (by omega) k).mono ?_
  rintro e w1 ⟨rfl, hk1⟩
  have K1 := hid hk1
  rw [HM.out]
  obtain ⟨m, hm⟩ : ∃ m, aft ((pl S).map lastK) k = m := ⟨_, rfl⟩
  have HMM := hid hm
  rw [hm] at hle ⊢
  have c1 := hk1.cell c0 (fun h => h)
  clear hk1 c0 hm
  obtain ⟨bb, hbb⟩ : ∃ bb, decide (((pl S).map lastK)[m]? = some k) = bb := ⟨_, rfl⟩
  rw [hbb]
  clear hbb
  by_cases hml : m = S.length
  · have hf := HF.out
    unfold findP at hf
    rw [HMM.out, List.getElem?_eq_none (by simp [pl]; omega)] at hf
    simp only [Prod.mk.injEq] at hf
    obtain ⟨rfl, rfl, rfl⟩ := hf
    have hml' : ((m : Int) == (S.length : Int)) = true := by simp [hml]
    clear hml
    go_wp2
    go_returns
    exact ⟨rfl, K1.out⟩
  · have hlt : m < S.length := by omega
    have hml' : ((m : Int) == (S.length : Int)) = false := by simp; omega
    obtain ⟨⟨pb, iv, L⟩, hx⟩ : ∃ x, S[m]? = some x := ⟨S[m], by simp [hlt]⟩
    have hmem := List.mem_of_getElem? hx
    have hf := HF.out
    unfold findP at hf
    have hpm : (pl S)[m]? = some L := by simp [pl, hx]
    rw [HMM.out, hpm] at hf
    simp only [Prod.mk.injEq] at hf
    obtain ⟨rfl, rfl, rfl⟩ := hf
    obtain ⟨hpg, hL0⟩ := HPP.out _ hmem
    obtain ⟨g, cap', e, _, _⟩ := H.out.s.some_of_pos (by omega)
    simp only [Value.slice.injEq] at e
    obtain ⟨rfl, _, rfl⟩ := e
    have y0 : w1.cell? ⟨g, m, none⟩ = some (.pointer (some ⟨pb, 0, none⟩)) := K1.out.cell ((H.out.s.cells rfl m (by simp [ptrs]; omega)).trans (by
      obtain ⟨_, e⟩ := List.getElem?_eq_some_iff.1 hx
      simp [ptrs, e])) (fun h => h)
    have y1 : w1.cell? ⟨pb, 0, none⟩ = some iv := K1.out.cell (row_cell hpg.r 0) (fun h => h)
    have hLl := (HW.out.ne L (List.mem_of_getElem? hpm)).2
    have hup := (up_flatten HW.out.up).1 L (List.mem_of_getElem? hpm)
    have HUP := hid hup; have HPG := hid (hpg.same K1.out)
    clear hx hmem hpm hpg hup hml
    go_wp2_with fail
    refine (sitem_any HPG.out.s HUP.out.rising (by omega) k).mono ?_
    rintro e w2 ⟨rfl, hk2⟩
    have K2 := hid (K1.out.trans hk2); clear hk2
    go_wp2
    go_returns
    exact ⟨rfl, K2.out⟩
end Go.Proofs.Ytfmohmlpcielnaa
