/- The plate and the document's, side by side: the plain relation; both in memory. -/
import Derived.Test.YtnfdkpjklenllaaDp
namespace Go.Proofs.Ytnfdkpjklenllaa
open Go.RowKit
def dpr (x : DE) : Pend := (x.pg, x.bs)
structure Rel (S : Plt) (D : Dpl) : Prop where
  n : S.n = D.n
  off : S.off = D.off
  armed : S.armed = D.armed
  ops : S.ops = D.ops
  last : ∀ i, dfold D.last i zpg = S.last i
  since : D.since.map dpr = S.since
  e0 : ∀ x ∈ D.since, x.pl = 0 ∧ x.bs.length = 64
  l : ∀ k, (S.last k).length = 64
theorem dfold_cons {x : DE} {l : List DE} {i : Int} {b : List Int} : dfold (x :: l) i b = dfold l i (if x.pg = i then ovl b x else b) := rfl
theorem ovl_whole {b : List Int} {x : DE} (h : x.pl = 0 ∧ x.bs.length = 64) (hb : b.length = 64) : ovl b x = x.bs := by
  unfold ovl
  rw [h.1, h.2, List.take_zero, List.nil_append, List.drop_of_length_le (by omega), List.append_nil]
theorem fold_eq : ∀ (l : List DE) (f : Int → List Int), (∀ x ∈ l, x.pl = 0 ∧ x.bs.length = 64) → (∀ k, (f k).length = 64) → ∀ i, dfold l i (f i) = lastAll f (l.map dpr) i
  | [], f, _, _, i => rfl
  | x :: l, f, h, hf, i => by
    have ih := fold_eq l (upd f x.pg x.bs) (fun y hy => h y (List.mem_cons_of_mem _ hy)) (upd_len hf _ (h x (List.mem_cons_self)).2) i
    rw [dfold_cons]
    have e : (if x.pg = i then ovl (f i) x else f i) = upd f x.pg x.bs i := by
      unfold upd
      by_cases hx : x.pg = i
      · rw [if_pos hx, if_pos hx.symm, ovl_whole (h x List.mem_cons_self) (hf i)]
      · rw [if_neg hx, if_neg (Ne.symm hx)]
    rw [e, ih]
    rfl
theorem Rel.sl {S : Plt} {D : Dpl} (h : Rel S D) : S.since.length = D.since.length := by rw [← h.since, List.length_map]
theorem Rel.ss {S : Plt} {D : Dpl} (h : Rel S D) : ∀ x ∈ S.since, x.2.length = 64 := fun x hx => by
  rw [← h.since, List.mem_map] at hx
  obtain ⟨y, hy, rfl⟩ := hx
  exact (h.e0 y hy).2
theorem Rel.fold {S : Plt} {D : Dpl} (h : Rel S D) (i : Int) : dfold (D.last ++ D.since) i zpg = lastAll S.last S.since i := by
  rw [dfold_app, h.last, ← h.since]
  exact fold_eq D.since S.last h.e0 h.l i
theorem Rel.page {S : Plt} {D : Dpl} (h : Rel S D) (i : Int) : S.page i = D.page i := (h.fold i).symm
theorem Rel.tick {S : Plt} {D : Dpl} (h : Rel S D) (ho : S.off = false) : Rel (tick S) (dtick D) := by
  have ho' : D.off = false := by rw [← h.off]; exact ho
  refine ⟨h.n, ?_, ?_, ?_, h.last, h.since, h.e0, h.l⟩
  · simp only [Go.Proofs.Ytnfdkpjklenllaa.tick, dtick]
    rw [ho, ho', h.armed, Bool.false_or]
    by_cases h0 : 0 < D.armed
    · rw [if_pos h0]
    · rw [if_neg h0]
      have : ¬ D.armed = 1 := by omega
      simp [this]
  · simp only [Go.Proofs.Ytnfdkpjklenllaa.tick, dtick]
    rw [h.armed]
  · simp only [Go.Proofs.Ytnfdkpjklenllaa.tick, dtick]
    rw [h.ops]
theorem Rel.add {S : Plt} {D : Dpl} (h : Rel S D) (i : Int) {l : List Int} (hl : l.length ≤ 64) (v : Value) : Rel (S.add i l) (D.add i l v) := by
  refine ⟨h.n, h.off, h.armed, h.ops, h.last, ?_, ?_, h.l⟩
  · simp only [Plt.add, Dpl.add, List.map_append, h.since]
    rfl
  · intro x hx
    simp only [Dpl.add, List.mem_append, List.mem_singleton] at hx
    rcases hx with hx | rfl
    · exact h.e0 x hx
    · exact ⟨rfl, pad_len hl⟩
theorem Rel.flushed {S : Plt} {D : Dpl} (h : Rel S D) : Rel S.flushed D.flushed :=
  ⟨h.n, h.off, h.armed, h.ops, fun i => h.fold i, rfl, fun x hx => by simp [Dpl.flushed] at hx, lastAll_len h.l _ h.ss⟩
theorem fold_keep1 {x : DE} (h : x.pl = 0 ∧ x.bs.length = 64) (c : Int) (i : Int) {b : List Int} (hb : b.length = 64) : dfold (keep1 c x) i b = if x.pg = i then keepB c b x.bs else b := by
  unfold keep1 keepB
  by_cases h1 : c = 1
  · subst h1
    simp only [if_true]
    show (if x.pg = i then ovl b x else b) = _
    rw [ovl_whole h hb]
  · by_cases h2 : c = 2
    · subst h2
      simp only [if_true, if_neg h1]
      show (if x.pg = i then ovl b ⟨x.pg, 0, x.bs.take 32, hv1 x.v⟩ else b) = _
      have : ovl b ⟨x.pg, 0, x.bs.take 32, hv1 x.v⟩ = x.bs.take 32 ++ b.drop 32 := by
        unfold ovl
        simp [h.2]
      rw [this]
    · by_cases h3 : c = 3
      · subst h3
        simp only [if_true, if_neg h1, if_neg h2]
        show (if x.pg = i then ovl b ⟨x.pg, 32, x.bs.drop 32, hv2 x.v⟩ else b) = _
        have : ovl b ⟨x.pg, 32, x.bs.drop 32, hv2 x.v⟩ = b.take 32 ++ x.bs.drop 32 := by
          unfold ovl
          simp only [List.length_drop, h.2]
          rw [List.drop_of_length_le (l := b) (by omega), List.append_nil]
        rw [this]
      · simp only [if_neg h1, if_neg h2, if_neg h3]
        show b = _
        by_cases hx : x.pg = i
        · rw [if_pos hx]
        · rw [if_neg hx]
theorem fold_keep {K : List Int} {l : List DE} {f : Int → List Int} (h : ∀ x ∈ l, x.pl = 0 ∧ x.bs.length = 64) (hf : ∀ k, (f k).length = 64) : ∀ k, k ≤ l.length → ∀ i, dfold (keepD K (l.take k)) i (f i) = keepAll f K ((l.map dpr).take k) i
  | 0, _, i => by simp [keepD, keepAll, dfold]
  | k + 1, hk, i => by
    have hx := List.getElem?_eq_getElem (show k < l.length by omega)
    have hx' : (l.map dpr)[k]? = some (dpr l[k]) := by rw [List.getElem?_map, hx]; rfl
    have hm : l[k] ∈ l := List.getElem_mem _
    have hll : ∀ y ∈ l.map dpr, y.2.length = 64 := fun y hy => by
      obtain ⟨z, hz, rfl⟩ := List.mem_map.1 hy
      exact (h z hz).2
    have hlen := keepAll_len (K := K) hf hll k (by rw [List.length_map]; omega)
    rw [keepD_take hx, dfold_app, fold_keep h hf k (by omega) i, keepAll_take hx', fold_keep1 (h _ hm) _ _ (hlen i)]
    unfold upd
    by_cases hp : l[k].pg = i
    · have e1 : (dpr l[k]).1 = i := hp
      rw [if_pos hp, e1, if_pos rfl]
      rfl
    · have e1 : ¬ i = (dpr l[k]).1 := fun e => hp e.symm
      rw [if_neg hp, if_neg e1]
theorem Rel.restart {S : Plt} {D : Dpl} (h : Rel S D) (K : List Int) : Rel (S.restart K) (D.restart K) := by
  have hs : ∀ i, keepAll S.last K S.since i = dfold (keepD K D.since) i (S.last i) := fun i => by
    have := fold_keep (K := K) (l := D.since) (f := S.last) h.e0 h.l D.since.length (Nat.le_refl _) i
    rw [List.take_of_length_le (Nat.le_refl _), List.take_of_length_le (by rw [List.length_map]; exact Nat.le_refl _), h.since] at this
    exact this.symm
  refine ⟨h.n, rfl, rfl, h.ops, fun i => ?_, rfl, fun x hx => by simp [Dpl.restart] at hx, fun k => ?_⟩
  · show dfold (D.last ++ keepD K D.since) i zpg = keepAll S.last K S.since i
    rw [dfold_app, h.last, hs]
  · have := keepAll_len (K := K) h.l h.ss S.since.length (Nat.le_refl _) k
    rw [List.take_of_length_le (Nat.le_refl _)] at this
    exact this
theorem Rel.arm {S : Plt} {D : Dpl} (h : Rel S D) (n : Int) : Rel { S with armed := n } { D with armed := n } := ⟨h.n, h.off, rfl, h.ops, h.last, h.since, h.e0, h.l⟩
theorem Rel.new (n : Int) : Rel (newP n) (newD n) := ⟨rfl, rfl, rfl, rfl, fun _ => rfl, rfl, fun x hx => by simp [newD] at hx, fun _ => zpg_len⟩
theorem Rel.z {S : Plt} {D : Dpl} (h : Rel S D) {m : Nat} (hm : D.last.length + D.since.length ≤ m) : ∃ Z : List Int, Z.length ≤ m ∧ ∀ k, S.page k ≠ zpg → k ∈ Z := by
  refine ⟨(D.last ++ D.since).map (·.pg), by simpa using hm, fun k hk => ?_⟩
  rw [h.page] at hk
  apply Classical.byContradiction
  intro hn
  refine hk (dfold_none _ _ fun x hx e => hn ?_)
  rw [List.mem_map]
  exact ⟨x, hx, e⟩
end Go.Proofs.Ytnfdkpjklenllaa
