/- Pieces for SpanLists and SpanPlays. -/
import Derived.Test.YtglcpiokmieppaaRe
import Derived.Test.YtglcpiokmieppaaW
namespace Go.Proofs.Ytglcpiokmieppaa
open Go.RowKit

theorem lies_ptr {w : World} {g : Nat} {T : TypeId} {cap : Nat} {cur : Array Value} {Rs : List (Nat × List Dd)} (h : w.heap[g]? = some (.cells cur T (0, 0))) (hc : cur.toList = pcells Rs) (hl : Rs.length ≤ cap) (hm : cap ≤ maxLen) : Lies (fun _ => False) w 1 (.slice (some ⟨g, 0, none⟩) Rs.length cap) Rs.length (pcells Rs) := by
  refine ⟨_, cap, rfl, hl, hm, by simp [pcells], (fun h => nomatch h), fun _ => ⟨g, 0, rfl, id, row_lt h, fun j u hu => ?_⟩, fun u hu => ?_⟩
  · rw [Nat.zero_add, row_cell h]
    rw [← hc] at hu
    simpa using hu
  · simp only [pcells, List.mem_map] at hu
    obtain ⟨r, _, rfl⟩ := hu
    rfl
theorem Lies.take {F : Nat → Prop} {w : World} {size : Nat} {a : Option Addr} {n c m : Nat} {news : List Value} (h : Lies F w size (.slice a n c) n news) (hm : m ≤ n) : Lies F w size (.slice a m c) m (news.take (m * size)) := by
  obtain ⟨ao, cc, e, h1, h2, h3, h4, h5, h6⟩ := h
  simp only [Value.slice.injEq] at e
  obtain ⟨rfl, _, rfl⟩ := e
  refine ⟨a, c, rfl, by omega, h2, ?_, fun h => ⟨by have := (h4 h).1; omega, (h4 h).2⟩, fun hp => ?_, fun u hu => h6 u (List.mem_of_mem_take hu)⟩
  · rw [List.length_take, h3, Nat.min_eq_left (Nat.mul_le_mul_right _ hm)]
  · obtain ⟨g, off, e1, e2, e3, e4⟩ := h5 (by omega)
    refine ⟨g, off, e1, e2, e3, fun j u hu => e4 j u ?_⟩
    rw [List.getElem?_take] at hu
    split at hu
    · exact hu
    · cases hu
/-- deeds that all say yes -/
def yes (L : List Sp) : List Dd := L.map fun x => (x.1, x.2, true)
theorem hasD_yes (L : List Sp) (n : Int) : hasD (yes L) n = true ↔ Has L n := by
  unfold hasD yes
  suffices ∀ b : Bool, (L.map fun x : Sp => ((x.1, x.2, true) : Dd)).foldl (fun b (d : Dd) => if d.1 ≤ n ∧ n ≤ d.2.1 then d.2.2 else b) b = true ↔ b = true ∨ Has L n by
    have := this false
    simpa using this
  induction L with
  | nil => intro b; simp [Has]
  | cons x L ih =>
    intro b
    rw [List.map_cons, List.foldl_cons, ih]
    simp only
    by_cases h : x.1 ≤ n ∧ n ≤ x.2
    · rw [if_pos h]
      exact ⟨fun _ => .inr ⟨x, by simp, h⟩, fun _ => .inl rfl⟩
    · rw [if_neg h]
      constructor
      · rintro (h1 | ⟨y, hy, h1⟩)
        · exact .inl h1
        · exact .inr ⟨y, by simp [hy], h1⟩
      · rintro (h1 | ⟨y, hy, h1⟩)
        · exact .inl h1
        · rcases List.mem_cons.1 hy with rfl | hy
          · exact (h h1).elim
          · exact .inr ⟨y, hy, h1⟩
theorem okL_iff (L : List Sp) : okL L = true ↔ ∀ x ∈ L, x.1 ≤ x.2 := by simp [okL]
theorem yes_bd {L : List Sp} (h : okL L = true) (hb : ∀ x ∈ L, B32 x) : Bd (yes L) := by
  intro d hd
  simp only [yes, List.mem_map] at hd
  obtain ⟨x, hx, rfl⟩ := hd
  have := hb x hx; have := (okL_iff L).1 h x hx
  simp only [B32] at *
  exact ⟨by omega, by omega, by omega⟩
theorem spans_yes {L : List Sp} (h : okL L = true) (hb : ∀ x ∈ L, B32 x) (rb : Nat) : spansD [(rb, yes L)] = addAll [] L := by
  have h1 := spansD_law [(rb, yes L)] (fun r hr => by simp at hr; subst hr; exact yes_bd h hb)
  have h2 := addAll_law L [] Good.nil hb
  refine good_eq h1.1 h2.1 (fun n => ?_)
  rw [h1.2 n, h2.2 n]
  have h3 : allB [(rb, yes L)] n = hasD (yes L) n := by simp [allB]
  rw [h3, hasD_yes]
  constructor
  · rintro ⟨_, _, h⟩; exact .inr h
  · rintro (⟨x, hx, _⟩ | ⟨x, hx, g1, g2⟩)
    · cases hx
    · have := hb x hx
      exact ⟨by omega, by omega, x, hx, g1, g2⟩
theorem both_yes {L K : List Sp} (h : okL L = true) (hb : ∀ x ∈ L, B32 x) (k : okL K = true) (kb : ∀ x ∈ K, B32 x) (r1 r2 : Nat) :
    spansD [(r1, yes L), (r2, yes K)] = meet (addAll [] L) (addAll [] K) ∧ spansD [(r1, yes L), (r2, yes K)] = meet (addAll [] K) (addAll [] L) := by
  have h1 := spansD_law [(r1, yes L), (r2, yes K)] (fun r hr => by simp at hr; rcases hr with rfl | rfl; exact yes_bd h hb; exact yes_bd k kb)
  have a := addAll_law L [] Good.nil hb
  have b := addAll_law K [] Good.nil kb
  have m1 := meet_law a.1 b.1
  have m2 := meet_law b.1 a.1
  have h3 : ∀ n, allB [(r1, yes L), (r2, yes K)] n = true ↔ Has L n ∧ Has K n := fun n => by
    simp only [allB, List.all_cons, List.all_nil, Bool.and_true, Bool.and_eq_true]
    rw [hasD_yes, hasD_yes]
  have h4 : ∀ n, Has L n → 0 ≤ n ∧ n ≤ 4294967295 := fun n ⟨x, hx, g1, g2⟩ => by have := hb x hx; exact ⟨by omega, by omega⟩
  have e : ∀ n, ¬ Has [] n := fun n ⟨x, hx, _⟩ => nomatch hx
  refine ⟨good_eq h1.1 m1.1 (fun n => ?_), good_eq h1.1 m2.1 (fun n => ?_)⟩
  · rw [h1.2 n, h3 n, m1.2 n, a.2 n, b.2 n]
    simp only [e n, false_or]
    exact ⟨fun h => h.2.2, fun h => ⟨(h4 n h.1).1, (h4 n h.1).2, h⟩⟩
  · rw [h1.2 n, h3 n, m2.2 n, a.2 n, b.2 n]
    simp only [e n, false_or]
    exact ⟨fun h => ⟨h.2.2.2, h.2.2.1⟩, fun h => ⟨(h4 n h.2).1, (h4 n h.2).2, h.2, h.1⟩⟩
theorem again {S : List Sp} (h : Good S) : addAll [] S = S ∧ okL S = true ∧ ∀ x ∈ S, B32 x := by
  have hb : ∀ x ∈ S, B32 x := fun x hx => by have := h.b x hx; simp only [B32]; omega
  have h2 := addAll_law S [] Good.nil hb
  exact ⟨good_eq h2.1 h (fun n => by rw [h2.2 n]; simp [Has]), (okL_iff S).2 (fun x hx => (h.b x hx).2.1), hb⟩
theorem drop_whole {S : List Sp} (h : Good S) : dropS S 0 4294967295 = [] := by
  have h1 := drop_law h 0 4294967295 (by omega) (by omega)
  refine good_eq h1.1 Good.nil (fun n => ?_)
  rw [h1.2 n]
  constructor
  · rintro ⟨⟨x, hx, g1, g2⟩, g3⟩
    have := h.b x hx
    exact (g3 ⟨by omega, by omega⟩).elim
  · rintro ⟨x, hx, _⟩; cases hx
/-- a set with the document's beside it, all in N -/
def RefN (N : Nat → Prop) (w : World) (rb : Nat) (D : List Dd) : Prop := ∃ F, RefAt F w rb D ∧ ∀ g, F g → N g
theorem RefN.kept {N : Nat → Prop} {w w' : World} {rb : Nat} {D : List Dd} (h : RefN N w rb D) (k : Kept (fun g => ¬ N g) w w') : RefN N w' rb D := by
  obtain ⟨F, h, hn⟩ := h
  exact ⟨F, h.kept k (fun g hf hx => hx (hn g hf)), hn⟩
theorem RefN.rs {N : Nat → Prop} {w : World} {rb : Nat} {D : List Dd} (h : RefN N w rb D) (hb : Bd D) (hl : D.length ≤ 1000000) : RsAt w [(rb, D)] := fun r hr => by
  simp at hr; subst hr
  obtain ⟨F, h, _⟩ := h
  exact ⟨⟨F, h⟩, hb, hl⟩
end Go.Proofs.Ytglcpiokmieppaa
