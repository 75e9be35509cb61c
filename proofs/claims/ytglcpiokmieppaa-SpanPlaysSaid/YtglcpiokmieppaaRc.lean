/- edges: the walk; the plain law of the document's spans. -/
import Derived.Test.YtglcpiokmieppaaRb
namespace Go.Proofs.Ytglcpiokmieppaa
open Go.RowKit

def Bd (D : List Dd) : Prop := ∀ d ∈ D, 0 ≤ d.1 ∧ d.1 ≤ d.2.1 ∧ d.2.1 ≤ 4294967295
def edge1 (l : List Int) (d : Dd) : List Int := if d.2.1 = 4294967295 then ins l d.1 else ins (ins l d.1) (d.2.1 + 1)
def edgesD (l : List Int) (D : List Dd) : List Int := D.foldl edge1 l
def edgesL (Rs : List (Nat × List Dd)) : List Int := Rs.foldl (fun l r => edgesD l r.2) [0]
theorem edge1_srt {l : List Int} (h : Srt l) (d : Dd) (hd : 0 ≤ d.1 ∧ d.1 ≤ d.2.1 ∧ d.2.1 ≤ 4294967295) : Srt (edge1 l d) := by
  unfold edge1
  split
  · exact h.ins _ hd.1 (by omega)
  · exact (h.ins _ hd.1 (by omega)).ins _ (by omega) (by omega)
theorem edge1_mem (l : List Int) (d : Dd) (x : Int) : x ∈ edge1 l d ↔ x = d.1 ∨ (d.2.1 ≠ 4294967295 ∧ x = d.2.1 + 1) ∨ x ∈ l := by
  unfold edge1
  split
  · rename_i h
    rw [mem_ins]; simp [h]
  · rename_i h
    rw [mem_ins, mem_ins]
    constructor
    · rintro (h1 | h1 | h1)
      · exact .inr (.inl ⟨h, h1⟩)
      · exact .inl h1
      · exact .inr (.inr h1)
    · rintro (h1 | ⟨_, h1⟩ | h1)
      · exact .inr (.inl h1)
      · exact .inl h1
      · exact .inr (.inr h1)
theorem edgesD_snoc (l : List Int) (D : List Dd) (d : Dd) : edgesD l (D ++ [d]) = edge1 (edgesD l D) d := by simp [edgesD]
theorem edgesD_srt : ∀ (D : List Dd) {l : List Int}, Srt l → Bd D → Srt (edgesD l D)
  | [], l, h, _ => h
  | d :: D, l, h, hb => edgesD_srt D (edge1_srt h d (hb d (by simp))) (fun x hx => hb x (by simp [hx]))
theorem edgesD_mem : ∀ (D : List Dd) (l : List Int) (x : Int), x ∈ edgesD l D ↔ x ∈ l ∨ ∃ d ∈ D, x = d.1 ∨ (d.2.1 ≠ 4294967295 ∧ x = d.2.1 + 1)
  | [], l, x => by simp [edgesD]
  | d :: D, l, x => by
    have := edgesD_mem D (edge1 l d) x
    change x ∈ edgesD (edge1 l d) D ↔ _
    rw [this, edge1_mem]
    constructor
    · rintro ((h | h | h) | ⟨e, he, h⟩)
      · exact .inr ⟨d, by simp, .inl h⟩
      · exact .inr ⟨d, by simp, .inr h⟩
      · exact .inl h
      · exact .inr ⟨e, by simp [he], h⟩
    · rintro (h | ⟨e, he, h⟩)
      · exact .inl (.inr (.inr h))
      · rcases List.mem_cons.1 he with rfl | he
        · rcases h with h | h
          · exact .inl (.inl h)
          · exact .inl (.inr (.inl h))
        · exact .inr ⟨e, he, h⟩
theorem edgesF_srt : ∀ (Rs : List (Nat × List Dd)) (l : List Int), Srt l → (∀ r ∈ Rs, Bd r.2) → Srt (Rs.foldl (fun l r => edgesD l r.2) l)
  | [], l, h, _ => h
  | r :: Rs, l, h, hb => edgesF_srt Rs (edgesD l r.2) (edgesD_srt r.2 h (hb r (by simp))) (fun x hx => hb x (by simp [hx]))
theorem srt_zero : Srt [0] := ⟨List.pairwise_singleton _ _, by simp⟩
theorem edgesL_srt (Rs : List (Nat × List Dd)) (hb : ∀ r ∈ Rs, Bd r.2) : Srt (edgesL Rs) := edgesF_srt Rs [0] srt_zero hb
theorem edgesF_mem : ∀ (Rs : List (Nat × List Dd)) (l : List Int) (x : Int), (x ∈ l → x ∈ Rs.foldl (fun l r => edgesD l r.2) l) ∧ (∀ r ∈ Rs, ∀ d ∈ r.2, (x = d.1 ∨ (d.2.1 ≠ 4294967295 ∧ x = d.2.1 + 1)) → x ∈ Rs.foldl (fun l r => edgesD l r.2) l)
  | [], l, x => by simp
  | r :: Rs, l, x => by
    have h := edgesF_mem Rs (edgesD l r.2) x
    refine ⟨fun hx => h.1 ((edgesD_mem r.2 l x).2 (.inl hx)), fun s hs d hd hx => ?_⟩
    rcases List.mem_cons.1 hs with rfl | hs
    · exact h.1 ((edgesD_mem s.2 l x).2 (.inr ⟨d, hd, hx⟩))
    · exact h.2 s hs d hd hx
theorem edgesL_snoc (Rs : List (Nat × List Dd)) (r : Nat × List Dd) : edgesL (Rs ++ [r]) = edgesD (edgesL Rs) r.2 := by simp [edgesL]
/-- nobody begins to speak between two edges -/
theorem hasD_const (D : List Dd) (x n : Int) (hxn : x ≤ n) (h : ∀ d ∈ D, (d.1 ≤ x ∨ n < d.1) ∧ (d.2.1 < x ∨ n ≤ d.2.1)) : hasD D n = hasD D x := by
  unfold hasD
  suffices ∀ b, D.foldl (fun b (d : Dd) => if d.1 ≤ n ∧ n ≤ d.2.1 then d.2.2 else b) b = D.foldl (fun b (d : Dd) => if d.1 ≤ x ∧ x ≤ d.2.1 then d.2.2 else b) b from this false
  induction D with
  | nil => intro b; rfl
  | cons d D ih =>
    intro b
    have hd := h d (by simp)
    have e : (if d.1 ≤ n ∧ n ≤ d.2.1 then d.2.2 else b) = if d.1 ≤ x ∧ x ≤ d.2.1 then d.2.2 else b := by
      by_cases h1 : d.1 ≤ x ∧ x ≤ d.2.1
      · rw [if_pos h1, if_pos (by omega)]
      · rw [if_neg h1, if_neg (by omega)]
    rw [List.foldl_cons, List.foldl_cons, e]
    exact ih (fun y hy => h y (by simp [hy])) _
def stepS (out : List Sp) (x to : Int) (b : Bool) : List Sp :=
  if b = true then (match out.getLast? with | none => [(x, to)] | some z => if z.2 = x - 1 then out.dropLast ++ [(z.1, to)] else out ++ [(x, to)]) else out
def nxt : List Int → Int
  | [] => 4294967295
  | y :: _ => y - 1
def spL (has : Int → Bool) : List Int → List Sp → List Sp
  | [], out => out
  | x :: l, out => spL has l (stepS out x (nxt l) (has x))
structure SInv (has : Int → Bool) (out : List Sp) (x : Int) : Prop where
  g : Good out
  l : ∀ s ∈ out, s.2 < x
  h : ∀ n, Has out n ↔ 0 ≤ n ∧ n < x ∧ has n = true
theorem SInv.step {has : Int → Bool} {out : List Sp} {x to : Int} (h : SInv has out x) (h0 : 0 ≤ x) (hx : x ≤ to) (ht : to ≤ 4294967295) (hc : ∀ n, x ≤ n → n ≤ to → has n = has x) : SInv has (stepS out x to (has x)) (to + 1) := by
  unfold stepS
  by_cases hb : has x = true
  · rw [if_pos hb]
    rcases List.eq_nil_or_concat out with rfl | ⟨L0, z, rfl⟩
    · simp only [List.getLast?_nil]
      refine ⟨Good.of (by simp; omega) (List.pairwise_singleton _ _), by simp; omega, fun n => ?_⟩
      rw [has_one]
      have := h.h n
      simp only
      constructor
      · rintro ⟨h1, h2⟩
        exact ⟨by omega, by omega, by rw [hc n h1 h2]; exact hb⟩
      · rintro ⟨h1, h2, h3⟩
        by_cases hn : n < x
        · obtain ⟨_, hy, _⟩ := this.2 ⟨h1, hn, h3⟩
          cases hy
        · omega
    · rw [List.concat_eq_append] at h ⊢
      rw [List.getLast?_concat]
      have hzb := h.g.b z (by simp)
      have hzl := h.l z (by simp)
      have hp := List.pairwise_append.1 h.g.pw
      simp only
      by_cases hz : z.2 = x - 1
      · rw [if_pos hz, List.dropLast_concat]
        refine ⟨Good.of (fun y hy => ?_) ?_, fun y hy => ?_, fun n => ?_⟩
        · rcases List.mem_append.1 hy with hy | hy
          · exact h.g.b y (by simp [hy])
          · simp at hy; subst hy; simp only; omega
        · rw [List.pairwise_append]
          refine ⟨hp.1, List.pairwise_singleton _ _, fun y hy u hu => ?_⟩
          simp at hu; subst hu
          have := hp.2.2 y hy z (by simp)
          simpa [Apart] using this
        · rcases List.mem_append.1 hy with hy | hy
          · have := h.l y (by simp [hy]); omega
          · simp at hy; subst hy; simp only; omega
        · have := h.h n
          rw [has_app, has_one] at this ⊢
          simp only at this ⊢
          constructor
          · rintro (h1 | ⟨h1, h2⟩)
            · have h3 := this.1 (.inl h1); exact ⟨h3.1, by omega, h3.2.2⟩
            · by_cases hn : n ≤ z.2
              · have h3 := this.1 (.inr ⟨h1, hn⟩); exact ⟨h3.1, by omega, h3.2.2⟩
              · exact ⟨by omega, by omega, by rw [hc n (by omega) h2]; exact hb⟩
          · rintro ⟨h1, h2, h3⟩
            by_cases hn : n < x
            · rcases this.2 ⟨h1, hn, h3⟩ with h4 | h4
              · exact .inl h4
              · exact .inr ⟨h4.1, by omega⟩
            · exact .inr ⟨by omega, by omega⟩
      · rw [if_neg hz]
        refine ⟨Good.of (fun y hy => ?_) ?_, fun y hy => ?_, fun n => ?_⟩
        · rcases List.mem_append.1 hy with hy | hy
          · exact h.g.b y hy
          · simp at hy; subst hy; simp only; omega
        · rw [List.pairwise_append]
          refine ⟨h.g.pw, List.pairwise_singleton _ _, fun y hy u hu => ?_⟩
          simp at hu; subst hu
          simp only [Apart]
          rcases List.mem_append.1 hy with hy | hy
          · have := hp.2.2 y hy z (by simp); simp only [Apart] at this; omega
          · simp at hy; subst hy; omega
        · rcases List.mem_append.1 hy with hy | hy
          · have := h.l y hy; omega
          · simp at hy; subst hy; simp only; omega
        · have := h.h n
          rw [has_app, has_one]
          simp only
          constructor
          · rintro (h1 | ⟨h1, h2⟩)
            · have h3 := this.1 h1; exact ⟨h3.1, by omega, h3.2.2⟩
            · exact ⟨by omega, by omega, by rw [hc n h1 h2]; exact hb⟩
          · rintro ⟨h1, h2, h3⟩
            by_cases hn : n < x
            · exact .inl (this.2 ⟨h1, hn, h3⟩)
            · exact .inr ⟨by omega, by omega⟩
  · rw [if_neg hb]
    refine ⟨h.g, fun y hy => by have := h.l y hy; omega, fun n => ?_⟩
    have := h.h n
    constructor
    · intro h1; have h3 := this.1 h1; exact ⟨h3.1, by omega, h3.2.2⟩
    · rintro ⟨h1, h2, h3⟩
      by_cases hn : n < x
      · exact this.2 ⟨h1, hn, h3⟩
      · rw [hc n (by omega) (by omega)] at h3
        exact (hb h3).elim
theorem spL_law (has : Int → Bool) : ∀ (l : List Int) (out : List Sp) (x : Int), l.head? = some x → l.Pairwise (· < ·) → (∀ y ∈ l, 0 ≤ y ∧ y ≤ 4294967295) → SInv has out x →
    (∀ (y : Int) (r : List Int) (k : Nat), l.drop k = y :: r → ∀ n, y ≤ n → n ≤ nxt r → has n = has y) → SInv has (spL has l out) 4294967296
  | [], out, x, hx, _, _, _, _ => by simp at hx
  | [a], out, x, hx, hp, hb, h, hc => by
    simp at hx; subst hx
    have := hb a (by simp)
    exact h.step (to := 4294967295) this.1 this.2 (by omega) (fun n h1 h2 => hc a [] 0 rfl n h1 h2)
  | a :: b :: l, out, x, hx, hp, hb, h, hc => by
    simp at hx; subst hx
    have hp' := List.pairwise_cons.1 hp
    have hab := hp'.1 b (by simp)
    have ha := hb a (by simp)
    have hbb := hb b (by simp)
    have hs := h.step (to := b - 1) ha.1 (by omega) (by omega) (fun n h1 h2 => hc a (b :: l) 0 rfl n h1 h2)
    rw [show b - 1 + 1 = b by omega] at hs
    exact spL_law has (b :: l) _ b rfl hp'.2 (fun y hy => hb y (by simp [hy])) hs (fun y r k hk n h1 h2 => hc y r (k + 1) (by simpa using hk) n h1 h2)
def allB (Rs : List (Nat × List Dd)) (n : Int) : Bool := Rs.all fun r => hasD r.2 n
def spansD (Rs : List (Nat × List Dd)) : List Sp := spL (allB Rs) (edgesL Rs) []
theorem srt_head {l : List Int} (h : Srt l) (h0 : 0 ∈ l) : l.head? = some 0 := by
  match l, h, h0 with
  | x :: l, h, h0 =>
    have hp := List.pairwise_cons.1 h.p
    have hb := h.b x (by simp)
    rcases List.mem_cons.1 h0 with e | e
    · rw [e]; rfl
    · have := hp.1 0 e; omega
theorem srt_gap {l : List Int} (h : Srt l) (y : Int) (r : List Int) (k : Nat) (hk : l.drop k = y :: r) (e : Int) (he : e ∈ l) : e ≤ y ∨ nxt r < e := by
  have hl : l = l.take k ++ (y :: r) := by rw [← hk, List.take_append_drop]
  have hp := h.p
  rw [hl, List.pairwise_append] at hp
  have hp2 := List.pairwise_cons.1 hp.2.1
  rw [hl] at he
  rcases List.mem_append.1 he with he | he
  · have := hp.2.2 e he y (by simp); left; omega
  · rcases List.mem_cons.1 he with rfl | he
    · left; omega
    · right
      match r, he, hp2 with
      | z :: r', he, hp2 =>
        rcases List.mem_cons.1 he with rfl | he
        · simp [nxt]; omega
        · have := (List.pairwise_cons.1 hp2.2).1 e he; simp [nxt]; omega
theorem spansD_law (Rs : List (Nat × List Dd)) (hb : ∀ r ∈ Rs, Bd r.2) : Good (spansD Rs) ∧ ∀ n, Has (spansD Rs) n ↔ 0 ≤ n ∧ n ≤ 4294967295 ∧ allB Rs n = true := by
  have hs := edgesL_srt Rs hb
  have h0 : (0 : Int) ∈ edgesL Rs := (edgesF_mem Rs [0] 0).1 (by simp)
  have h := spL_law (allB Rs) (edgesL Rs) [] 0 (srt_head hs h0) hs.p hs.b ⟨Good.nil, by simp, fun n => ⟨fun ⟨x, hx, _⟩ => (nomatch hx), fun ⟨h1, h2, _⟩ => by omega⟩⟩ (fun y r k hk n h1 h2 => by
    unfold allB
    have : ∀ s ∈ Rs, hasD s.2 n = hasD s.2 y := fun s hsR => hasD_const s.2 y n h1 (fun d hd => by
      have hd1 := srt_gap hs y r k hk d.1 ((edgesF_mem Rs [0] d.1).2 s hsR d hd (.inl rfl))
      refine ⟨by omega, ?_⟩
      by_cases hm : d.2.1 = 4294967295
      · right
        have hn : nxt r ≤ 4294967295 := by
          match r, hk with
          | [], _ => simp [nxt]
          | z :: r', hk =>
            have hz : z ∈ edgesL Rs := by
              have : z ∈ (edgesL Rs).drop k := by rw [hk]; simp
              exact List.mem_of_mem_drop this
            have := hs.b z hz
            simp [nxt]; omega
        omega
      · have hd2 := srt_gap hs y r k hk (d.2.1 + 1) ((edgesF_mem Rs [0] (d.2.1 + 1)).2 s hsR d hd (.inr ⟨hm, rfl⟩))
        omega)
    rw [Bool.eq_iff_iff, List.all_eq_true, List.all_eq_true]
    exact ⟨fun h s hs => by rw [← this s hs]; exact h s hs, fun h s hs => by rw [this s hs]; exact h s hs⟩)
  refine ⟨h.g, fun n => ?_⟩
  have := h.h n
  constructor
  · intro h1; have h2 := this.1 h1; exact ⟨h2.1, by omega, h2.2.2⟩
  · rintro ⟨h1, h2, h3⟩; exact this.2 ⟨h1, by omega, h3⟩
end Go.Proofs.Ytglcpiokmieppaa
