/- A message that is handed in reads. -/
import Derived.Test.YtnlbdlbinoebgaaP
namespace Go.Proofs.Ytnlbdlbinoebgaa
open Go.RowKit
theorem cellsPr : Try.prog.cellsOf 105 = 4 := by kernel_rfl
theorem cellsHa : Try.prog.cellsOf 107 = 4 := by kernel_rfl
theorem cellsVx : Try.prog.cellsOf 89 = 4 := by kernel_rfl
theorem cellsWt : Try.prog.cellsOf 93 = 2 := by kernel_rfl
theorem cellsEn : Try.prog.cellsOf 96 = 3 := by kernel_rfl
theorem cellsTx : Try.prog.cellsOf 33 = 3 := by kernel_rfl
theorem cellsAn : Try.prog.cellsOf 38 = 4 := by kernel_rfl
theorem cellsMs : Try.prog.cellsOf 44 = 26 := by kernel_rfl
theorem cellsU64 : Try.prog.cellsOf 34 = 1 := by kernel_rfl
theorem cellsBo : Try.prog.cellsOf 4 = 1 := by kernel_rfl
theorem cellsErr : Try.prog.cellsOf 25 = 1 := by kernel_rfl
theorem cellsLV : Try.prog.cellsOf 35 = 1 := by kernel_rfl
theorem cellsLN : Try.prog.cellsOf 36 = 1 := by kernel_rfl
theorem cellsLW : Try.prog.cellsOf 39 = 1 := by kernel_rfl
theorem cellsLX : Try.prog.cellsOf 40 = 1 := by kernel_rfl
theorem cellsLD : Try.prog.cellsOf 41 = 1 := by kernel_rfl
theorem cellsLB : Try.prog.cellsOf 42 = 1 := by kernel_rfl
theorem cellsLP : Try.prog.cellsOf 86 = 1 := by kernel_rfl
theorem cellsLH : Try.prog.cellsOf 87 = 1 := by kernel_rfl
theorem bytesPr : Try.prog.bytesOf 105 = 40 := by kernel_rfl
theorem bytesHa : Try.prog.bytesOf 107 = 40 := by kernel_rfl
theorem bytesVx : Try.prog.bytesOf 89 = 56 := by kernel_rfl
theorem bytesWt : Try.prog.bytesOf 93 = 8 := by kernel_rfl
theorem bytesEn : Try.prog.bytesOf 96 = 12 := by kernel_rfl
theorem bytesVa : Try.prog.bytesOf 75 = 32 := by kernel_rfl
theorem bytesN : Try.prog.bytesOf 28 = 4 := by kernel_rfl
theorem bytes8 : Try.prog.bytesOf 5 = 1 := by kernel_rfl
theorem val_read {w : World} {x4 x5 x6 : Value} (h4 : Rd Try.prog w 75 [x4, x5, x6]) : ∃ a b : Int, ∃ s : ByteArray, x4 = .int .u8 a ∧ x5 = .int .i64 b ∧ x6 = .string s := by
  have v0 : Rd Try.prog w 5 [x4] := h4.field Try.underlying75 0 5 0 1 rfl cells8
  have v1 : Rd Try.prog w 2 [x5] := h4.field Try.underlying75 1 2 1 1 rfl cells64
  have v2 : Rd Try.prog w 9 [x6] := h4.field Try.underlying75 2 9 2 1 rfl cellsS
  obtain ⟨e, e4, _⟩ := v0.int Try.underlying5
  obtain ⟨f, e5, _⟩ := v1.int Try.underlying2
  obtain ⟨s, e6, hs⟩ := v2.string Try.underlying9
  simp only [List.cons.injEq, and_true] at e4 e5 e6
  exact ⟨e, f, s, e4, e5, e6⟩
theorem va_read {w : World} {es : List Value} (hl : es.length = 3) (h : Rd Try.prog w 75 es) : ∃ x : Val, es = vcell x ∧ True := by
  match es, hl with
  | [x0, x1, x2], _ =>
    obtain ⟨a, b, s, rfl, rfl, rfl⟩ := val_read h
    exact ⟨⟨a, b, s⟩, rfl, trivial⟩
theorem nu_read {w : World} {es : List Value} (hl : es.length = 1) (h : Rd Try.prog w 28 es) : ∃ x : Int, es = nuC x ∧ True := by
  obtain ⟨a, e0, _⟩ := h.int Try.underlying28
  exact ⟨a, e0, trivial⟩
theorem ub_read {w : World} {es : List Value} (hl : es.length = 1) (h : Rd Try.prog w 5 es) : ∃ x : Int, es = ubC x ∧ True := by
  obtain ⟨a, e0, _⟩ := h.int Try.underlying5
  exact ⟨a, e0, trivial⟩
theorem wt_read {w : World} {es : List Value} (hl : es.length = 2) (h : Rd Try.prog w 93 es) : ∃ x : Int × Int, es = wtC x ∧ True := by
  match es, hl with
  | [x0, x1], _ =>
    have h0 : Rd Try.prog w 28 [x0] := h.field Try.underlying93 0 28 0 1 rfl cellsN
    have h1 : Rd Try.prog w 5 [x1] := h.field Try.underlying93 1 5 1 1 rfl cells8
    obtain ⟨a, e0, _⟩ := h0.int Try.underlying28
    obtain ⟨b, e1, _⟩ := h1.int Try.underlying5
    simp only [List.cons.injEq, and_true] at e0 e1
    subst e0 e1
    exact ⟨⟨a, b⟩, rfl, trivial⟩
theorem en_read {w : World} {es : List Value} (hl : es.length = 3) (h : Rd Try.prog w 96 es) : ∃ x : Int × Int × Int, es = enC x ∧ True := by
  match es, hl with
  | [x0, x1, x2], _ =>
    have h0 : Rd Try.prog w 28 [x0] := h.field Try.underlying96 0 28 0 1 rfl cellsN
    have h1 : Rd Try.prog w 5 [x1] := h.field Try.underlying96 1 5 1 1 rfl cells8
    have h2 : Rd Try.prog w 28 [x2] := h.field Try.underlying96 2 28 2 1 rfl cellsN
    obtain ⟨a, e0, _⟩ := h0.int Try.underlying28
    obtain ⟨b, e1, _⟩ := h1.int Try.underlying5
    obtain ⟨c, e2, _⟩ := h2.int Try.underlying28
    simp only [List.cons.injEq, and_true] at e0 e1 e2
    subst e0 e1 e2
    exact ⟨⟨a, b, c⟩, rfl, trivial⟩
theorem pr_read {w : World} {es : List Value} (hl : es.length = 4) (h : Rd Try.prog w 105 es) : ∃ x : Pr, es = prC x ∧ True := by
  match es, hl with
  | [x0, x1, x2, x3], _ =>
    have h0 : Rd Try.prog w 5 [x0] := h.field Try.underlying105 0 5 0 1 rfl cells8
    have h1 : Rd Try.prog w 75 [x1, x2, x3] := h.field Try.underlying105 1 75 1 3 rfl cellsV
    obtain ⟨k, e0, _⟩ := h0.int Try.underlying5
    obtain ⟨a, b, s, rfl, rfl, rfl⟩ := val_read h1
    simp only [List.cons.injEq, and_true] at e0
    subst e0
    exact ⟨⟨k, a, b, s⟩, rfl, trivial⟩
theorem ha_read {w : World} {es : List Value} (hl : es.length = 4) (h : Rd Try.prog w 107 es) : ∃ x : Pr, es = haC x ∧ True := by
  match es, hl with
  | [x0, x1, x2, x3], _ =>
    have h0 : Rd Try.prog w 28 [x0] := h.field Try.underlying107 0 28 0 1 rfl cellsN
    have h1 : Rd Try.prog w 75 [x1, x2, x3] := h.field Try.underlying107 1 75 1 3 rfl cellsV
    obtain ⟨k, e0, _⟩ := h0.int Try.underlying28
    obtain ⟨a, b, s, rfl, rfl, rfl⟩ := val_read h1
    simp only [List.cons.injEq, and_true] at e0
    subst e0
    exact ⟨⟨k, a, b, s⟩, rfl, trivial⟩
abbrev VtP := Vt × (Option Addr × Nat) × (Option Addr × Nat)
def vtV (x : VtP) : Value × Value := (.slice x.2.1.1 x.1.ps.length x.2.1.2, .slice x.2.2.1 x.1.hs.length x.2.2.2)
def vtC (x : VtP) : List Value := vxC (vxOf x.1) (vtV x)
theorem one_pr : ∀ x : Pr, ∀ u ∈ prC x, u.oneCell' = true := fun x u hu => by
  simp only [prC, List.mem_cons, List.not_mem_nil, or_false] at hu
  rcases hu with rfl | rfl | rfl | rfl <;> rfl
theorem one_ha : ∀ x : Pr, ∀ u ∈ haC x, u.oneCell' = true := fun x u hu => by
  simp only [haC, List.mem_cons, List.not_mem_nil, or_false] at hu
  rcases hu with rfl | rfl | rfl | rfl <;> rfl
theorem one_wt : ∀ x : Int × Int, ∀ u ∈ wtC x, u.oneCell' = true := fun x u hu => by
  simp only [wtC, List.mem_cons, List.not_mem_nil, or_false] at hu
  rcases hu with rfl | rfl <;> rfl
theorem one_en : ∀ x : Int × Int × Int, ∀ u ∈ enC x, u.oneCell' = true := fun x u hu => by
  simp only [enC, List.mem_cons, List.not_mem_nil, or_false] at hu
  rcases hu with rfl | rfl | rfl <;> rfl
theorem one_nu : ∀ x : Int, ∀ u ∈ nuC x, u.oneCell' = true := fun x u hu => by
  simp only [nuC, List.mem_cons, List.not_mem_nil, or_false] at hu
  subst hu; rfl
theorem one_ub : ∀ x : Int, ∀ u ∈ ubC x, u.oneCell' = true := fun x u hu => by
  simp only [ubC, List.mem_cons, List.not_mem_nil, or_false] at hu
  subst hu; rfl
theorem one_va : ∀ x : Val, ∀ u ∈ vcell x, u.oneCell' = true := fun x u hu => by
  simp only [vcell, List.mem_cons, List.not_mem_nil, or_false] at hu
  rcases hu with rfl | rfl | rfl <;> rfl
theorem one_vt : ∀ x : VtP, ∀ u ∈ vtC x, u.oneCell' = true := fun x u hu => by
  simp only [vtC, vxC, vtV, List.mem_cons, List.not_mem_nil, or_false] at hu
  rcases hu with rfl | rfl | rfl | rfl <;> rfl
theorem vt_read {w : World} {es : List Value} (hl : es.length = 4) (h : Rd Try.prog w 89 es) : ∃ x : VtP, es = vtC x ∧ VxIn (fun g => w.heap.size ≤ g) w (vxOf x.1) (vtV x) := by
  match es, hl with
  | [x0, x1, x2, x3], _ =>
    have h0 : Rd Try.prog w 28 [x0] := h.field Try.underlying89 0 28 0 1 rfl cellsN
    have h1 : Rd Try.prog w 4 [x1] := h.field Try.underlying89 1 4 1 1 rfl cellsBo
    have h2 : Rd Try.prog w 86 [x2] := h.field Try.underlying89 2 86 2 1 rfl cellsLP
    have h3 : Rd Try.prog w 87 [x3] := h.field Try.underlying89 3 87 3 1 rfl cellsLH
    obtain ⟨i, e0, _⟩ := h0.int Try.underlying28
    obtain ⟨t, e1⟩ := h1.bool Try.underlying4
    obtain ⟨pa, pn, pq, e2⟩ := h2.isSlice Try.underlying86
    obtain ⟨ha, hn, hq, e3⟩ := h3.isSlice Try.underlying87
    simp only [List.cons.injEq, and_true] at e0 e1 e2 e3
    subst e0 e1 e2 e3
    obtain ⟨lp, rfl, vp, bp, _⟩ := lies_of prC 4 (fun _ => rfl) (by decide) one_pr ⟨0, 0, 0, ByteArray.empty⟩ Try.underlying86 cellsPr (fun _ => True) (fun es => pr_read) h2
    obtain ⟨lh, rfl, vh, bh, _⟩ := lies_of haC 4 (fun _ => rfl) (by decide) one_ha ⟨0, 0, 0, ByteArray.empty⟩ Try.underlying87 cellsHa (fun _ => True) (fun es => ha_read) h3
    rw [bytesPr] at bp
    rw [bytesHa] at bh
    simp only [reachBytes] at bp bh
    exact ⟨(⟨i, t, lp, lh⟩, (pa, pq), (ha, hq)), rfl, vp, vh, by show lp.length * 40 ≤ _; omega, by show lh.length * 40 ≤ _; omega⟩
theorem flat_vt (l : List VtP) : l.flatMap vtC = flatx ((l.map (·.1)).map vxOf) (l.map vtV) := by
  unfold flatx
  induction l with
  | nil => rfl
  | cons x l ih => simp only [List.flatMap_cons, List.map_cons, List.zip_cons_cons]; rw [ih]; rfl
theorem verts_read {w : World} {a : Option Addr} {n q : Nat} (h : Rd Try.prog w 40 [.slice a n q]) : ∃ X : List Vt, X.length = n ∧ VertsIn (fun g => w.heap.size ≤ g) w (.slice a n q) (X.map vxOf) := by
  obtain ⟨l, rfl, hv, bv, hq⟩ := lies_of vtC 4 (fun _ => rfl) (by decide) one_vt (⟨0, false, [], []⟩, (none, 0), (none, 0)) Try.underlying40 cellsVx (fun x => VxIn (fun g => w.heap.size ≤ g) w (vxOf x.1) (vtV x)) (fun es => vt_read) h
  rw [bytesVx] at bv
  simp only [reachBytes] at bv
  rw [flat_vt] at hv
  have hlen : ((l.map (·.1)).map vxOf).length = l.length := by simp
  refine ⟨l.map (·.1), by simp, ⟨l.map vtV, by simp, by rw [hlen]; exact hv, fun i x p hx hp => ?_⟩, by rw [hlen]; omega⟩
  rw [List.getElem?_map, List.getElem?_map] at hx
  rw [List.getElem?_map] at hp
  cases hl : l[i]? with
  | none => rw [hl] at hp; nomatch hp
  | some y =>
    rw [hl] at hx hp
    simp only [Option.map_some, Option.some.injEq] at hx hp
    subst hx hp
    exact hq y (List.mem_of_getElem? hl)
end Go.Proofs.Ytnlbdlbinoebgaa
