/- The walk of SpanFew. -/
import Derived.Test.YtglcpiokmieppaaS
namespace Go.Proofs.Ytglcpiokmieppaa
open Go.RowKit

/-- one set, and blocks that are not of it -/
structure SN (B : Nat) (w : World) (sb : Nat) (N : List Nat) (S : List Sp) : Prop where
  ex : ∃ F, St B F w sb S ∧ ∀ g ∈ N, ¬ F g ∧ g < w.heap.size
theorem SN.s1 {B : Nat} {w : World} {sb : Nat} {N : List Nat} {S : List Sp} (h : SN B w sb N S) : S1 B w sb S := by obtain ⟨⟨F, h, _⟩⟩ := h; exact ⟨F, h⟩
theorem SN.same {B : Nat} {w w' : World} {sb : Nat} {N : List Nat} {S : List Sp} (h : SN B w sb N S) (k : Kept (fun _ => False) w w') : SN B w' sb N S := by
  obtain ⟨⟨F, h, hn⟩⟩ := h
  exact ⟨⟨F, h.same k, fun g hg => ⟨(hn g hg).1, Nat.lt_of_lt_of_le (hn g hg).2 k.size⟩⟩⟩
theorem SN.set {B : Nat} {w : World} {sb g : Nat} {N : List Nat} {S : List Sp} (h : SN B w sb N S) (hg : g ∈ N) (j : Nat) (v : Value) : SN B (w.setCell ⟨g, j, none⟩ v) sb N S := by
  obtain ⟨⟨F, h, hn⟩⟩ := h
  have k : Kept (fun i => i = g) w (w.setCell ⟨g, j, none⟩ v) := (Kept.refl (fun i => i = g) w).setCell (.inl rfl) _
  exact ⟨⟨F, h.kept k (fun i hi e => (hn g hg).1 (e ▸ hi)), fun i hi => ⟨(hn i hi).1, Nat.lt_of_lt_of_le (hn i hi).2 k.size⟩⟩⟩
theorem SN.add {B : Nat} {w : World} {sb : Nat} {N : List Nat} {S : List Sp} (h : SN B w sb N S) (a b : Int) (ha : 0 ≤ a) (hb : b ≤ 4294967295) :
    Calls Try.prog 10 #[.pointer (some ⟨sb, 0, none⟩), .int .u32 a, .int .u32 b] w fun e w' => e = .returned (.int .i64 (chk a b)) ∧ SN B w' sb N (addS S a b) ∧ Below B w w' ∧ ∀ g ∈ N, w'.heap[g]? = w.heap[g]? := by
  obtain ⟨⟨F, h, hn⟩⟩ := h
  refine (h.add a b ha hb).mono ?_
  rintro e w' ⟨e1, F', k1, k2, k3⟩
  refine ⟨e1, ⟨⟨F', k1, fun g hg => ⟨fun hf => ?_, Nat.lt_of_lt_of_le (hn g hg).2 k3.size⟩⟩⟩, k3.below h.B (fun i hi => (h.r i hi).1), fun g hg => k3.block g (hn g hg).2 (hn g hg).1⟩
  rcases k2 g hf with hf | hf
  · exact (hn g hg).1 hf
  · have := (hn g hg).2; omega
/-- a span begins here -/
theorem begins {S : List Sp} (h : Good S) (n : Int) : (∃ x ∈ S, x.1 = n) ↔ Has S n ∧ ¬ Has S (n - 1) := by
  constructor
  · rintro ⟨x, hx, rfl⟩
    have hb := h.b x hx
    refine ⟨⟨x, hx, Int.le_refl _, hb.2.1⟩, ?_⟩
    rintro ⟨y, hy, h1, h2⟩
    obtain ⟨i, hi, ei⟩ := List.mem_iff_getElem.1 hx
    obtain ⟨j, hj, ej⟩ := List.mem_iff_getElem.1 hy
    have hp := List.pairwise_iff_getElem.1 h.pw
    rcases Nat.lt_trichotomy i j with hlt | heq | hgt
    · have := hp i j hi hj hlt; rw [ei, ej] at this; simp only [Apart] at this; omega
    · subst heq; rw [ei] at ej; subst ej; omega
    · have := hp j i hj hi hgt; rw [ei, ej] at this; simp only [Apart] at this; omega
  · rintro ⟨⟨x, hx, h1, h2⟩, h3⟩
    refine ⟨x, hx, ?_⟩
    apply Classical.byContradiction
    intro hn
    exact h3 ⟨x, hx, by omega, by omega⟩
theorem len_is (f : Int) (N : Nat) : ∀ (S : List Sp), S.Pairwise Apart → (∀ x ∈ S, f ≤ x.1 ∧ x.1 ≤ x.2 ∧ x.2 < f + N) → (S.length : Int) = cN (fun j => S.any fun x => decide (x.1 = f + (j : Int))) N
  | [], _, _ => by
    have := cN_none (fun j => ([] : List Sp).any fun x => decide (x.1 = f + (j : Int))) (fun n => rfl) N
    rw [this]; rfl
  | x :: S, hp, hb => by
    have hp' := List.pairwise_cons.1 hp
    have h1 := len_is f N S hp'.2 (fun y hy => hb y (by simp [hy]))
    have hx := hb x (by simp)
    have h2 := cN_int (x.1 - f) (x.1 - f) (by omega) (Int.le_refl _) N
    rw [if_neg (by omega)] at h2
    have h2' : cN (fun n => decide (x.1 - f ≤ (n : Int) ∧ (n : Int) ≤ x.1 - f)) N = 1 := by rw [h2]; split <;> omega
    have h3 := cN_or (fun j => decide (x.1 = f + (j : Int))) (fun j => S.any fun x => decide (x.1 = f + (j : Int))) N
    have h4 : cN (fun j => decide (x.1 = f + (j : Int))) N = 1 := by
      rw [← h2']
      refine cN_congr (fun n => ?_) N
      rw [Bool.eq_iff_iff]; simp only [decide_eq_true_eq]; omega
    rw [cN_none (fun n => decide (x.1 = f + (n : Int)) && S.any fun x => decide (x.1 = f + (n : Int))) (fun n => by
      apply Bool.eq_false_iff.2
      intro h
      simp only [Bool.and_eq_true, decide_eq_true_eq, List.any_eq_true] at h
      obtain ⟨h5, z, hz, h6⟩ := h
      have := hp'.1 z hz
      simp only [Apart] at this
      omega)] at h3
    have h5 : (fun j : Nat => (x :: S).any fun x => decide (x.1 = f + (j : Int))) = fun j : Nat => decide (x.1 = f + (j : Int)) || S.any fun x => decide (x.1 = f + (j : Int)) := by funext n; rfl
    rw [h5, List.length_cons]
    push_cast
    omega
def st (bs : List Bool) (j : Nat) : Bool := bs.getD j false && (j == 0 || !bs.getD (j - 1) false)
theorem runs_law {S : List Sp} (h : Good S) (f : Int) (bs : List Bool) (hl : bs.length = 256) (hh : ∀ n, Has S n ↔ ∃ j : Nat, n = f + j ∧ bs.getD j false = true) : (S.length : Int) = cN (st bs) 256 := by
  have hlt : ∀ j : Nat, bs.getD j false = true → j < 256 := fun j hj => by
    apply Classical.byContradiction
    intro hn
    rw [List.getD_eq_getElem?_getD, List.getElem?_eq_none (by omega)] at hj
    cases hj
  rw [len_is f 256 S h.pw (fun x hx => ?_)]
  · refine cN_congr (fun j => ?_) 256
    rw [Bool.eq_iff_iff]
    simp only [List.any_eq_true, decide_eq_true_eq]
    rw [begins h, hh, hh]
    simp only [st, Bool.and_eq_true, Bool.or_eq_true, beq_iff_eq, Bool.not_eq_true']
    constructor
    · rintro ⟨⟨i, h1, h2⟩, h3⟩
      obtain rfl : i = j := by omega
      refine ⟨h2, ?_⟩
      rcases Nat.eq_zero_or_pos i with h0 | h0
      · exact .inl h0
      · right
        cases hb : bs.getD (i - 1) false with
        | false => rfl
        | true => exact (h3 ⟨i - 1, by omega, hb⟩).elim
    · rintro ⟨h1, h2⟩
      refine ⟨⟨j, rfl, h1⟩, ?_⟩
      rintro ⟨i, h3, h4⟩
      rcases h2 with h2 | h2
      · omega
      · obtain rfl : i = j - 1 := by omega
        rw [h2] at h4
        cases h4
  · have hb := h.b x hx
    obtain ⟨i, h1, h2⟩ := (hh x.1).1 ⟨x, hx, Int.le_refl _, hb.2.1⟩
    obtain ⟨j, h3, h4⟩ := (hh x.2).1 ⟨x, hx, hb.2.1, Int.le_refl _⟩
    have := hlt j h4
    exact ⟨by omega, hb.2.1, by omega⟩
theorem zeroB (w : World) : (zeroValue 55).run Try.prog w = .ok (.agg (Array.replicate 256 (.bool false))) w := by kernel_rfl
def bcells (bs : List Bool) : Array Value := (bs.map Value.bool).toArray
theorem bcells_at {w : World} {b : Nat} {bs : List Bool} {T : TypeId} (h : w.heap[b]? = some (.cells (bcells bs) T (0, 0))) (j : Nat) (hj : j < bs.length) : w.cell? ⟨b, j, none⟩ = some (.bool (bs.getD j false)) := by
  rw [row_cell h]
  simp [bcells, hj, List.getD_eq_getElem?_getD]
theorem bcells_set {w : World} {b : Nat} {bs : List Bool} {T : TypeId} (h : w.heap[b]? = some (.cells (bcells bs) T (0, 0))) (j : Nat) (v : Bool) : (w.setCell ⟨b, j, none⟩ (.bool v)).heap[b]? = some (.cells (bcells (bs.set j v)) T (0, 0)) := by
  rw [row_set h j (.bool v)]
  simp [bcells, List.map_set]
theorem cellsB8 : Try.prog.cellsOf 5 = 1 := by kernel_rfl
theorem bytesB8 : Try.prog.bytesOf 5 = 1 := by kernel_rfl
def bc (x : Int) : List Value := [.int .u8 x]
theorem order_read {w : World} {v : Value} (h : RdV Try.prog w 54 v) : ∃ (a : Option Addr) (cap : Nat) (L : List Int), v = .slice a L.length cap ∧ Lies (fun g => w.heap.size ≤ g) w 1 (.slice a L.length cap) L.length (L.flatMap bc) ∧ ∀ x ∈ L, 0 ≤ x ∧ x ≤ 255 := by
  obtain ⟨a, len, cap, rfl, h0⟩ := h.slice Try.underlying54
  obtain ⟨l, hl, hv, hb, hq⟩ := lies_of bc 1 (fun _ => rfl) (by decide) (fun x u hu => by simp [bc] at hu; subst hu; rfl) 0 Try.underlying54 cellsB8 (fun x : Int => 0 ≤ x ∧ x ≤ 255) (fun es h1 h2 => by
    match es, h1 with
    | [x0], _ =>
      obtain ⟨n, e, hw⟩ := h2.int Try.underlying5
      simp only [List.cons.injEq, and_true] at e
      subst e
      refine ⟨n, rfl, ?_⟩
      simp [Lit.wf, IntKind.min, IntKind.max, IntKind.signed, IntKind.bits] at hw; omega) h0
  subst hl
  exact ⟨a, cap, l, rfl, hv, hq⟩
theorem bc_at (l : List Int) (i : Nat) (x : Int) (h : l[i]? = some x) : (l.flatMap bc)[i]? = some (.int .u8 x) := by
  have : l.flatMap bc = l.map (Value.int .u8) := by
    clear h
    induction l with
    | nil => rfl
    | cons y l ih => rw [List.flatMap_cons, ih]; rfl
  rw [this]; simp [h]
theorem cN_bound (p : Nat → Bool) : ∀ N : Nat, 0 ≤ cN p N ∧ cN p N ≤ N
  | 0 => by simp [cN]
  | N + 1 => by
    have := cN_bound p N
    simp only [cN]
    split <;> omega
theorem cN_succ (p : Nat → Bool) (N : Nat) : cN p (N + 1) = cN p N + (if p N = true then 1 else 0) := rfl
theorem getD_set (bs : List Bool) (x : Nat) (hx : x < bs.length) (j : Nat) : (bs.set x true).getD j false = true ↔ j = x ∨ bs.getD j false = true := by
  rw [List.getD_eq_getElem?_getD, List.getD_eq_getElem?_getD, List.getElem?_set]
  by_cases h : x = j
  · subst h; simp [hx]
  · simp [h, show ¬ j = x from fun e => h e.symm]
set_option maxRecDepth 100000 in
set_option maxHeartbeats 8000000 in
theorem few_walk (W : World) (args : Array Value) (h : RdAll Try.prog W Try.f4.params.toList args.toList) :
    Calls Try.prog 4 args W fun e W' => e = .returned (.bool true) ∧ Below W.heap.size W W' := by
  rw [Try.params4] at h
  obtain ⟨v0, v1, rfl⟩ : ∃ v0 v1, args = #[v0, v1] := by
    rcases args with ⟨_ | ⟨v0, _ | ⟨v1, _ | ⟨v2, l⟩⟩⟩⟩ <;> simp [RdAll] at h
    exact ⟨v0, v1, rfl⟩
  obtain ⟨r0, r1, _⟩ := h
  obtain ⟨f0, rfl, wf⟩ := r0.int Try.underlying23
  obtain ⟨oo, oc, L, rfl, hL, bL⟩ := order_read r1
  have hf := wf32 wf
  have HL := hid hL; have BL := hid bL
  clear r0 r1 wf hL bL
  have hzb := zeroB
  obtain ⟨f, hfe⟩ : ∃ f, f = f0 % 2147483648 := ⟨_, rfl⟩
  have hf1 : 0 ≤ f ∧ f ≤ 2147483647 := by omega
  go_enter Try.func4, Try.ntmps4
  go_wp2_with fail
  refine (awake_any _).mono ?_; rintro e w1 ⟨rfl, hk1⟩
  have K1 := hid hk1; clear hk1
  go_wp2_with fail
  refine (new_any _).mono ?_
  rintro e w2 ⟨rfl, hs2, hk2⟩
  have X2 := hid (st_new hs2); have K2 := hid hk2; clear hs2 hk2
  go_wp2_with fail
  rw [← hfe]
  have hB2 := hid ((K1.out.trans K2.out).below (B := W.heap.size) (Nat.le_refl _) (fun _ h => h.elim))
  obtain ⟨sb, hsb⟩ : ∃ sb, sb = w1.heap.size := ⟨_, rfl⟩
  have h12 := (X2.out.r _ rfl).2
  have l2 := hB2.out.size
  have T2 := hid (show SN W.heap.size (w2.alloc (.cells (bcells (List.replicate 256 false)) 55)) sb [w2.heap.size] [] from ⟨⟨_, by rw [hsb]; exact (X2.out.weak K1.out.size).same ((Kept.refl _ _).alloc _), fun g hg => by simp at hg; subst hg; exact ⟨by omega, by simp⟩⟩⟩)
  rw [show (Array.replicate 256 (Value.bool false)) = bcells (List.replicate 256 false) by unfold bcells; rw [List.map_replicate, List.toArray_replicate], ← hsb]
  obtain ⟨ib, hib⟩ : ∃ ib, ib = w2.heap.size := ⟨_, rfl⟩
  have R2 := hid (row_new w2 (.cells (bcells (List.replicate 256 false)) 55))
  have B2 := hid (hB2.out.alloc l2 (.cells (bcells (List.replicate 256 false)) 55))
  rw [← hib] at T2 R2 ⊢
  have hwib : W.heap.size ≤ ib := by omega
  clear X2 K1 K2 hzb hfe hf hB2 h12 l2 hib hsb
  go_loopw [18] (fun i wr => ∃ (k : Nat) (bs : List Bool) (S : List Sp), k ≤ L.length ∧ i = .int .i64 k ∧ Below W.heap.size W wr ∧ SN W.heap.size wr sb [ib] S ∧ wr.heap[ib]? = some (.cells (bcells bs) 55 (0, 0)) ∧ bs.length = 256 ∧ (∀ n, Has S n ↔ ∃ j : Nat, n = f + j ∧ bs.getD j false = true)) (fun i _ => L.length - (intOf i).toNat)
  case atStart => exact ⟨0, _, [], Nat.zero_le _, rfl, B2.out, T2.out, R2.out, by simp, fun n => ⟨fun ⟨x, hx, _⟩ => (nomatch hx), fun ⟨j, _, hj⟩ => by
    rw [List.getD_eq_getElem?_getD, List.getElem?_replicate] at hj
    split at hj <;> simp at hj⟩⟩
  case round =>
    clear B2 T2 R2
    obtain ⟨k, bs, S, hk, rfl, hb, hs, hr, hbl, hh⟩ := hrel
    have HB := hid hb; have HS := hid hs; have HR := hid hr; have HH := hid hh; have HBL := hid hbl
    clear hb hs hr hh hbl
    by_cases hlt : k < L.length
    · obtain ⟨g1, o1, q1, e1, m1, m2, hnF, _, z1⟩ := HL.out.cell (by omega)
      simp only [Value.slice.injEq] at e1
      obtain ⟨rfl, _, rfl⟩ := e1
      unfold maxLen at m2
      have x0 := bc_at L k L[k] (by simp [hlt])
      have y0 := (below_kept HB.out).cell (z1 _ _ x0) hnF
      have hxb := BL.out _ (List.getElem_mem hlt)
      obtain ⟨x, hx⟩ : ∃ x : Nat, L[k] = (x : Int) := ⟨(L[k]).toNat, by omega⟩
      rw [hx] at y0 hxb
      clear x0 z1 m1 hx hnF
      by_cases h300 : k < 300
      · have hki : ¬ (300 : Int) ≤ (k : Int) := by omega
        have hc : chk (f + x) (f + x) = 0 := by simp [chk]
        have hw1 : IntKind.u32.wrap (x : Int) = (x : Int) := by simp [IntKind.wrap, IntKind.bits, IntKind.signed]; omega
        have hw2 : IntKind.u32.wrap (f + (x : Int)) = f + (x : Int) := by simp [IntKind.wrap, IntKind.bits, IntKind.signed]; omega
        have hx8 : (x : Int) < 256 := by omega
        have hx9 : x < 256 := by omega
        have hlaw := add_law HS.out.s1.g (f + x) (f + x) (by omega) (by omega)
        have hh2 : ∀ n, Has (addS S (f + x) (f + x)) n ↔ ∃ j : Nat, n = f + j ∧ (bs.set x true).getD j false = true := fun n => by
          rw [hlaw.2 n, HH.out n]
          constructor
          · rintro (⟨j, h1, h2⟩ | h)
            · exact ⟨j, h1, (getD_set bs x (by have := HBL.out; omega) j).2 (.inr h2)⟩
            · exact ⟨x, by omega, (getD_set bs x (by have := HBL.out; omega) x).2 (.inl rfl)⟩
          · rintro ⟨j, h1, h2⟩
            rcases (getD_set bs x (by have := HBL.out; omega) j).1 h2 with rfl | h2
            · exact .inr (by omega)
            · exact .inl ⟨j, h1, h2⟩
        have hruns := runs_law hlaw.1 f (bs.set x true) (by rw [List.length_set]; exact HBL.out) hh2
        have HH2 := hid hh2; have HRN := hid hruns; clear hh2 hruns hlaw
        go_wp2_with fail
        refine (HS.out.add (f + x) (f + x) (by omega) (by omega)).mono ?_
        rintro e w6 ⟨rfl, hs6, hb6, hn6⟩
        rw [hc]
        have hr6 := (hn6 ib (List.mem_singleton.2 rfl)).trans HR.out
        have cx := bcells_at hr6 x (by have := HBL.out; omega)
        have fx := row_free hr6 x
        have HS7 := hid ((hs6.set (List.mem_singleton.2 rfl) x (.bool true)))
        have HB7 := hid ((HB.out.trans hb6).setCell (p := ⟨ib, x, none⟩) hwib (.bool true))
        have HR7 := hid (bcells_set hr6 x true)
        clear hs6 hb6 hn6 hr6 HS HB HR
        go_wp2_with fail
        clear cx fx
        generalize w6.setCell ⟨ib, x, none⟩ (.bool true) = W7 at HS7 HB7 HR7 ⊢
        obtain ⟨b2, hb2⟩ : ∃ b2, b2 = bs.set x true := ⟨_, rfl⟩
        have hbl2 : b2.length = 256 := by rw [hb2, List.length_set]; exact HBL.out
        rw [← hb2] at HR7 HRN HH2
        have HBL2 := hid hbl2
        obtain ⟨S2, hS2⟩ : ∃ S2, S2 = addS S (f + x) (f + x) := ⟨_, rfl⟩
        rw [← hS2] at HS7 HRN HH2
        clear hb2 hbl2 hS2
        go_loopw [9, 38] (fun r i wr => ∃ j : Nat, j ≤ 256 ∧ r = .int .i64 (cN (st b2) j) ∧ i = .int .i64 j ∧ wr = W7) (fun _ i _ => 256 - (intOf i).toNat)
        case atStart => exact ⟨0, by omega, rfl, rfl, rfl⟩
        case round =>
          obtain ⟨j, hj, rfl, rfl, rfl⟩ := hrel
          by_cases hj2 : j < 256
          · have hjI : (j : Int) < 256 := by omega
            have c1 := bcells_at HR7.out j (by have := HBL2.out; omega)
            have hbd := cN_bound (st b2) j
            have hsu := cN_succ (st b2) j
            have hw3 : IntKind.i64.wrap (cN (st b2) j + 1) = cN (st b2) j + 1 := by rw [IntKind.wrap_i64]; omega
            cases hv1 : b2.getD j false with
            | false =>
              rw [hv1] at c1
              have hst : st b2 j = false := by unfold st; rw [hv1]; rfl
              rw [if_neg (by rw [hst]; simp), Int.add_zero] at hsu
              have HSU := hid hsu
              clear hbd hsu hw3 hst hv1
              go_wp2
              go_roundw
              case rel => exact ⟨j + 1, hj2, by rw [HSU.out], by go_num, by first | rfl | trivial⟩
              case measure => simp [intOf]; omega
            | true =>
              rw [hv1] at c1
              by_cases hj0 : j = 0
              · subst hj0
                have hst : st b2 0 = true := by unfold st; rw [hv1]; rfl
                rw [if_pos hst] at hsu
                have HSU := hid hsu
                clear hbd hsu hst hv1
                go_wp2
                go_roundw
                case rel => exact ⟨0 + 1, by omega, by rw [HSU.out], by go_num, by first | rfl | trivial⟩
                case measure => simp [intOf]
              · obtain ⟨m, rfl⟩ : ∃ m, j = m + 1 := ⟨j - 1, by omega⟩
                have c2 := bcells_at HR7.out m (by have := HBL2.out; omega)
                have hz : (((m + 1 : Nat) : Int) == 0) = false := by simp; omega
                have hw4 : IntKind.i64.wrap (((m + 1 : Nat) : Int) - 1) = (m : Int) := by rw [IntKind.wrap_i64]; omega
                have hmI : (m : Int) < 256 := by omega
                cases hv2 : b2.getD m false with
                | false =>
                  rw [hv2] at c2
                  have hst : st b2 (m + 1) = true := by unfold st; rw [hv1, Nat.add_sub_cancel, hv2]; rfl
                  rw [if_pos hst] at hsu
                  have HSU := hid hsu
                  clear hbd hsu hst hv1 hv2
                  go_wp2
                  go_roundw
                  case rel => exact ⟨m + 1 + 1, by omega, by rw [HSU.out], by go_num, by first | rfl | trivial⟩
                  case measure => simp [intOf]; omega
                | true =>
                  rw [hv2] at c2
                  have hst : st b2 (m + 1) = false := by unfold st; rw [hv1, Nat.add_sub_cancel, hv2]; simp
                  rw [if_neg (by rw [hst]; simp), Int.add_zero] at hsu
                  have HSU := hid hsu
                  clear hbd hsu hst hv1 hv2
                  go_wp2
                  go_roundw
                  case rel => exact ⟨m + 1 + 1, by omega, by rw [HSU.out], by go_num, by first | rfl | trivial⟩
                  case measure => simp [intOf]; omega
          · obtain rfl : j = 256 := by omega
            have hne : ((S2.length : Int) != cN (st b2) 256) = false := by rw [HRN.out]; simp
            go_wp2_with fail
            refine (HS7.out.s1.spans).mono ?_
            rintro e w9 ⟨ao', c', rfl, _, hk9⟩
            have HS9 := hid (HS7.out.same hk9); have HB9 := hid (HB7.out.trans (hk9.below (B := W.heap.size) HB7.out.size (fun _ h => h.elim)))
            have HR9 := hid ((hk9.block ib (row_lt HR7.out) id).trans HR7.out)
            clear hk9 HS7 HB7 HR7
            go_wp2
            go_roundw
            case rel => exact ⟨k + 1, b2, S2, hlt, by go_num, HB9.out, HS9.out, HR9.out, HBL2.out, HH2.out⟩
            case measure => simp [intOf]; omega
      · have hki : (300 : Int) ≤ (k : Int) := by omega
        have hlaw := add_law HS.out.s1.g f (f + 255) (by omega) (by omega)
        have hfin : addS S f (f + 255) = [(f, f + 255)] := good_eq hlaw.1 (Good.of (by simp; omega) (List.pairwise_singleton _ _)) (fun n => by
          rw [hlaw.2 n, has_one, HH.out]
          constructor
          · rintro (⟨j, rfl, hj⟩ | h)
            · have hj2 : j < 256 := by
                apply Classical.byContradiction
                intro hn
                rw [List.getD_eq_getElem?_getD, List.getElem?_eq_none (by have := HBL.out; omega)] at hj
                cases hj
              simp only; omega
            · exact h
          · exact .inr)
        have HFIN := hid hfin; clear hfin hlaw
        have hc : chk f (f + 255) = 0 := by simp [chk]; omega
        have hw : IntKind.u32.wrap (f + 255) = f + 255 := by simp [IntKind.wrap, IntKind.bits, IntKind.signed]; omega
        go_wp2_with fail
        refine (HS.out.s1.add f (f + 255) (by omega) (by omega)).mono ?_
        rintro e w8 ⟨rfl, hs, hb⟩
        rw [hc]
        rw [HFIN.out] at hs
        have H8 := hid hs; have B8 := hid (HB.out.trans hb)
        clear hs hb
        go_wp2_with fail
        refine (H8.out.spans).mono ?_
        rintro e w9 ⟨ao', c', rfl, hfr, hk⟩
        have HF9 := hid hfr
        have H9 := hid (H8.out.same hk); have B9 := hid (B8.out.trans (hk.below (B := W.heap.size) B8.out.size (fun _ h => h.elim)))
        clear hk H8 B8 hfr
        go_wp2_with fail
        refine (conv_any HF9.out.lies (by simp)).mono ?_
        rintro e w10 ⟨v, rfl, hfr, hk⟩
        have HF10 := hid hfr
        have H10 := hid (H9.out.same hk); have B10 := hid (B9.out.trans (hk.below (B := W.heap.size) B9.out.size (fun _ h => h.elim)))
        clear hk H9 B9 hfr HF9
        go_wp2_with fail
        refine (same_any (F := fun _ => False) (G := fun _ => False) (l := [(f, f + 255)]) ((HF10.out.lies.kept (((Kept.refl (fun _ => False) w10).alloc _)) (fun _ _ h => h.elim)).mono (fun _ _ h => h.elim)) (lies_lit (row_new _ _) rfl (by simp) (by decide))).mono ?_
        rintro e w11 ⟨rfl, hk⟩
        have H11 := hid (H10.out.same (((Kept.refl (fun _ => False) w10).alloc _).trans hk))
        have B11 := hid (B10.out.trans ((((Kept.refl (fun _ => False) w10).alloc _).trans hk).below (B := W.heap.size) B10.out.size (fun _ h => h.elim)))
        clear hk H10 B10 HF10
        go_wp2_with fail
        refine (H11.out.count).mono ?_
        rintro e w12 ⟨rfl, hk⟩
        have B12 := hid (B11.out.trans (hk.below (B := W.heap.size) B11.out.size (fun _ h => h.elim)))
        have hcn : cntS [(f, f + 255)] = 256 := by simp only [cntS]; omega
        rw [hcn]
        clear hk
        go_wp2
        go_ret
        exact ⟨rfl, B12.out⟩
    · obtain rfl : k = L.length := by omega
      have hlaw := add_law HS.out.s1.g f (f + 255) (by omega) (by omega)
      have hfin : addS S f (f + 255) = [(f, f + 255)] := good_eq hlaw.1 (Good.of (by simp; omega) (List.pairwise_singleton _ _)) (fun n => by
        rw [hlaw.2 n, has_one, HH.out]
        constructor
        · rintro (⟨j, rfl, hj⟩ | h)
          · have hj2 : j < 256 := by
              apply Classical.byContradiction
              intro hn
              rw [List.getD_eq_getElem?_getD, List.getElem?_eq_none (by have := HBL.out; omega)] at hj
              cases hj
            simp only; omega
          · exact h
        · exact .inr)
      have HFIN := hid hfin; clear hfin hlaw
      have hc : chk f (f + 255) = 0 := by simp [chk]; omega
      have hw : IntKind.u32.wrap (f + 255) = f + 255 := by simp [IntKind.wrap, IntKind.bits, IntKind.signed]; omega
      go_wp2_with fail
      refine (HS.out.s1.add f (f + 255) (by omega) (by omega)).mono ?_
      rintro e w8 ⟨rfl, hs, hb⟩
      rw [hc]
      rw [HFIN.out] at hs
      have H8 := hid hs; have B8 := hid (HB.out.trans hb)
      clear hs hb
      go_wp2_with fail
      refine (H8.out.spans).mono ?_
      rintro e w9 ⟨ao', c', rfl, hfr, hk⟩
      have HF9 := hid hfr
      have H9 := hid (H8.out.same hk); have B9 := hid (B8.out.trans (hk.below (B := W.heap.size) B8.out.size (fun _ h => h.elim)))
      clear hk H8 B8 hfr
      go_wp2_with fail
      refine (conv_any HF9.out.lies (by simp)).mono ?_
      rintro e w10 ⟨v, rfl, hfr, hk⟩
      have HF10 := hid hfr
      have H10 := hid (H9.out.same hk); have B10 := hid (B9.out.trans (hk.below (B := W.heap.size) B9.out.size (fun _ h => h.elim)))
      clear hk H9 B9 hfr HF9
      go_wp2_with fail
      refine (same_any (F := fun _ => False) (G := fun _ => False) (l := [(f, f + 255)]) ((HF10.out.lies.kept (((Kept.refl (fun _ => False) w10).alloc _)) (fun _ _ h => h.elim)).mono (fun _ _ h => h.elim)) (lies_lit (row_new _ _) rfl (by simp) (by decide))).mono ?_
      rintro e w11 ⟨rfl, hk⟩
      have H11 := hid (H10.out.same (((Kept.refl (fun _ => False) w10).alloc _).trans hk))
      have B11 := hid (B10.out.trans ((((Kept.refl (fun _ => False) w10).alloc _).trans hk).below (B := W.heap.size) B10.out.size (fun _ h => h.elim)))
      clear hk H10 B10 HF10
      go_wp2_with fail
      refine (H11.out.count).mono ?_
      rintro e w12 ⟨rfl, hk⟩
      have B12 := hid (B11.out.trans (hk.below (B := W.heap.size) B11.out.size (fun _ h => h.elim)))
      have hcn : cntS [(f, f + 255)] = 256 := by simp only [cntS]; omega
      rw [hcn]
      clear hk
      go_wp2
      go_ret
      exact ⟨rfl, B12.out⟩
end Go.Proofs.Ytglcpiokmieppaa
