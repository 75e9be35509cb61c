/- Of; count; a set and what is not of it; the plain law of SpanBack. -/
import Derived.Test.YtglcpiokmieppaaS
namespace Go.Proofs.Ytglcpiokmieppaa
open Go.RowKit

theorem Lies.here {F : Nat → Prop} {w : World} {size : Nat} {v : Value} {m : Nat} {news : List Value} (h : Lies F w size v m news) : Lies (fun g => w.heap.size ≤ g) w size v m news := h.mono (fun g h1 h2 => by omega)
def okL (L : List Sp) : Bool := L.all fun x => decide (x.1 ≤ x.2)
def OfPost (w : World) (L : List Sp) (e : Ending) (w' : World) : Prop :=
  (okL L = true → ∃ sb, e = .returned (.tuple #[.pointer (some ⟨sb, 0, none⟩), .int .i64 0]) ∧ S1 w.heap.size w' sb (addAll [] L)) ∧ (okL L = false → e = .returned (.tuple #[.pointer none, .int .i64 1])) ∧ Kept (fun _ => False) w w'
theorem okL_take (L : List Sp) (k : Nat) (h : okL (L.take k) = true) (hk : k < L.length) : okL (L.take (k + 1)) = decide (L[k].1 ≤ L[k].2) := by
  unfold okL at h ⊢
  rw [List.take_succ_eq_append_getElem hk, List.all_append, h]
  simp
theorem okL_false (L : List Sp) (k : Nat) (h : okL (L.take k) = false) : okL L = false := by
  unfold okL at h ⊢
  rw [← List.take_append_drop k L, List.all_append, h]
  rfl
set_option maxRecDepth 100000 in
set_option maxHeartbeats 2000000 in
theorem of_any {F : Nat → Prop} {w : World} {v : Value} {L : List Sp} (h : Lies F w 2 v L.length (scells L)) (hb : ∀ x ∈ L, B32 x) : Calls Try.prog 24 #[v] w (OfPost w L) := by
  have HA := hid h.here
  have HB := hid hb
  obtain ⟨a1, c1, rfl, m1, m2, _⟩ := h
  unfold maxLen at m2
  clear hb
  go_enter Try.func24, Try.ntmps24
  go_wp2_with fail
  refine (new_any _).mono ?_
  rintro e w1 ⟨rfl, hs, hk⟩
  have H1 := hid (show S1 w.heap.size w1 w.heap.size [] from ⟨_, st_new hs⟩)
  have B1 := hid (hk.below (B := w.heap.size) (Nat.le_refl _) (fun _ h => h.elim))
  clear hs hk
  go_wp2_with fail
  obtain ⟨sb, hsb⟩ : ∃ sb, sb = w.heap.size := ⟨_, rfl⟩
  rw [← hsb]
  have H1 : Hid (S1 w.heap.size w1 sb []) := by rw [hsb]; exact H1
  clear hsb
  go_loopw [11] (fun i wr => ∃ k : Nat, k ≤ L.length ∧ i = .int .i64 k ∧ okL (L.take k) = true ∧ S1 w.heap.size wr sb (addAll [] (L.take k)) ∧ Below w.heap.size w wr) (fun i _ => L.length - (intOf i).toNat)
  case atStart => exact ⟨0, Nat.zero_le _, rfl, rfl, H1.out, B1.out⟩
  case round =>
    clear H1 B1
    obtain ⟨k, hk, rfl, hok, hs, hbl⟩ := hrel
    have HS := hid hs; have BL := hid hbl; have HOK := hid hok; clear hs hbl hok
    by_cases hlt : k < L.length
    · obtain ⟨g1, o1, q1, e1, n1, _, hnF, _, z1⟩ := HA.out.cell (by omega)
      simp only [Value.slice.injEq] at e1
      obtain ⟨rfl, _, rfl⟩ := e1
      obtain ⟨x0, x1⟩ := scells_at L k L[k] (by simp [hlt])
      have y0 := (below_kept BL.out).cell (z1 _ _ x0) hnF
      have y1 := (below_kept BL.out).cell (z1 _ _ x1) hnF
      have hb := HB.out _ (List.getElem_mem hlt)
      have htk : addAll [] (L.take (k + 1)) = addS (addAll [] (L.take k)) L[k].1 L[k].2 := by rw [List.take_succ_eq_append_getElem hlt, addAll_snoc]
      have hok2 := okL_take L k HOK.out hlt
      obtain ⟨⟨a, b⟩, hab⟩ : ∃ s, L[k] = s := ⟨_, rfl⟩
      rw [hab] at y0 y1 hb htk hok2
      obtain ⟨b1, b2, b3, b4⟩ := hb
      simp only [← Nat.add_assoc] at y0 y1 htk hok2 b1 b2 b3 b4
      have HTK := hid htk; have HOK2 := hid hok2
      clear x0 x1 z1 n1 hab htk hok2 hnF
      go_wp2_with fail
      refine ((HS.out.same ((Kept.refl (fun _ => False) wr).alloc (.cells #[.int .u32 a, .int .u32 b] 46))).add a b b1 b4).mono ?_
      rintro e w6 ⟨rfl, hs6, hb6⟩
      have HS6 := hid hs6; have BL6 := hid ((BL.out.alloc BL.out.size _).trans hb6); clear hs6 hb6 HS BL
      by_cases hle : b < a
      · have hc : chk a b = 1 := by simp [chk, hle]
        rw [hc]
        have hbad : okL L = false := okL_false L (k + 1) (by rw [HOK2.out]; simp; omega)
        have HBAD := hid hbad; clear hbad
        go_wp2
        go_ret2
        exact ⟨fun h => (by rw [HBAD.out] at h; cases h), fun _ => rfl, Kept.of_below BL6.out _⟩
      · have hc : chk a b = 0 := by simp [chk, hle]
        rw [hc]
        have hgood : okL (L.take (k + 1)) = true := by rw [HOK2.out]; simp; omega
        have HGD := hid hgood; clear hgood
        go_wp2
        go_roundw
        case rel => exact ⟨k + 1, hlt, by go_num, HGD.out, by rw [HTK.out]; exact HS6.out, BL6.out⟩
        case measure => simp [intOf]; omega
    · obtain rfl : k = L.length := by omega
      have ht : L.take L.length = L := List.take_length
      have HT := hid ht; clear ht
      go_wp2
      go_ret2
      refine ⟨fun _ => ⟨sb, rfl, by have := HS.out; rw [HT.out] at this; exact this⟩, fun h => ?_, Kept.of_below BL.out _⟩
      have := HOK.out
      rw [HT.out, h] at this
      cases this
set_option maxRecDepth 100000 in
set_option maxHeartbeats 1000000 in
theorem cnt_any {F : Nat → Prop} {w : World} {v : Value} {S : List Sp} (h : Lies F w 2 v S.length (scells S)) (hg : Good S) : Calls Try.prog 18 #[v] w fun e w' => e = .returned (.int .u64 (cntS S)) ∧ Kept (fun _ => False) w w' := by
  have HA := hid h
  have HG := hid hg
  obtain ⟨a1, c1, rfl, m1, m2, _⟩ := h
  unfold maxLen at m2
  clear hg
  go_enter Try.func18, Try.ntmps18
  go_wp2_with fail
  go_loopw [3, 8] (fun n i wr => ∃ k : Nat, k ≤ S.length ∧ n = .int .u64 (cntS (S.take k)) ∧ i = .int .i64 k ∧ Kept (fun _ => False) w wr) (fun _ i _ => S.length - (intOf i).toNat)
  case atStart => exact ⟨0, Nat.zero_le _, by simp [cntS], rfl, Kept.refl _ _⟩
  case round =>
    obtain ⟨k, hkl, rfl, rfl, hk⟩ := hrel
    have HK := hid hk; clear hk
    by_cases hlt : k < S.length
    · obtain ⟨g1, o1, q1, e1, n1, _, _, _, z1⟩ := HA.out.cell (by omega)
      simp only [Value.slice.injEq] at e1
      obtain ⟨rfl, _, rfl⟩ := e1
      obtain ⟨x0, x1⟩ := scells_at S k S[k] (by simp [hlt])
      have y0 := HK.out.cell (z1 _ _ x0) id
      have y1 := HK.out.cell (z1 _ _ x1) id
      obtain ⟨t1, t2, t3⟩ := HG.out.cnt_take k hlt
      have hb := HG.out.b _ (List.getElem_mem hlt)
      obtain ⟨⟨p, q⟩, hsx⟩ : ∃ sx, S[k]'hlt = sx := ⟨_, rfl⟩
      rw [hsx] at y0 y1 t2 hb
      simp only [← Nat.add_assoc] at y0 y1 t2 hb
      have HT := hid t2; clear hsx x0 x1 z1 n1
      have w0 : IntKind.u64.wrap p = p := by simp [IntKind.wrap, IntKind.bits, IntKind.signed]; omega
      have w1 : IntKind.u64.wrap q = q := by simp [IntKind.wrap, IntKind.bits, IntKind.signed]; omega
      have w2' : IntKind.u64.wrap (q - p) = q - p := by simp [IntKind.wrap, IntKind.bits, IntKind.signed]; omega
      have w3' : IntKind.u64.wrap (q - p + 1) = q - p + 1 := by simp [IntKind.wrap, IntKind.bits, IntKind.signed]; omega
      have w4' : IntKind.u64.wrap (cntS (S.take k) + (q - p + 1)) = cntS (S.take k) + (q - p + 1) := by simp [IntKind.wrap, IntKind.bits, IntKind.signed]; omega
      clear t2
      go_wp2
      go_roundw
      case rel => exact ⟨k + 1, hlt, by rw [← HT.out], by go_num, HK.out.alloc _⟩
      case measure => simp [intOf]; omega
    · obtain rfl : k = S.length := by omega
      have ht : S.take S.length = S := List.take_length
      have HT := hid ht; clear ht
      go_wp2
      go_ret
      exact ⟨congrArg (fun n => Ending.returned (.int .u64 n)) (by rw [HT.out]), HK.out⟩
/-- a set, and blocks N that are not of it -/
def SP (B : Nat) (w : World) (sb : Nat) (N : Nat → Prop) (S : List Sp) : Prop := ∃ F, St B F w sb S ∧ ∀ g, N g → ¬ F g ∧ g < w.heap.size
theorem SP.s1 {B : Nat} {w : World} {sb : Nat} {N : Nat → Prop} {S : List Sp} (h : SP B w sb N S) : S1 B w sb S := by obtain ⟨F, h, _⟩ := h; exact ⟨F, h⟩
/-- what is new is not of it -/
theorem SP.same {B : Nat} {w w' : World} {sb : Nat} {N : Nat → Prop} {S : List Sp} (h : SP B w sb N S) (k : Kept (fun _ => False) w w') : SP B w' sb (fun g => N g ∨ (w.heap.size ≤ g ∧ g < w'.heap.size)) S := by
  obtain ⟨F, h, hn⟩ := h
  refine ⟨F, h.same k, fun g hg => ?_⟩
  rcases hg with hg | hg
  · exact ⟨(hn g hg).1, Nat.lt_of_lt_of_le (hn g hg).2 k.size⟩
  · exact ⟨fun hf => by have := (h.r g hf).2; omega, hg.2⟩
theorem SP.keep {B : Nat} {w w' : World} {sb : Nat} {N : Nat → Prop} {S : List Sp} (h : SP B w sb N S) (k : Kept (fun _ => False) w w') : SP B w' sb N S := by
  obtain ⟨F, h, hn⟩ := h
  exact ⟨F, h.same k, fun g hg => ⟨(hn g hg).1, Nat.lt_of_lt_of_le (hn g hg).2 k.size⟩⟩
def SPPost (B : Nat) (w : World) (sb : Nat) (N : Nat → Prop) (a b : Int) (S : List Sp) (e : Ending) (w' : World) : Prop :=
  e = .returned (.int .i64 (chk a b)) ∧ SP B w' sb N S ∧ Below B w w' ∧ Kept (fun g => ¬ N g) w w'
theorem SP.post {B : Nat} {F : Nat → Prop} {w : World} {sb : Nat} {N : Nat → Prop} {S S' : List Sp} (h : St B F w sb S) (hn : ∀ g, N g → ¬ F g ∧ g < w.heap.size) {a b : Int} {e : Ending} {w' : World} (hp : StPost B F w sb a b S' e w') : SPPost B w sb N a b S' e w' := by
  obtain ⟨h1, F', h2, h3, h4⟩ := hp
  refine ⟨h1, ⟨F', h2, fun g hg => ⟨fun hf => ?_, Nat.lt_of_lt_of_le (hn g hg).2 h4.size⟩⟩, h4.below h.B (fun i hi => (h.r i hi).1), h4.mono (fun i _ hf hN => (hn i hN).1 hf)⟩
  rcases h3 g hf with hf | hf
  · exact (hn g hg).1 hf
  · have := (hn g hg).2; omega
theorem SP.add {B : Nat} {w : World} {sb : Nat} {N : Nat → Prop} {S : List Sp} (h : SP B w sb N S) (a b : Int) (ha : 0 ≤ a) (hb : b ≤ 4294967295) :
    Calls Try.prog 10 #[.pointer (some ⟨sb, 0, none⟩), .int .u32 a, .int .u32 b] w (SPPost B w sb N a b (addS S a b)) := by
  obtain ⟨F, h, hn⟩ := h
  exact (h.add a b ha hb).mono fun _ _ hp => SP.post h hn hp
theorem SP.drop {B : Nat} {w : World} {sb : Nat} {N : Nat → Prop} {S : List Sp} (h : SP B w sb N S) (a b : Int) (ha : 0 ≤ a) (hb : b ≤ 4294967295) :
    Calls Try.prog 11 #[.pointer (some ⟨sb, 0, none⟩), .int .u32 a, .int .u32 b] w (SPPost B w sb N a b (dropS S a b)) := by
  obtain ⟨F, h, hn⟩ := h
  exact (h.drop a b ha hb).mono fun _ _ hp => SP.post h hn hp
/-- another set, all of blocks N -/
def SetN (N : Nat → Prop) (w : World) (sb : Nat) (S : List Sp) : Prop := ∃ F, SetAt F w sb S ∧ ∀ g, F g → N g
theorem SetN.kept {N : Nat → Prop} {w w' : World} {sb : Nat} {S : List Sp} (h : SetN N w sb S) (k : Kept (fun g => ¬ N g) w w') : SetN N w' sb S := by
  obtain ⟨F, h, hn⟩ := h
  exact ⟨F, h.kept k (fun g hf hx => hx (hn g hf)), hn⟩
theorem SetN.wide {N M : Nat → Prop} {w w' : World} {sb : Nat} {S : List Sp} (h : SetN N w sb S) (k : Kept (fun _ => False) w w') (hM : ∀ g, N g → M g) : SetN M w' sb S := by
  obtain ⟨F, h, hn⟩ := h
  exact ⟨F, h.kept k (fun _ _ h => h), fun g hf => hM g (hn g hf)⟩
theorem S1.setN {B : Nat} {w : World} {sb : Nat} {S : List Sp} (h : S1 B w sb S) {N : Nat → Prop} (hN : ∀ g, B ≤ g → g < w.heap.size → N g) : SetN N w sb S := by
  obtain ⟨F, h⟩ := h
  exact ⟨F, h.s, fun g hf => hN g (h.r g hf).1 (h.r g hf).2⟩
theorem Lies.wide {N M : Nat → Prop} {w w' : World} {size : Nat} {v : Value} {m : Nat} {news : List Value} (h : Lies (fun g => ¬ N g) w size v m news) (k : Kept (fun _ => False) w w') (hM : ∀ g, N g → M g) : Lies (fun g => ¬ M g) w' size v m news :=
  (h.mono (fun g _ h1 h2 => h1 (hM g h2))).kept k (fun _ _ h => h.elim)
theorem Lies.still {N : Nat → Prop} {w w' : World} {size : Nat} {v : Value} {m : Nat} {news : List Value} (h : Lies (fun g => ¬ N g) w size v m news) (k : Kept (fun g => ¬ N g) w w') : Lies (fun g => ¬ N g) w' size v m news := h.kept k (fun _ _ h => h)
theorem cN_mono {p q : Nat → Bool} (h : ∀ n, p n = true → q n = true) : ∀ N, cN p N ≤ cN q N
  | 0 => Int.le_refl _
  | N + 1 => by
    have := cN_mono h N
    simp only [cN]
    by_cases hp : p N = true
    · rw [if_pos hp, if_pos (h N hp)]; omega
    · rw [if_neg hp]; split <;> omega
theorem back_law {S : List Sp} (hS : Good S) (a b : Int) (ha : 0 ≤ a) (hab : a ≤ b) (hb : b ≤ 4294967295) :
    addAll [] [(a, b)] = [(a, b)] ∧ addAll (dropS (addS S a b) a b) (meet S [(a, b)]) = S ∧ cntS (meet S [(a, b)]) ≤ cntS [(a, b)] ∧ Good [(a, b)] ∧ ∀ x ∈ meet S [(a, b)], B32 x ∧ x.1 ≤ x.2 := by
  have g1 : Good [(a, b)] := Good.of (by simp; omega) (List.pairwise_singleton _ _)
  have l0 := addAll_law [(a, b)] [] Good.nil (by simp [B32]; omega)
  have l1 := add_law hS a b ha hb
  have l2 := drop_law l1.1 a b ha hb
  have lm := meet_law hS g1
  have hB : ∀ x ∈ meet S [(a, b)], B32 x ∧ x.1 ≤ x.2 := fun x hx => by have := lm.1.b x hx; simp only [B32]; omega
  have l3 := addAll_law (meet S [(a, b)]) _ l2.1 (fun x hx => (hB x hx).1)
  refine ⟨good_eq l0.1 g1 (fun n => by rw [l0.2 n]; simp [Has]), good_eq l3.1 hS (fun n => ?_), ?_, g1, hB⟩
  · rw [l3.2 n, l2.2 n, l1.2 n, lm.2 n, has_one]
    simp only []
    constructor
    · rintro (⟨h | h, h2⟩ | ⟨h, _⟩)
      · exact h
      · exact (h2 h).elim
      · exact h
    · intro h
      by_cases hx : a ≤ n ∧ n ≤ b
      · exact .inr ⟨h, hx⟩
      · exact .inl ⟨.inl h, hx⟩
  · rw [lm.1.cntIs, g1.cntIs]
    exact cN_mono (fun n hn => by rw [hasS_iff] at hn ⊢; exact ((lm.2 n).1 hn).2) _
end Go.Proofs.Ytglcpiokmieppaa
