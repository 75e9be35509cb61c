/- The walk of SpanPlays. -/
import Derived.Test.YtglcpiokmieppaaSb
namespace Go.Proofs.Ytglcpiokmieppaa
open Go.RowKit

theorem cellsD3 : Try.prog.cellsOf 33 = 3 := by kernel_rfl
theorem cellsBo : Try.prog.cellsOf 4 = 1 := by kernel_rfl
theorem bytesD3 : Try.prog.bytesOf 33 = 12 := by kernel_rfl
abbrev BD32 (d : Dd) : Prop := 0 ≤ d.1 ∧ d.1 ≤ 4294967295 ∧ 0 ≤ d.2.1 ∧ d.2.1 ≤ 4294967295
theorem deed_read {w : World} {es : List Value} (hl : es.length = 3) (h : Rd Try.prog w 33 es) : ∃ x : Dd, es = dcell x ∧ BD32 x := by
  match es, hl with
  | [x0, x1, x2], _ =>
    have h0 : Rd Try.prog w 31 [x0, x1] := h.field Try.underlying33 0 31 0 2 rfl cellsR2
    have h2 : Rd Try.prog w 4 [x2] := h.field Try.underlying33 1 4 2 1 rfl cellsBo
    obtain ⟨x, e, hx⟩ := span_read rfl h0
    obtain ⟨b, e2⟩ := h2.bool Try.underlying4
    simp only [scell, List.cons.injEq, and_true] at e e2
    obtain ⟨rfl, rfl⟩ := e
    subst e2
    exact ⟨(x.1, x.2, b), rfl, hx⟩
theorem script_read {w : World} {v : Value} (h : RdV Try.prog w 22 v) : ∃ (a : Option Addr) (cap : Nat) (L : List Dd), v = .slice a L.length cap ∧ Lies (fun g => w.heap.size ≤ g) w 3 (.slice a L.length cap) L.length (dcells L) ∧ L.length ≤ 17592186043904 ∧ ∀ x ∈ L, BD32 x := by
  obtain ⟨a, len, cap, rfl, h0⟩ := h.slice Try.underlying22
  obtain ⟨l, hl, hv, hb, hq⟩ := lies_of dcell 3 (fun _ => rfl) (by decide) (fun x u hu => dcells_one [x] u (by simpa [dcells] using hu)) (0, 0, false) Try.underlying22 cellsD3 BD32 (fun es h1 h2 => deed_read h1 h2) h0
  subst hl
  rw [bytesD3] at hb
  simp only [reachBytes] at hb
  exact ⟨a, cap, l, rfl, hv, by omega, hq⟩
/-- a set and the document's beside it, apart -/
structure Pl (B : Nat) (w : World) (sb rb : Nat) (N : Nat → Prop) (S : List Sp) (D : List Dd) : Prop where
  ex : ∃ F G, St B F w sb S ∧ RefAt G w rb D ∧ (∀ g, G g → B ≤ g ∧ g < w.heap.size) ∧ (∀ g, F g → ¬ G g) ∧ ∀ g, N g → ¬ F g ∧ ¬ G g ∧ g < w.heap.size
theorem Pl.same {B : Nat} {w w' : World} {sb rb : Nat} {N : Nat → Prop} {S : List Sp} {D : List Dd} (h : Pl B w sb rb N S D) (k : Kept (fun _ => False) w w') : Pl B w' sb rb N S D := by
  obtain ⟨F, G, h1, h2, h3, h4, h5⟩ := h
  exact ⟨F, G, h1.same k, h2.kept k (fun _ _ h => h), fun g hg => ⟨(h3 g hg).1, Nat.lt_of_lt_of_le (h3 g hg).2 k.size⟩, h4, fun g hg => ⟨(h5 g hg).1, (h5 g hg).2.1, Nat.lt_of_lt_of_le (h5 g hg).2.2 k.size⟩⟩
theorem Pl.wide {B : Nat} {w w' : World} {sb rb : Nat} {N : Nat → Prop} {S : List Sp} {D : List Dd} (h : Pl B w sb rb N S D) (k : Kept (fun _ => False) w w') : Pl B w' sb rb (fun g => w.heap.size ≤ g ∧ g < w'.heap.size) S D := by
  obtain ⟨F, G, h1, h2, h3, h4, h5⟩ := h
  exact ⟨F, G, h1.same k, h2.kept k (fun _ _ h => h), fun g hg => ⟨(h3 g hg).1, Nat.lt_of_lt_of_le (h3 g hg).2 k.size⟩, h4, fun g hg => ⟨fun hf => by have := (h1.r g hf).2; omega, fun hf => by have := (h3 g hf).2; omega, hg.2⟩⟩
theorem Pl.s1 {B : Nat} {w : World} {sb rb : Nat} {N : Nat → Prop} {S : List Sp} {D : List Dd} (h : Pl B w sb rb N S D) : S1 B w sb S := by
  obtain ⟨F, G, h1, _⟩ := h; exact ⟨F, h1⟩
theorem Pl.rs {B : Nat} {w : World} {sb rb : Nat} {N : Nat → Prop} {S : List Sp} {D : List Dd} (h : Pl B w sb rb N S D) (hb : Bd D) (hl : D.length ≤ 1000000) : RsAt w [(rb, D)] := by
  obtain ⟨F, G, _, h2, _⟩ := h
  intro r hr
  simp at hr; subst hr
  exact ⟨⟨G, h2⟩, hb, hl⟩
def PlPost (B : Nat) (w : World) (sb rb : Nat) (N : Nat → Prop) (a b : Int) (S : List Sp) (D : List Dd) (e : Ending) (w' : World) : Prop :=
  e = .returned (.int .i64 (chk a b)) ∧ Pl B w' sb rb N S D ∧ Below B w w' ∧ Kept (fun g => ¬ N g) w w'
theorem Pl.post {B : Nat} {F G : Nat → Prop} {w : World} {sb rb : Nat} {N : Nat → Prop} {S S' : List Sp} {D : List Dd} (h1 : St B F w sb S) (h2 : RefAt G w rb D) (h3 : ∀ g, G g → B ≤ g ∧ g < w.heap.size) (h4 : ∀ g, F g → ¬ G g) (h5 : ∀ g, N g → ¬ F g ∧ ¬ G g ∧ g < w.heap.size) {a b : Int} {e : Ending} {w' : World} (hp : StPost B F w sb a b S' e w') : PlPost B w sb rb N a b S' D e w' := by
  obtain ⟨p1, F', p2, p3, p4⟩ := hp
  refine ⟨p1, ⟨F', G, p2, h2.kept p4 (fun g hg hf => h4 g hf hg), fun g hg => ⟨(h3 g hg).1, Nat.lt_of_lt_of_le (h3 g hg).2 p4.size⟩, fun g hf hg => ?_, fun g hg => ⟨fun hf => ?_, (h5 g hg).2.1, Nat.lt_of_lt_of_le (h5 g hg).2.2 p4.size⟩⟩, p4.below h1.B (fun i hi => (h1.r i hi).1), p4.mono (fun i _ hf hN => (h5 i hN).1 hf)⟩
  · rcases p3 g hf with hf | hf
    · exact h4 g hf hg
    · have := (h3 g hg).2; omega
  · rcases p3 g hf with hf | hf
    · exact (h5 g hg).1 hf
    · have := (h5 g hg).2.2; omega
theorem Pl.add {B : Nat} {w : World} {sb rb : Nat} {N : Nat → Prop} {S : List Sp} {D : List Dd} (h : Pl B w sb rb N S D) (a b : Int) (ha : 0 ≤ a) (hb : b ≤ 4294967295) :
    Calls Try.prog 10 #[.pointer (some ⟨sb, 0, none⟩), .int .u32 a, .int .u32 b] w (PlPost B w sb rb N a b (addS S a b) D) := by
  obtain ⟨F, G, h1, h2, h3, h4, h5⟩ := h
  exact (h1.add a b ha hb).mono fun _ _ hp => Pl.post h1 h2 h3 h4 h5 hp
theorem Pl.drop {B : Nat} {w : World} {sb rb : Nat} {N : Nat → Prop} {S : List Sp} {D : List Dd} (h : Pl B w sb rb N S D) (a b : Int) (ha : 0 ≤ a) (hb : b ≤ 4294967295) :
    Calls Try.prog 11 #[.pointer (some ⟨sb, 0, none⟩), .int .u32 a, .int .u32 b] w (PlPost B w sb rb N a b (dropS S a b) D) := by
  obtain ⟨F, G, h1, h2, h3, h4, h5⟩ := h
  exact (h1.drop a b ha hb).mono fun _ _ hp => Pl.post h1 h2 h3 h4 h5 hp
theorem Pl.do {B : Nat} {w : World} {sb rb : Nat} {N : Nat → Prop} {S : List Sp} {D : List Dd} (h : Pl B w sb rb N S D) (hn : D.length ≤ 1000000) (a b : Int) (i : Bool) :
    Calls Try.prog 12 #[.pointer (some ⟨rb, 0, none⟩), .int .u32 a, .int .u32 b, .bool i] w (PlPost B w sb rb N a b S (doD D a b i)) := by
  obtain ⟨F, G, h1, h2, h3, h4, h5⟩ := h
  refine (do_any h2 hn a b i).mono ?_
  rintro e w' ⟨p1, p2, p4⟩
  have hB := h1.B
  refine ⟨p1, ⟨F, _, h1.kept p4 (fun g hf hg => h4 g hf hg), p2.lt, fun g hg => ⟨?_, hg.2⟩, fun g hf hg => ?_, fun g hg => ⟨(h5 g hg).1, fun hf => ?_, Nat.lt_of_lt_of_le (h5 g hg).2.2 p4.size⟩⟩, p4.below hB (fun i hi => (h3 i hi).1), p4.mono (fun i _ hf hN => (h5 i hN).2.1 hf)⟩
  · rcases hg.1 with hg | hg
    · exact (h3 g hg).1
    · omega
  · rcases hg.1 with hg | hg
    · exact h4 g hf hg
    · have := (h1.r g hf).2; omega
  · rcases hf.1 with hf | hf
    · exact (h5 g hg).2.1 hf
    · have := (h5 g hg).2.2; omega
theorem Pl.far {B : Nat} {w w' : World} {sb rb : Nat} {N : Nat → Prop} {S : List Sp} {D : List Dd} (h : Pl B w sb rb N S D) (k : Below w.heap.size w w') : Pl B w' sb rb (fun _ => False) S D := by
  obtain ⟨F, G, h1, h2, h3, h4, h5⟩ := h
  exact ⟨F, G, h1.kept (below_kept k) (fun g hf hx => by have := (h1.r g hf).2; omega), h2.kept (below_kept k) (fun g hg hx => by have := (h3 g hg).2; omega), fun g hg => ⟨(h3 g hg).1, Nat.lt_of_lt_of_le (h3 g hg).2 k.size⟩, h4, fun _ h => h.elim⟩
/-- the set is the document's -/
structure Tie (S : List Sp) (D : List Dd) : Prop where
  g : Good S
  b : Bd D
  h : ∀ n, Has S n ↔ 0 ≤ n ∧ n ≤ 4294967295 ∧ hasD D n = true
theorem Tie.spans {S : List Sp} {D : List Dd} (h : Tie S D) (rb : Nat) : spansD [(rb, D)] = S := by
  have h1 := spansD_law [(rb, D)] (fun r hr => by simp at hr; subst hr; exact h.b)
  refine good_eq h1.1 h.g (fun n => ?_)
  rw [h1.2 n, h.h n]
  have h3 : allB [(rb, D)] n = hasD D n := by simp [allB]
  rw [h3]
theorem Tie.has {S : List Sp} {D : List Dd} (h : Tie S D) (n : Int) (h0 : 0 ≤ n) (h1 : n ≤ 4294967295) : hasB S n = hasD D n := by
  rw [Bool.eq_iff_iff, has_iff h.g, h.h n]
  exact ⟨fun h => h.2.2, fun h => ⟨h0, h1, h⟩⟩
theorem tie_step {S : List Sp} {D : List Dd} (h : Tie S D) (a b : Int) (i : Bool) (ha : 0 ≤ a) (hb : b ≤ 4294967295) :
    Tie (if i = true then addS S a b else dropS (addS S a b) a b) (doD D a b i) := by
  have l1 := add_law h.g a b ha hb
  have l2 := drop_law l1.1 a b ha hb
  by_cases hab : b < a
  · have e1 : addS S a b = S := addS_none _ _ _ hab
    have e2 : dropS (addS S a b) a b = S := by rw [dropS, if_pos hab, e1]
    rw [e2, e1, ite_self, doD, if_pos hab]
    exact h
  · have hbd : Bd (doD D a b i) := by
      rw [doD, if_neg hab]
      intro d hd
      rcases List.mem_append.1 hd with hd | hd
      · exact h.b d hd
      · simp at hd; subst hd; exact ⟨ha, by simp only; omega, hb⟩
    cases i with
    | true =>
      refine ⟨l1.1, hbd, fun n => ?_⟩
      rw [if_pos rfl, l1.2 n, h.h n, doD, if_neg hab, hasD_snoc]
      simp only
      by_cases hn : a ≤ n ∧ n ≤ b
      · rw [if_pos hn]; exact ⟨fun _ => ⟨by omega, by omega, rfl⟩, fun _ => .inr hn⟩
      · rw [if_neg hn]; exact ⟨fun h => h.elim id (fun h => (hn h).elim), .inl⟩
    | false =>
      refine ⟨l2.1, hbd, fun n => ?_⟩
      rw [if_neg (by simp), l2.2 n, l1.2 n, h.h n, doD, if_neg hab, hasD_snoc]
      simp only
      by_cases hn : a ≤ n ∧ n ≤ b
      · rw [if_pos hn]; exact ⟨fun h => (h.2 hn).elim, fun h => by simp at h⟩
      · rw [if_neg hn]; exact ⟨fun h => h.1.elim id (fun h => (hn h).elim), fun h => ⟨.inl h, hn⟩⟩
set_option maxRecDepth 100000 in
set_option maxHeartbeats 20000000 in
theorem plays_walk (W : World) (args : Array Value) (h : RdAll Try.prog W Try.f3.params.toList args.toList) :
    Calls Try.prog 3 args W fun e W' => e = .returned (.bool true) ∧ Below W.heap.size W W' := by
  rw [Try.params3] at h
  obtain ⟨v0, v1, rfl⟩ : ∃ v0 v1, args = #[v0, v1] := by
    rcases args with ⟨_ | ⟨v0, _ | ⟨v1, _ | ⟨v2, l⟩⟩⟩⟩ <;> simp [RdAll] at h
    exact ⟨v0, v1, rfl⟩
  obtain ⟨r0, r1, _⟩ := h
  obtain ⟨ao, ac, L, rfl, hL, nL, bL⟩ := script_read r0
  obtain ⟨nn, rfl, wn⟩ := r1.int Try.underlying23
  have hnn := wf32 wn
  have LL := hid hL; have BL := hid bL
  clear hL bL r0 r1 wn
  go_enter Try.func3, Try.ntmps3
  go_wp2_with fail
  refine (awake_any _).mono ?_; rintro e w1 ⟨rfl, hk1⟩
  have K1 := hid hk1; clear hk1
  go_wp2_with fail
  refine (new_any _).mono ?_
  rintro e w2 ⟨rfl, hs2, hk2⟩
  have hs2' := (st_new hs2).weak K1.out.size
  have hlt := (hs2'.r _ rfl).2
  have hsz : W.heap.size ≤ w2.heap.size := Nat.le_trans K1.out.size hk2.size
  have P2 := hid (show Pl W.heap.size (w2.alloc (.cells #[.slice none 0 0] 29)) w1.heap.size w2.heap.size (fun _ => False) [] [] from
    ⟨_, fun g => g = w2.heap.size, hs2'.same ((Kept.refl _ _).alloc _), ⟨⟨none, 0, row_new _ _, by simpa [dcells] using Own.nil _ _ _, by simp [Value.ownBlock]⟩, rfl⟩, fun g hg => by subst hg; exact ⟨hsz, by simp⟩, fun g h1 h2 => by subst h1; omega, fun _ h => h.elim⟩)
  have B2 := hid (((K1.out.trans hk2).alloc (.cells #[.slice none 0 0] 29)).below (B := W.heap.size) (Nat.le_refl _) (fun _ h => h.elim))
  clear hs2 hk2 hs2' hlt hsz K1
  go_wp2_with fail
  obtain ⟨sb, hsb⟩ : ∃ sb, sb = w1.heap.size := ⟨_, rfl⟩
  obtain ⟨rb, hrb⟩ : ∃ rb, rb = w2.heap.size := ⟨_, rfl⟩
  rw [← hsb, ← hrb] at P2
  rw [← hsb, ← hrb]
  clear hsb hrb
  go_loopw [31] (fun i wr => ∃ (k : Nat) (S : List Sp) (D : List Dd), k ≤ L.length ∧ i = .int .i64 k ∧ Below W.heap.size W wr ∧ Pl W.heap.size wr sb rb (fun _ => False) S D ∧ Tie S D ∧ D.length ≤ k ∧ k ≤ 40) (fun i _ => L.length - (intOf i).toNat)
  case atStart => exact ⟨0, [], [], Nat.zero_le _, rfl, B2.out, P2.out, ⟨Good.nil, by simp [Bd], fun n => ⟨fun ⟨x, hx, _⟩ => (nomatch hx), fun h => by simp [hasD] at h⟩⟩, Nat.le_refl _, by omega⟩
  case round =>
    clear B2 P2
    obtain ⟨k, S, D, hk, rfl, hb, hp, hti, hdl, hk40⟩ := hrel
    have HB := hid hb; have HP := hid hp; have TIE := hid hti; have HDL := hid hdl
    clear hb hp hti hdl
    by_cases hlt : k < L.length
    · obtain ⟨g1, o1, q1, e1, m1, m2, hnF, _, z1⟩ := LL.out.cell (by omega)
      simp only [Value.slice.injEq] at e1
      obtain ⟨rfl, _, rfl⟩ := e1
      unfold maxLen at m2
      obtain ⟨x0, x1, x2⟩ := dcells_at L k L[k] (by simp [hlt])
      have y0 := (below_kept HB.out).cell (z1 _ _ x0) hnF
      have y1 := (below_kept HB.out).cell (z1 _ _ x1) hnF
      have y2 := (below_kept HB.out).cell (z1 _ _ x2) hnF
      have hb32 := BL.out _ (List.getElem_mem hlt)
      obtain ⟨⟨a, b, inn⟩, hpq⟩ : ∃ s, L[k] = s := ⟨_, rfl⟩
      rw [hpq] at y0 y1 y2 hb32
      simp only [← Nat.add_assoc] at y0 y1 y2
      obtain ⟨b1, b2, b3, b4⟩ := hb32
      simp only at b1 b2 b3 b4
      clear x0 x1 x2 z1 hpq hnF
      by_cases h40 : k < 40
      · have hki : ¬ (40 : Int) ≤ (k : Int) := by omega
        have HP1 := hid (HP.out.wide ((Kept.refl (fun _ => False) wr).alloc (.cells #[.int .u32 a, .int .u32 b, .bool inn] 33)))
        have HB1 := hid (HB.out.alloc HB.out.size (.cells #[.int .u32 a, .int .u32 b, .bool inn] 33))
        obtain ⟨N, hN⟩ : ∃ N : Nat → Prop, N = fun g => wr.heap.size ≤ g ∧ g < (wr.alloc (.cells #[.int .u32 a, .int .u32 b, .bool inn] 33)).heap.size := ⟨_, rfl⟩
        rw [← hN] at HP1
        have HNC := hid (show N wr.heap.size by rw [hN]; exact ⟨Nat.le_refl _, by simp⟩)
        have hrow := row_new wr (.cells #[.int .u32 a, .int .u32 b, .bool inn] 33)
        clear HP HB hN
        go_wp2_with fail
        obtain ⟨w5, hw5⟩ : ∃ w5, w5 = wr.alloc (.cells #[.int .u32 a, .int .u32 b, .bool inn] 33) := ⟨_, rfl⟩
        rw [← hw5] at HP1 HB1 hrow ⊢
        have k0 := row_cell hrow 0; have k1 := row_cell hrow 1; have k2 := row_cell hrow 2
        simp at k0 k1 k2
        have HP := HP1; have HB := HB1
        clear HP1 HB1 hw5 y0 y1 y2 hrow
        refine wp_region_held_drew (S := fun w' => w'.cell? ⟨wr.heap.size, 0, none⟩ = some (.int .u32 a) ∧ w'.cell? ⟨wr.heap.size, 1, none⟩ = some (.int .u32 b)) (by kernel_rfl) (by exact ⟨k0, k1⟩) (fun hHeld => ?_)
        have HPd := hid (HP.out.same (Kept.refl (fun _ => False) w5).drew)
        refine wpAnyH_at 0 (some 38) (v := ?v50001) (by decide) rfl (by kernel_rfl) (by kernel_rfl) (by kernel_rfl) (fun _ _ _ h => h) (Or.inl ⟨by rfl, ?y50001⟩) (by assumption) ?r50001
        case y50001 => (intro w hSw; (try dsimp only at hSw); go_simp; (try with_reducible rfl))
        simp only [Act.put, List.setIfInBounds_toArray, List.set_cons_zero, List.set_cons_succ]
        refine wpAnyH_at 1 (some 39) (v := ?v50002) (by decide) rfl (by kernel_rfl) (by kernel_rfl) (by kernel_rfl) (fun _ _ _ h => h) (Or.inl ⟨by rfl, ?y50002⟩) (by assumption) ?r50002
        case y50002 => (intro w hSw; (try dsimp only at hSw); go_simp; (try with_reducible rfl))
        simp only [Act.put, List.setIfInBounds_toArray, List.set_cons_zero, List.set_cons_succ]
        refine wpAnyH_at 2 (some 40) (v := ?v50003) (by decide) rfl (by kernel_rfl) (by kernel_rfl) (by kernel_rfl) (fun _ _ _ h => h) (Or.inl ⟨by rfl, ?y50003⟩) (by assumption) ?r50003
        case y50003 => (intro w hSw; (try dsimp only at hSw); go_simp; (try with_reducible rfl))
        simp only [Act.put, List.setIfInBounds_toArray, List.set_cons_zero, List.set_cons_succ]
        refine wpAnyH_at 3 (some 41) (v := ?v50004) (by decide) rfl (by kernel_rfl) (by kernel_rfl) (by kernel_rfl) (fun _ _ _ h => h) (Or.inl ⟨by rfl, ?y50004⟩) (by assumption) ?r50004
        case y50004 => (intro w hSw; (try dsimp only at hSw); go_simp; (try with_reducible rfl))
        simp only [Act.put, List.setIfInBounds_toArray, List.set_cons_zero, List.set_cons_succ]
        refine wpAnyH_at 4 (some 42) (v := ?v50005) (by decide) rfl (by kernel_rfl) (by kernel_rfl) (by kernel_rfl) (fun _ _ _ h => h) (Or.inl ⟨by rfl, ?y50005⟩) (by assumption) ?r50005
        case y50005 => (intro w hSw; (try dsimp only at hSw); go_simp; (try with_reducible rfl))
        simp only [Act.put, List.setIfInBounds_toArray, List.set_cons_zero, List.set_cons_succ]
        refine wpAnyH_at 5 (some 43) (v := ?v50006) (by decide) rfl (by kernel_rfl) (by kernel_rfl) (by kernel_rfl) (fun _ _ _ h => h) (Or.inl ⟨by rfl, ?y50006⟩) (by assumption) ?r50006
        case y50006 => (intro w hSw; (try dsimp only at hSw); go_simp; (try with_reducible rfl))
        simp only [Act.put, List.setIfInBounds_toArray, List.set_cons_zero, List.set_cons_succ]
        refine wpAnyH_at 6 (some 44) (v := ?v50007) (by decide) rfl (by kernel_rfl) (by kernel_rfl) (by kernel_rfl) (fun _ _ _ h => h) (Or.inl ⟨by rfl, ?y50007⟩) (by assumption) ?r50007
        case y50007 => (intro w hSw; (try dsimp only at hSw); go_simp; (try with_reducible rfl))
        simp only [Act.put, List.setIfInBounds_toArray, List.set_cons_zero, List.set_cons_succ]
        refine wpAnyH_at 8 (some 46) (v := ?v50008) (by decide) rfl (by kernel_rfl) (by kernel_rfl) (by kernel_rfl) (fun _ _ _ h => h) (Or.inl ⟨by rfl, ?y50008⟩) (by assumption) ?r50008
        case y50008 => (intro w hSw; (try dsimp only at hSw); go_simp; (try with_reducible rfl))
        simp only [Act.put, List.setIfInBounds_toArray, List.set_cons_zero, List.set_cons_succ]
        refine wpAnyH_at 9 (some 47) (v := ?v50009) (by decide) rfl (by kernel_rfl) (by kernel_rfl) (by kernel_rfl) (fun _ _ _ h => h) (Or.inl ⟨by rfl, ?y50009⟩) (by assumption) ?r50009
        case y50009 => (intro w hSw; (try dsimp only at hSw); go_simp; (try with_reducible rfl))
        simp only [Act.put, List.setIfInBounds_toArray, List.set_cons_zero, List.set_cons_succ]
        refine wpAnyH_at 10 (some 48) (v := ?v50010) (by decide) rfl (by kernel_rfl) (by kernel_rfl) (by kernel_rfl) (fun _ _ _ h => h) (Or.inl ⟨by rfl, ?y50010⟩) (by assumption) ?r50010
        case y50010 => (intro w hSw; (try dsimp only at hSw); go_simp; (try with_reducible rfl))
        simp only [Act.put, List.setIfInBounds_toArray, List.set_cons_zero, List.set_cons_succ]
        refine wpAnyH_at 11 (some 49) (v := ?v50011) (by decide) rfl (by kernel_rfl) (by kernel_rfl) (by kernel_rfl) (fun _ _ _ h => h) (Or.inl ⟨by rfl, ?y50011⟩) (by assumption) ?r50011
        case y50011 => (intro w hSw; (try dsimp only at hSw); go_simp; (try with_reducible rfl))
        simp only [Act.put, List.setIfInBounds_toArray, List.set_cons_zero, List.set_cons_succ]
        refine wpAnyH_at 12 (some 50) (v := ?v50012) (by decide) rfl (by kernel_rfl) (by kernel_rfl) (by kernel_rfl) (fun _ _ _ h => h) (Or.inl ⟨by rfl, ?y50012⟩) (by assumption) ?r50012
        case y50012 => (intro w hSw; (try dsimp only at hSw); go_simp; (try with_reducible rfl))
        simp only [Act.put, List.setIfInBounds_toArray, List.set_cons_zero, List.set_cons_succ]
        refine wpAnyH_at 13 (some 51) (v := ?v50013) (by decide) rfl (by kernel_rfl) (by kernel_rfl) (by kernel_rfl) (fun _ _ _ h => h) (Or.inl ⟨by rfl, ?y50013⟩) (by assumption) ?r50013
        case y50013 => (intro w hSw; (try dsimp only at hSw); go_simp; (try with_reducible rfl))
        simp only [Act.put, List.setIfInBounds_toArray, List.set_cons_zero, List.set_cons_succ]
        refine wpAnyH_at 14 (some 52) (v := ?v50014) (by decide) rfl (by kernel_rfl) (by kernel_rfl) (by kernel_rfl) (fun _ _ _ h => h) (Or.inl ⟨by rfl, ?y50014⟩) (by assumption) ?r50014
        case y50014 => (intro w hSw; (try dsimp only at hSw); go_simp; (try with_reducible rfl))
        simp only [Act.put, List.setIfInBounds_toArray, List.set_cons_zero, List.set_cons_succ]
        refine wpAnyH_ready (rs := [7]) (by kernel_rfl) (by simp) ?_
        refine AllReadyH.cons rfl (fun K hK => ?_) AllReadyH.nil
        go_simp
        refine (HPd.out.add a b b1 b4).mono ?_
        rintro e w6 ⟨rfl, hp6, hb6, hk6⟩
        have k0' := hk6.cell k0 (fun h => h HNC.out); have k1' := hk6.cell k1 (fun h => h HNC.out); have k2' := hk6.cell k2 (fun h => h HNC.out)
        have HP6 := hid hp6; have HB6 := hid (HB.out.trans (((Below.refl W.heap.size w5).drew).trans hb6))
        clear hp6 hb6 hk6 HP HPd HB k0 k1 k2
        try dsimp only []
        refine hK.out _ _ (by exact ⟨k0', k1'⟩) (fun hHeld => ?_)
        clear hK K
        try simp only [Act.put, List.setIfInBounds_toArray, List.set_cons_zero, List.set_cons_succ]
        refine wpAnyH_ready (rs := [15]) (by kernel_rfl) (by simp) ?_
        refine AllReadyH.cons rfl (fun K hK => ?_) AllReadyH.nil
        go_simp
        refine (add_nil a b _).mono ?_
        rintro e w7 ⟨rfl, rfl⟩
        try dsimp only []
        refine hK.out _ _ (by exact ⟨k0', k1'⟩) (fun hHeld => ?_)
        clear hK K
        try simp only [Act.put, List.setIfInBounds_toArray, List.set_cons_zero, List.set_cons_succ]
        refine wpAnyH_at 16 (some 10) (v := ?v50015) (by decide) rfl (by kernel_rfl) (by kernel_rfl) (by kernel_rfl) (fun _ _ _ h => h) (Or.inl ⟨by rfl, ?y50015⟩) (by assumption) ?r50015
        case y50015 => (intro w hSw; (try dsimp only at hSw); go_simp; (try with_reducible rfl))
        simp only [Act.put, List.setIfInBounds_toArray, List.set_cons_zero, List.set_cons_succ]
        refine wpAnyH_at 17 (some 11) (v := ?v50016) (by decide) rfl (by kernel_rfl) (by kernel_rfl) (by kernel_rfl) (fun _ _ _ h => h) (Or.inl ⟨by rfl, ?y50016⟩) (by assumption) ?r50016
        case y50016 => (intro w hSw; (try dsimp only at hSw); go_simp; (try with_reducible rfl))
        simp only [Act.put, List.setIfInBounds_toArray, List.set_cons_zero, List.set_cons_succ]
        refine wpAnyH_done (by kernel_rfl) ?_ _
        clear hHeld
        have HP := HP6; have HB := HB6; have k0 := k0'; have k1 := k1'; have k2 := k2'
        clear HP6 HB6 k0' k1' k2'
        cases inn with
        | true =>
          go_wp2_with fail
          have hne1 : (chk a b != chk a b) = false := by simp
          have hne2 : (chkN a b != chkN a b) = false := by simp
          have hdo : (if b < a then (1 : Int) else 6) = chkN a b := rfl
          go_wp2_with fail
          refine (HP.out.do (by have := HDL.out; omega) a b true).mono ?_
          rintro e w8 ⟨rfl, hp8, hb8, hk8⟩
          have hti := tie_step TIE.out a b true b1 b4
          rw [show (if true = true then addS S a b else dropS (addS S a b) a b) = addS S a b from rfl] at hti
          have k0' := hk8.cell k0 (fun h => h HNC.out); have k1' := hk8.cell k1 (fun h => h HNC.out); have k2' := hk8.cell k2 (fun h => h HNC.out)
          have hdl2 : (doD D a b true).length ≤ k + 1 := by have := HDL.out; unfold doD; split <;> simp <;> omega
          obtain ⟨T, hT⟩ : ∃ T, T = addS S a b := ⟨_, rfl⟩
          obtain ⟨E, hE⟩ : ∃ E, E = doD D a b true := ⟨_, rfl⟩
          rw [← hT] at hti hp8
          rw [← hE] at hti hp8 hdl2
          have gT := hti.g
          have nT := gT.len
          have B8 := hid (HB.out.trans hb8)
          have PL := hid (show ∀ w, Below w8.heap.size w8 w → Pl W.heap.size w sb rb (fun _ => False) T E from fun w hb => hp8.far hb)
          have CE := hid (show ∀ w, Below w8.heap.size w8 w → (w.cell? ⟨wr.heap.size, 0, none⟩ = some (.int .u32 a) ∧ w.cell? ⟨wr.heap.size, 1, none⟩ = some (.int .u32 b) ∧ w.cell? ⟨wr.heap.size, 2, none⟩ = some (.bool true)) from fun w hb =>
            ⟨(below_kept hb).cell k0' (by have := World.block_lt_of_cell? w8 _ k0'; simp only at this ⊢; omega), (below_kept hb).cell k1' (by have := World.block_lt_of_cell? w8 _ k1'; simp only at this ⊢; omega), (below_kept hb).cell k2' (by have := World.block_lt_of_cell? w8 _ k2'; simp only at this ⊢; omega)⟩)
          have HSP := hid (hti.spans rb); have HDL2 := hid hdl2; have GT := hid gT; have TI := hid hti
          have C8 := hid (Below.refl w8.heap.size w8)
          clear hp8 hb8 hk8 HP HB k0 k1 k2 k0' k1' k2' hT hE hdl2 gT hti
          go_wp2_with fail
          refine ((PL.out _ C8.out).s1.spans).mono ?_
          rintro e w9 ⟨lo9, lc9, rfl, hf9, hk⟩
          have C9 := hid (C8.out.trans (hk.below (B := w8.heap.size) C8.out.size (fun _ h => h.elim)))
          have LF := hid hf9
          clear hk hf9 C8
          go_wp2_with fail
          refine (rspans_any (Rs := [(rb, E)]) (lies_ptr (cap := 1) (row_new w9 (.cells #[.pointer (some ⟨rb, 0, none⟩)] 27)) rfl (by simp) (by decide)) ((PL.out _ (C9.out.alloc C9.out.size _)).rs TI.out.b (by have := HDL2.out; omega))).mono ?_
          rintro e w10 ⟨rv, rfl, hrv, hk0⟩
          have hk := ((Kept.refl (fun _ => False) w9).alloc (.cells #[.pointer (some ⟨rb, 0, none⟩)] 27)).trans hk0
          rw [HSP.out] at hrv
          have C10 := hid (C9.out.trans (hk.below (B := w8.heap.size) C9.out.size (fun _ h => h.elim)))
          have RV := hid hrv.lies; have LF10 := hid (LF.out.kept hk (fun _ _ h => h))
          clear hk hk0 hrv LF C9
          obtain ⟨k0, k1, k2⟩ := CE.out _ C10.out
          go_wp2_with fail
          refine (do_nil a b true _).mono ?_
          rintro e w11 ⟨rfl, rfl⟩
          rw [hdo]
          clear k0 k1 k2
          go_wp2_with fail
          refine (conv_any LF10.out.lies (by omega)).mono ?_
          rintro e w11 ⟨cv, rfl, hcv, hk⟩
          have C11 := hid (C10.out.trans (hk.below (B := w8.heap.size) C10.out.size (fun _ h => h.elim)))
          have CV := hid hcv.lies; have LF11 := hid (LF10.out.kept hk (fun _ _ h => h)); have RV11 := hid (RV.out.same hk)
          clear hk hcv LF10 RV C10
          go_wp2_with fail
          refine (same_any CV.out RV11.out).mono ?_
          rintro e w12 ⟨rfl, hk⟩
          have C12 := hid (C11.out.trans (hk.below (B := w8.heap.size) C11.out.size (fun _ h => h.elim)))
          have LF12 := hid (LF11.out.kept hk (fun _ _ h => h)); have RV12 := hid (RV11.out.same hk)
          clear hk CV LF11 RV11 C11
          go_wp2_with fail
          refine ((PL.out _ C12.out).s1.count).mono ?_
          rintro e w13 ⟨rfl, hk⟩
          have C13 := hid (C12.out.trans (hk.below (B := w8.heap.size) C12.out.size (fun _ h => h.elim)))
          have LF13 := hid (LF12.out.kept hk (fun _ _ h => h)); have RV13 := hid (RV12.out.same hk)
          clear hk LF12 RV12 C12
          go_wp2_with fail
          refine (cnt_any RV13.out GT.out).mono ?_
          rintro e w14 ⟨rfl, hk⟩
          have C14 := hid (C13.out.trans (hk.below (B := w8.heap.size) C13.out.size (fun _ h => h.elim)))
          have LF14 := hid (LF13.out.kept hk (fun _ _ h => h))
          have hcc : (cntS T != cntS T) = false := by simp
          clear hk LF13 RV13 C13
          go_wp2_with fail
          obtain ⟨lo', lc', el, hlo, hlf⟩ := LF14.out
          simp only [Value.slice.injEq] at el
          obtain ⟨rfl, _, rfl⟩ := el
          have LO := hid hlo; have LFB := hid hlf
          clear hlo hlf LF14
          obtain ⟨wo, rfl⟩ : ∃ wo : World, wo = wr := ⟨_, rfl⟩
          go_loopw [120] (fun i wr => ∃ (j : Nat) (xs : List Value), j ≤ T.length ∧ i = .int .i64 j ∧ Own wr 46 2 (.slice lo9 T.length lc9) T.length xs ∧ (∀ q x, j ≤ q → T[q]? = some x → xs[q * 2 + 1]? = some (.int .u32 x.2)) ∧ Below w8.heap.size w8 wr) (fun i _ => T.length - (intOf i).toNat)
          case atStart => exact ⟨0, _, Nat.zero_le _, rfl, LO.out, fun q x _ hx => (scells_at T q x hx).2, C14.out⟩
          case round =>
            clear LO C14
            obtain ⟨j, xs, hj, rfl, ho, hx, hc⟩ := hrel
            have HO := hid ho; have HXS := hid hx; have HCC := hid hc
            clear ho hx hc
            by_cases hjt : j < T.length
            · obtain ⟨g, cap, e, l1, l2⟩ := HO.out.some_of_pos (by omega)
              simp only [Value.slice.injEq] at e
              obtain ⟨rfl, _, rfl⟩ := e
              have hxj := HXS.out j T[j] (Nat.le_refl _) (by simp [hjt])
              obtain ⟨hxl, hxe⟩ := List.getElem?_eq_some_iff.1 hxj
              have y1 := HO.out.cells (g := g) (by simp [Value.ownBlock]) (j * 2 + 1) hxl
              rw [hxe] at y1
              have fz := HO.out.free (g := g) (by simp [Value.ownBlock]) (j * 2 + 1)
              have hgb := LFB.out g (by simp [Value.ownBlock])
              have HGB := hid hgb
              unfold maxLen at l2
              clear hxj hxl hxe hgb
              go_wp2
              go_roundw
              case rel => exact ⟨j + 1, _, hjt, by go_num, HO.out.set (by simp [Value.ownBlock]) (j * 2 + 1) _, fun q x hq hx => by
                rw [List.getElem?_set_ne (by omega)]
                exact HXS.out q x (by omega) hx, HCC.out.setCell HGB.out _⟩
              case measure => simp [intOf]; omega
            · obtain rfl : j = T.length := by omega
              obtain ⟨k0, k1, k2⟩ := CE.out _ HCC.out
              have hwk : IntKind.u32.wrap (k : Int) = (k : Int) := by simp [IntKind.wrap, IntKind.bits, IntKind.signed]; omega
              go_wp2_with fail
              obtain ⟨w15, hw15⟩ : ∃ w15, w15 = wr.alloc (.cells #[.int .u32 nn, .int .u32 a, .int .u32 b, .int .u32 k] 23) := ⟨_, rfl⟩
              have hrow := row_new wr (.cells #[.int .u32 nn, .int .u32 a, .int .u32 b, .int .u32 k] 23)
              have C15 := hid (show Below w8.heap.size w8 w15 by rw [hw15]; exact HCC.out.alloc HCC.out.size _)
              rw [← hw15] at hrow
              have hmc : ∀ j (hj : j < 4), ∃ m : Int, w15.cell? ⟨wr.heap.size, j, none⟩ = some (.int .u32 m) ∧ 0 ≤ m ∧ m ≤ 4294967295 := fun j hj => by
                match j, hj with
                | 0, _ => exact ⟨nn, by rw [row_cell hrow]; rfl, by omega, by omega⟩
                | 1, _ => exact ⟨a, by rw [row_cell hrow]; rfl, by omega, by omega⟩
                | 2, _ => exact ⟨b, by rw [row_cell hrow]; rfl, by omega, by omega⟩
                | 3, _ => exact ⟨k, by rw [row_cell hrow]; rfl, by omega, by omega⟩
              have MC := hid hmc
              rw [← hw15]
              clear hw15 hrow hmc k0 k1 k2 HO HXS
              obtain ⟨wo2, rfl⟩ : ∃ wo2 : World, wo2 = wr := ⟨_, rfl⟩
              go_loopw [143] (fun i wr => ∃ j : Nat, j ≤ 4 ∧ i = .int .i64 j ∧ Kept (fun _ => False) w15 wr) (fun i _ => 4 - (intOf i).toNat)
              case atStart => exact ⟨0, by omega, rfl, Kept.refl _ _⟩
              case round =>
                obtain ⟨j, hj, rfl, hk⟩ := hrel
                have K0 := hid hk; clear hk
                by_cases hj4 : j < 4
                · obtain ⟨m, y0, hm0, hm1⟩ := MC.out j hj4
                  have z0 := K0.out.cell y0 id
                  have hth := TI.out.has m hm0 hm1
                  have HTH := hid hth
                  have hji : (j : Int) < 4 := by omega
                  have hmm : (m != m) = false := by simp
                  have hfv1 : ((freeV T m).1 != (freeV T m).1) = false := by simp
                  have hfv2 : ((freeV T m).2 != (freeV T m).2) = false := by simp
                  have D0 := hid (C15.out.trans (K0.out.below (B := w8.heap.size) C15.out.size (fun _ h => h.elim)))
                  clear y0 hth
                  go_wp2_with fail
                  refine ((PL.out _ D0.out).s1.free m).mono ?_
                  rintro e w20 ⟨rfl, hk⟩
                  have K1 := hid (K0.out.trans hk); have D1 := hid (D0.out.trans (hk.below (B := w8.heap.size) D0.out.size (fun _ h => h.elim)))
                  clear hk K0 D0 z0
                  go_wp2_with fail
                  refine (rfree_any (rb := rb) (D := E) (fun w' hk' => (PL.out _ (D1.out.trans (hk'.below (B := w8.heap.size) D1.out.size (fun _ h => h.elim)))).rs TI.out.b (by have := HDL2.out; omega)) m (by rw [HSP.out]; exact GT.out)).mono ?_
                  rintro e w21 ⟨rfl, hk⟩
                  rw [HSP.out]
                  have K2 := hid (K1.out.trans hk); have D2 := hid (D1.out.trans (hk.below (B := w8.heap.size) D1.out.size (fun _ h => h.elim)))
                  clear hk K1 D1
                  go_wp2_with fail
                  refine (free_nil m _).mono ?_
                  rintro e w22 ⟨rfl, rfl⟩
                  go_wp2_with fail
                  refine ((PL.out _ D2.out).s1.has m).mono ?_
                  rintro e w22 ⟨rfl, hk⟩
                  have K3 := hid (K2.out.trans hk); have D3 := hid (D2.out.trans (hk.below (B := w8.heap.size) D2.out.size (fun _ h => h.elim)))
                  clear hk K2 D2
                  obtain ⟨F5, G5, _, hra, _⟩ := (PL.out _ D3.out).ex
                  have RA := hid hra; clear hra
                  go_wp2_with fail
                  refine (rhas_any RA.out m).mono ?_
                  rintro e w23 ⟨rfl, hk⟩
                  rw [← HTH.out]
                  have K4 := hid (K3.out.trans hk)
                  clear hk K3 D3 RA
                  obtain ⟨f1, hf1⟩ : ∃ f1, f1 = (freeV T m).1 := ⟨_, rfl⟩
                  obtain ⟨f2, hf2⟩ : ∃ f2, f2 = (freeV T m).2 := ⟨_, rfl⟩
                  go_wp2_with fail
                  refine (has_nil m _).mono ?_
                  rintro e w24 ⟨rfl, rfl⟩
                  clear hf1 hf2
                  go_wp2
                  go_roundw
                  case rel => exact ⟨j + 1, hj4, by go_num, K4.out⟩
                  case measure => simp [intOf]; omega
                · obtain rfl : j = 4 := by omega
                  have D0 := hid (C15.out.trans (K0.out.below (B := w8.heap.size) C15.out.size (fun _ h => h.elim)))
                  go_wp2
                  go_roundw
                  case rel => exact ⟨k + 1, T, E, hlt, by go_num, B8.out.trans (D0.out.mono B8.out.size), PL.out _ D0.out, TI.out, HDL2.out, by omega⟩
                  case measure => simp [intOf]; omega
        | false =>
          go_wp2_with fail
          refine wp_region_held_drew (S := fun w' => w'.cell? ⟨wr.heap.size, 0, none⟩ = some (.int .u32 a) ∧ w'.cell? ⟨wr.heap.size, 1, none⟩ = some (.int .u32 b)) (by kernel_rfl) (by exact ⟨k0, k1⟩) (fun hHeld => ?_)
          have HPd := hid (HP.out.same (Kept.refl (fun _ => False) w6).drew)
          refine wpAnyH_at 0 (some 57) (v := ?v50033) (by decide) rfl (by kernel_rfl) (by kernel_rfl) (by kernel_rfl) (fun _ _ _ h => h) (Or.inl ⟨by rfl, ?y50033⟩) (by assumption) ?r50033
          case y50033 => (intro w hSw; (try dsimp only at hSw); go_simp; (try with_reducible rfl))
          simp only [Act.put, List.setIfInBounds_toArray, List.set_cons_zero, List.set_cons_succ]
          refine wpAnyH_at 1 (some 58) (v := ?v50034) (by decide) rfl (by kernel_rfl) (by kernel_rfl) (by kernel_rfl) (fun _ _ _ h => h) (Or.inl ⟨by rfl, ?y50034⟩) (by assumption) ?r50034
          case y50034 => (intro w hSw; (try dsimp only at hSw); go_simp; (try with_reducible rfl))
          simp only [Act.put, List.setIfInBounds_toArray, List.set_cons_zero, List.set_cons_succ]
          refine wpAnyH_at 2 (some 59) (v := ?v50035) (by decide) rfl (by kernel_rfl) (by kernel_rfl) (by kernel_rfl) (fun _ _ _ h => h) (Or.inl ⟨by rfl, ?y50035⟩) (by assumption) ?r50035
          case y50035 => (intro w hSw; (try dsimp only at hSw); go_simp; (try with_reducible rfl))
          simp only [Act.put, List.setIfInBounds_toArray, List.set_cons_zero, List.set_cons_succ]
          refine wpAnyH_at 3 (some 60) (v := ?v50036) (by decide) rfl (by kernel_rfl) (by kernel_rfl) (by kernel_rfl) (fun _ _ _ h => h) (Or.inl ⟨by rfl, ?y50036⟩) (by assumption) ?r50036
          case y50036 => (intro w hSw; (try dsimp only at hSw); go_simp; (try with_reducible rfl))
          simp only [Act.put, List.setIfInBounds_toArray, List.set_cons_zero, List.set_cons_succ]
          refine wpAnyH_at 4 (some 61) (v := ?v50037) (by decide) rfl (by kernel_rfl) (by kernel_rfl) (by kernel_rfl) (fun _ _ _ h => h) (Or.inl ⟨by rfl, ?y50037⟩) (by assumption) ?r50037
          case y50037 => (intro w hSw; (try dsimp only at hSw); go_simp; (try with_reducible rfl))
          simp only [Act.put, List.setIfInBounds_toArray, List.set_cons_zero, List.set_cons_succ]
          refine wpAnyH_at 5 (some 62) (v := ?v50038) (by decide) rfl (by kernel_rfl) (by kernel_rfl) (by kernel_rfl) (fun _ _ _ h => h) (Or.inl ⟨by rfl, ?y50038⟩) (by assumption) ?r50038
          case y50038 => (intro w hSw; (try dsimp only at hSw); go_simp; (try with_reducible rfl))
          simp only [Act.put, List.setIfInBounds_toArray, List.set_cons_zero, List.set_cons_succ]
          refine wpAnyH_at 6 (some 63) (v := ?v50039) (by decide) rfl (by kernel_rfl) (by kernel_rfl) (by kernel_rfl) (fun _ _ _ h => h) (Or.inl ⟨by rfl, ?y50039⟩) (by assumption) ?r50039
          case y50039 => (intro w hSw; (try dsimp only at hSw); go_simp; (try with_reducible rfl))
          simp only [Act.put, List.setIfInBounds_toArray, List.set_cons_zero, List.set_cons_succ]
          refine wpAnyH_at 8 (some 65) (v := ?v50040) (by decide) rfl (by kernel_rfl) (by kernel_rfl) (by kernel_rfl) (fun _ _ _ h => h) (Or.inl ⟨by rfl, ?y50040⟩) (by assumption) ?r50040
          case y50040 => (intro w hSw; (try dsimp only at hSw); go_simp; (try with_reducible rfl))
          simp only [Act.put, List.setIfInBounds_toArray, List.set_cons_zero, List.set_cons_succ]
          refine wpAnyH_at 9 (some 66) (v := ?v50041) (by decide) rfl (by kernel_rfl) (by kernel_rfl) (by kernel_rfl) (fun _ _ _ h => h) (Or.inl ⟨by rfl, ?y50041⟩) (by assumption) ?r50041
          case y50041 => (intro w hSw; (try dsimp only at hSw); go_simp; (try with_reducible rfl))
          simp only [Act.put, List.setIfInBounds_toArray, List.set_cons_zero, List.set_cons_succ]
          refine wpAnyH_at 10 (some 67) (v := ?v50042) (by decide) rfl (by kernel_rfl) (by kernel_rfl) (by kernel_rfl) (fun _ _ _ h => h) (Or.inl ⟨by rfl, ?y50042⟩) (by assumption) ?r50042
          case y50042 => (intro w hSw; (try dsimp only at hSw); go_simp; (try with_reducible rfl))
          simp only [Act.put, List.setIfInBounds_toArray, List.set_cons_zero, List.set_cons_succ]
          refine wpAnyH_at 11 (some 68) (v := ?v50043) (by decide) rfl (by kernel_rfl) (by kernel_rfl) (by kernel_rfl) (fun _ _ _ h => h) (Or.inl ⟨by rfl, ?y50043⟩) (by assumption) ?r50043
          case y50043 => (intro w hSw; (try dsimp only at hSw); go_simp; (try with_reducible rfl))
          simp only [Act.put, List.setIfInBounds_toArray, List.set_cons_zero, List.set_cons_succ]
          refine wpAnyH_at 12 (some 69) (v := ?v50044) (by decide) rfl (by kernel_rfl) (by kernel_rfl) (by kernel_rfl) (fun _ _ _ h => h) (Or.inl ⟨by rfl, ?y50044⟩) (by assumption) ?r50044
          case y50044 => (intro w hSw; (try dsimp only at hSw); go_simp; (try with_reducible rfl))
          simp only [Act.put, List.setIfInBounds_toArray, List.set_cons_zero, List.set_cons_succ]
          refine wpAnyH_at 13 (some 70) (v := ?v50045) (by decide) rfl (by kernel_rfl) (by kernel_rfl) (by kernel_rfl) (fun _ _ _ h => h) (Or.inl ⟨by rfl, ?y50045⟩) (by assumption) ?r50045
          case y50045 => (intro w hSw; (try dsimp only at hSw); go_simp; (try with_reducible rfl))
          simp only [Act.put, List.setIfInBounds_toArray, List.set_cons_zero, List.set_cons_succ]
          refine wpAnyH_at 14 (some 71) (v := ?v50046) (by decide) rfl (by kernel_rfl) (by kernel_rfl) (by kernel_rfl) (fun _ _ _ h => h) (Or.inl ⟨by rfl, ?y50046⟩) (by assumption) ?r50046
          case y50046 => (intro w hSw; (try dsimp only at hSw); go_simp; (try with_reducible rfl))
          simp only [Act.put, List.setIfInBounds_toArray, List.set_cons_zero, List.set_cons_succ]
          refine wpAnyH_ready (rs := [7]) (by kernel_rfl) (by simp) ?_
          refine AllReadyH.cons rfl (fun K hK => ?_) AllReadyH.nil
          go_simp
          refine (HPd.out.drop a b b1 b4).mono ?_
          rintro e w16 ⟨rfl, hp6, hb6, hk6⟩
          have k0' := hk6.cell k0 (fun h => h HNC.out); have k1' := hk6.cell k1 (fun h => h HNC.out); have k2' := hk6.cell k2 (fun h => h HNC.out)
          have HP6 := hid hp6; have HB6 := hid (HB.out.trans (((Below.refl W.heap.size w6).drew).trans hb6))
          clear hp6 hb6 hk6 HP HPd HB k0 k1 k2
          try dsimp only []
          refine hK.out _ _ (by exact ⟨k0', k1'⟩) (fun hHeld => ?_)
          clear hK K
          try simp only [Act.put, List.setIfInBounds_toArray, List.set_cons_zero, List.set_cons_succ]
          refine wpAnyH_ready (rs := [15]) (by kernel_rfl) (by simp) ?_
          refine AllReadyH.cons rfl (fun K hK => ?_) AllReadyH.nil
          go_simp
          refine (drop_nil a b _).mono ?_
          rintro e w17 ⟨rfl, rfl⟩
          try dsimp only []
          refine hK.out _ _ (by exact ⟨k0', k1'⟩) (fun hHeld => ?_)
          clear hK K
          try simp only [Act.put, List.setIfInBounds_toArray, List.set_cons_zero, List.set_cons_succ]
          refine wpAnyH_at 16 (some 10) (v := ?v50047) (by decide) rfl (by kernel_rfl) (by kernel_rfl) (by kernel_rfl) (fun _ _ _ h => h) (Or.inl ⟨by rfl, ?y50047⟩) (by assumption) ?r50047
          case y50047 => (intro w hSw; (try dsimp only at hSw); go_simp; (try with_reducible rfl))
          simp only [Act.put, List.setIfInBounds_toArray, List.set_cons_zero, List.set_cons_succ]
          refine wpAnyH_at 17 (some 11) (v := ?v50048) (by decide) rfl (by kernel_rfl) (by kernel_rfl) (by kernel_rfl) (fun _ _ _ h => h) (Or.inl ⟨by rfl, ?y50048⟩) (by assumption) ?r50048
          case y50048 => (intro w hSw; (try dsimp only at hSw); go_simp; (try with_reducible rfl))
          simp only [Act.put, List.setIfInBounds_toArray, List.set_cons_zero, List.set_cons_succ]
          refine wpAnyH_done (by kernel_rfl) ?_ _
          clear hHeld
          have HP := HP6; have HB := HB6; have k0 := k0'; have k1 := k1'; have k2 := k2'
          clear HP6 HB6 k0' k1' k2'
          have hne1 : (chk a b != chk a b) = false := by simp
          have hne2 : (chkN a b != chkN a b) = false := by simp
          have hdo : (if b < a then (1 : Int) else 6) = chkN a b := rfl
          go_wp2_with fail
          refine (HP.out.do (by have := HDL.out; omega) a b false).mono ?_
          rintro e w8 ⟨rfl, hp8, hb8, hk8⟩
          have hti := tie_step TIE.out a b false b1 b4
          rw [show (if false = true then addS S a b else dropS (addS S a b) a b) = dropS (addS S a b) a b from rfl] at hti
          have k0' := hk8.cell k0 (fun h => h HNC.out); have k1' := hk8.cell k1 (fun h => h HNC.out); have k2' := hk8.cell k2 (fun h => h HNC.out)
          have hdl2 : (doD D a b false).length ≤ k + 1 := by have := HDL.out; unfold doD; split <;> simp <;> omega
          obtain ⟨T, hT⟩ : ∃ T, T = dropS (addS S a b) a b := ⟨_, rfl⟩
          obtain ⟨E, hE⟩ : ∃ E, E = doD D a b false := ⟨_, rfl⟩
          rw [← hT] at hti hp8
          rw [← hE] at hti hp8 hdl2
          have gT := hti.g
          have nT := gT.len
          have B8 := hid (HB.out.trans hb8)
          have PL := hid (show ∀ w, Below w8.heap.size w8 w → Pl W.heap.size w sb rb (fun _ => False) T E from fun w hb => hp8.far hb)
          have CE := hid (show ∀ w, Below w8.heap.size w8 w → (w.cell? ⟨wr.heap.size, 0, none⟩ = some (.int .u32 a) ∧ w.cell? ⟨wr.heap.size, 1, none⟩ = some (.int .u32 b) ∧ w.cell? ⟨wr.heap.size, 2, none⟩ = some (.bool false)) from fun w hb =>
            ⟨(below_kept hb).cell k0' (by have := World.block_lt_of_cell? w8 _ k0'; simp only at this ⊢; omega), (below_kept hb).cell k1' (by have := World.block_lt_of_cell? w8 _ k1'; simp only at this ⊢; omega), (below_kept hb).cell k2' (by have := World.block_lt_of_cell? w8 _ k2'; simp only at this ⊢; omega)⟩)
          have HSP := hid (hti.spans rb); have HDL2 := hid hdl2; have GT := hid gT; have TI := hid hti
          have C8 := hid (Below.refl w8.heap.size w8)
          clear hp8 hb8 hk8 HP HB k0 k1 k2 k0' k1' k2' hT hE hdl2 gT hti
          go_wp2_with fail
          refine ((PL.out _ C8.out).s1.spans).mono ?_
          rintro e w9 ⟨lo9, lc9, rfl, hf9, hk⟩
          have C9 := hid (C8.out.trans (hk.below (B := w8.heap.size) C8.out.size (fun _ h => h.elim)))
          have LF := hid hf9
          clear hk hf9 C8
          go_wp2_with fail
          refine (rspans_any (Rs := [(rb, E)]) (lies_ptr (cap := 1) (row_new w9 (.cells #[.pointer (some ⟨rb, 0, none⟩)] 27)) rfl (by simp) (by decide)) ((PL.out _ (C9.out.alloc C9.out.size _)).rs TI.out.b (by have := HDL2.out; omega))).mono ?_
          rintro e w10 ⟨rv, rfl, hrv, hk0⟩
          have hk := ((Kept.refl (fun _ => False) w9).alloc (.cells #[.pointer (some ⟨rb, 0, none⟩)] 27)).trans hk0
          rw [HSP.out] at hrv
          have C10 := hid (C9.out.trans (hk.below (B := w8.heap.size) C9.out.size (fun _ h => h.elim)))
          have RV := hid hrv.lies; have LF10 := hid (LF.out.kept hk (fun _ _ h => h))
          clear hk hk0 hrv LF C9
          obtain ⟨k0, k1, k2⟩ := CE.out _ C10.out
          go_wp2_with fail
          refine (do_nil a b false _).mono ?_
          rintro e w11 ⟨rfl, rfl⟩
          rw [hdo]
          clear k0 k1 k2
          go_wp2_with fail
          refine (conv_any LF10.out.lies (by omega)).mono ?_
          rintro e w11 ⟨cv, rfl, hcv, hk⟩
          have C11 := hid (C10.out.trans (hk.below (B := w8.heap.size) C10.out.size (fun _ h => h.elim)))
          have CV := hid hcv.lies; have LF11 := hid (LF10.out.kept hk (fun _ _ h => h)); have RV11 := hid (RV.out.same hk)
          clear hk hcv LF10 RV C10
          go_wp2_with fail
          refine (same_any CV.out RV11.out).mono ?_
          rintro e w12 ⟨rfl, hk⟩
          have C12 := hid (C11.out.trans (hk.below (B := w8.heap.size) C11.out.size (fun _ h => h.elim)))
          have LF12 := hid (LF11.out.kept hk (fun _ _ h => h)); have RV12 := hid (RV11.out.same hk)
          clear hk CV LF11 RV11 C11
          go_wp2_with fail
          refine ((PL.out _ C12.out).s1.count).mono ?_
          rintro e w13 ⟨rfl, hk⟩
          have C13 := hid (C12.out.trans (hk.below (B := w8.heap.size) C12.out.size (fun _ h => h.elim)))
          have LF13 := hid (LF12.out.kept hk (fun _ _ h => h)); have RV13 := hid (RV12.out.same hk)
          clear hk LF12 RV12 C12
          go_wp2_with fail
          refine (cnt_any RV13.out GT.out).mono ?_
          rintro e w14 ⟨rfl, hk⟩
          have C14 := hid (C13.out.trans (hk.below (B := w8.heap.size) C13.out.size (fun _ h => h.elim)))
          have LF14 := hid (LF13.out.kept hk (fun _ _ h => h))
          have hcc : (cntS T != cntS T) = false := by simp
          clear hk LF13 RV13 C13
          go_wp2_with fail
          obtain ⟨lo', lc', el, hlo, hlf⟩ := LF14.out
          simp only [Value.slice.injEq] at el
          obtain ⟨rfl, _, rfl⟩ := el
          have LO := hid hlo; have LFB := hid hlf
          clear hlo hlf LF14
          obtain ⟨wo, rfl⟩ : ∃ wo : World, wo = wr := ⟨_, rfl⟩
          go_loopw [120] (fun i wr => ∃ (j : Nat) (xs : List Value), j ≤ T.length ∧ i = .int .i64 j ∧ Own wr 46 2 (.slice lo9 T.length lc9) T.length xs ∧ (∀ q x, j ≤ q → T[q]? = some x → xs[q * 2 + 1]? = some (.int .u32 x.2)) ∧ Below w8.heap.size w8 wr) (fun i _ => T.length - (intOf i).toNat)
          case atStart => exact ⟨0, _, Nat.zero_le _, rfl, LO.out, fun q x _ hx => (scells_at T q x hx).2, C14.out⟩
          case round =>
            clear LO C14
            obtain ⟨j, xs, hj, rfl, ho, hx, hc⟩ := hrel
            have HO := hid ho; have HXS := hid hx; have HCC := hid hc
            clear ho hx hc
            by_cases hjt : j < T.length
            · obtain ⟨g, cap, e, l1, l2⟩ := HO.out.some_of_pos (by omega)
              simp only [Value.slice.injEq] at e
              obtain ⟨rfl, _, rfl⟩ := e
              have hxj := HXS.out j T[j] (Nat.le_refl _) (by simp [hjt])
              obtain ⟨hxl, hxe⟩ := List.getElem?_eq_some_iff.1 hxj
              have y1 := HO.out.cells (g := g) (by simp [Value.ownBlock]) (j * 2 + 1) hxl
              rw [hxe] at y1
              have fz := HO.out.free (g := g) (by simp [Value.ownBlock]) (j * 2 + 1)
              have hgb := LFB.out g (by simp [Value.ownBlock])
              have HGB := hid hgb
              unfold maxLen at l2
              clear hxj hxl hxe hgb
              go_wp2
              go_roundw
              case rel => exact ⟨j + 1, _, hjt, by go_num, HO.out.set (by simp [Value.ownBlock]) (j * 2 + 1) _, fun q x hq hx => by
                rw [List.getElem?_set_ne (by omega)]
                exact HXS.out q x (by omega) hx, HCC.out.setCell HGB.out _⟩
              case measure => simp [intOf]; omega
            · obtain rfl : j = T.length := by omega
              obtain ⟨k0, k1, k2⟩ := CE.out _ HCC.out
              have hwk : IntKind.u32.wrap (k : Int) = (k : Int) := by simp [IntKind.wrap, IntKind.bits, IntKind.signed]; omega
              go_wp2_with fail
              obtain ⟨w15, hw15⟩ : ∃ w15, w15 = wr.alloc (.cells #[.int .u32 nn, .int .u32 a, .int .u32 b, .int .u32 k] 23) := ⟨_, rfl⟩
              have hrow := row_new wr (.cells #[.int .u32 nn, .int .u32 a, .int .u32 b, .int .u32 k] 23)
              have C15 := hid (show Below w8.heap.size w8 w15 by rw [hw15]; exact HCC.out.alloc HCC.out.size _)
              rw [← hw15] at hrow
              have hmc : ∀ j (hj : j < 4), ∃ m : Int, w15.cell? ⟨wr.heap.size, j, none⟩ = some (.int .u32 m) ∧ 0 ≤ m ∧ m ≤ 4294967295 := fun j hj => by
                match j, hj with
                | 0, _ => exact ⟨nn, by rw [row_cell hrow]; rfl, by omega, by omega⟩
                | 1, _ => exact ⟨a, by rw [row_cell hrow]; rfl, by omega, by omega⟩
                | 2, _ => exact ⟨b, by rw [row_cell hrow]; rfl, by omega, by omega⟩
                | 3, _ => exact ⟨k, by rw [row_cell hrow]; rfl, by omega, by omega⟩
              have MC := hid hmc
              rw [← hw15]
              clear hw15 hrow hmc k0 k1 k2 HO HXS
              obtain ⟨wo2, rfl⟩ : ∃ wo2 : World, wo2 = wr := ⟨_, rfl⟩
              go_loopw [143] (fun i wr => ∃ j : Nat, j ≤ 4 ∧ i = .int .i64 j ∧ Kept (fun _ => False) w15 wr) (fun i _ => 4 - (intOf i).toNat)
              case atStart => exact ⟨0, by omega, rfl, Kept.refl _ _⟩
              case round =>
                obtain ⟨j, hj, rfl, hk⟩ := hrel
                have K0 := hid hk; clear hk
                by_cases hj4 : j < 4
                · obtain ⟨m, y0, hm0, hm1⟩ := MC.out j hj4
                  have z0 := K0.out.cell y0 id
                  have hth := TI.out.has m hm0 hm1
                  have HTH := hid hth
                  have hji : (j : Int) < 4 := by omega
                  have hmm : (m != m) = false := by simp
                  have hfv1 : ((freeV T m).1 != (freeV T m).1) = false := by simp
                  have hfv2 : ((freeV T m).2 != (freeV T m).2) = false := by simp
                  have D0 := hid (C15.out.trans (K0.out.below (B := w8.heap.size) C15.out.size (fun _ h => h.elim)))
                  clear y0 hth
                  go_wp2_with fail
                  refine ((PL.out _ D0.out).s1.free m).mono ?_
                  rintro e w20 ⟨rfl, hk⟩
                  have K1 := hid (K0.out.trans hk); have D1 := hid (D0.out.trans (hk.below (B := w8.heap.size) D0.out.size (fun _ h => h.elim)))
                  clear hk K0 D0 z0
                  go_wp2_with fail
                  refine (rfree_any (rb := rb) (D := E) (fun w' hk' => (PL.out _ (D1.out.trans (hk'.below (B := w8.heap.size) D1.out.size (fun _ h => h.elim)))).rs TI.out.b (by have := HDL2.out; omega)) m (by rw [HSP.out]; exact GT.out)).mono ?_
                  rintro e w21 ⟨rfl, hk⟩
                  rw [HSP.out]
                  have K2 := hid (K1.out.trans hk); have D2 := hid (D1.out.trans (hk.below (B := w8.heap.size) D1.out.size (fun _ h => h.elim)))
                  clear hk K1 D1
                  go_wp2_with fail
                  refine (free_nil m _).mono ?_
                  rintro e w22 ⟨rfl, rfl⟩
                  go_wp2_with fail
                  refine ((PL.out _ D2.out).s1.has m).mono ?_
                  rintro e w22 ⟨rfl, hk⟩
                  have K3 := hid (K2.out.trans hk); have D3 := hid (D2.out.trans (hk.below (B := w8.heap.size) D2.out.size (fun _ h => h.elim)))
                  clear hk K2 D2
                  obtain ⟨F5, G5, _, hra, _⟩ := (PL.out _ D3.out).ex
                  have RA := hid hra; clear hra
                  go_wp2_with fail
                  refine (rhas_any RA.out m).mono ?_
                  rintro e w23 ⟨rfl, hk⟩
                  rw [← HTH.out]
                  have K4 := hid (K3.out.trans hk)
                  clear hk K3 D3 RA
                  obtain ⟨f1, hf1⟩ : ∃ f1, f1 = (freeV T m).1 := ⟨_, rfl⟩
                  obtain ⟨f2, hf2⟩ : ∃ f2, f2 = (freeV T m).2 := ⟨_, rfl⟩
                  go_wp2_with fail
                  refine (has_nil m _).mono ?_
                  rintro e w24 ⟨rfl, rfl⟩
                  clear hf1 hf2
                  go_wp2
                  go_roundw
                  case rel => exact ⟨j + 1, hj4, by go_num, K4.out⟩
                  case measure => simp [intOf]; omega
                · obtain rfl : j = 4 := by omega
                  have D0 := hid (C15.out.trans (K0.out.below (B := w8.heap.size) C15.out.size (fun _ h => h.elim)))
                  go_wp2
                  go_roundw
                  case rel => exact ⟨k + 1, T, E, hlt, by go_num, B8.out.trans (D0.out.mono B8.out.size), PL.out _ D0.out, TI.out, HDL2.out, by omega⟩
                  case measure => simp [intOf]; omega
      · have hki : (40 : Int) ≤ (k : Int) := by omega
        have HB := hid (HB.out.alloc HB.out.size (.cells #[.int .u32 a, .int .u32 b, .bool inn] 33))
        go_wp2_with fail
        refine (count_nil _).mono ?_
        rintro e w3 ⟨rfl, rfl⟩
        go_wp2_with fail
        refine (spans_nil _).mono ?_
        rintro e w3 ⟨rfl, rfl⟩
        go_wp2
        go_ret
        exact ⟨rfl, HB.out⟩
    · obtain rfl : k = L.length := by omega
      go_wp2_with fail
      refine (count_nil _).mono ?_
      rintro e w3 ⟨rfl, rfl⟩
      go_wp2_with fail
      refine (spans_nil _).mono ?_
      rintro e w3 ⟨rfl, rfl⟩
      go_wp2
      go_ret
      exact ⟨rfl, HB.out⟩
end Go.Proofs.Ytglcpiokmieppaa
