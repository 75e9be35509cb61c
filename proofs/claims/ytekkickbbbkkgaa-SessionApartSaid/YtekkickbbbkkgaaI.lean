/- The walk of SessionApart. -/
import Derived.Test.YtekkickbbbkkgaaH
import Derived.LaidEqlPtr
namespace Go.Proofs.Ytekkickbbbkkgaa
open Go.RowKit

def opF (kd oc os : Int) (B : Ans) (f : Nat → Cl) : Nat → Cl := if kd = 1 then sAll f oc os else if kd = 2 then nAll f oc os B else if kd = 3 then fAll f oc os else f
theorem upd_other (f : Nat → Cl) {c d : Nat} (x : Cl) (h : c ≠ d) : upd f d x c = f c := by simp [upd, h]
theorem opF_other {kd oc os : Int} {B : Ans} {f : Nat → Cl} {c : Nat} (h0 : 0 ≤ oc) (h : oc ≠ c) : opF kd oc os B f c = f c := by
  have hn : c ≠ oc.toNat := by omega
  unfold opF sAll nAll fAll
  split
  · split
    · exact upd_other _ _ hn
    · rfl
  · split
    · split
      · exact upd_other _ _ hn
      · rfl
    · split
      · split
        · exact upd_other _ _ hn
        · rfl
      · rfl
theorem opF_same {kd os : Int} {B : Ans} {f g : Nat → Cl} {c : Nat} (h : f c = g c) : opF kd c os B f c = opF kd c os B g c := by
  unfold opF sAll nAll fAll
  rw [Int.toNat_natCast]
  split
  · split
    · rw [upd_at, upd_at, h]
    · exact h
  · split
    · split
      · rw [upd_at, upd_at, h]
      · exact h
    · split
      · split
        · rw [upd_at, upd_at, h]
        · exact h
      · exact h
theorem aAll_same {f g : Nat → Cl} {c : Nat} (h : f c = g c) (s : Int) : aAll g c s = aAll f c s := by
  unfold aAll
  rw [Int.toNat_natCast, h]

theorem Lies.zero {F G : Nat → Prop} {w : World} {size : Nat} {v : Value} {m : Nat} {news : List Value} (h : Lies F w size v m news) (h0 : m = 0) : Lies G w size v m news := by
  obtain ⟨ao, c, h1, h2, h2', h3, h4, h5, h6⟩ := h
  exact ⟨ao, c, h1, h2, h2', h3, h4, fun hm => by omega, h6⟩
theorem TabAt.zero {F G : Nat → Prop} {w : World} {tb : Nat} (h : TabAt F w tb (fun _ => zcl)) (hm : G tb) (hl : ∀ g, G g → g < w.heap.size) : TabAt G w tb (fun _ => zcl) := by
  obtain ⟨cs, b1, b2, b3⟩ := h.blk
  refine ⟨hm, hl, cs, b1, b2, fun c hc => ?_⟩
  obtain ⟨v, l, q⟩ := b3 c hc
  exact ⟨v, l, q.c0, q.c1, q.c2, q.c3, q.c4, q.c5, ⟨q.a.v.zero rfl, q.a.l.zero rfl, q.a.vb, q.a.lb⟩, q.r0, q.r1⟩
def Two (ta tb : Nat) (g : Nat) : Prop := g = ta ∨ g = tb
structure Tabs (W wr : World) (ta tb : Nat) (f g : Nat → Cl) : Prop where
  a : TabAt (Two ta tb) wr ta f
  b : TabAt (Two ta tb) wr tb g
  k : Kept (fun _ => False) W wr
  la : W.heap.size ≤ ta
  lb : W.heap.size ≤ tb
  ne : ta ≠ tb
theorem Tabs.same {W wr w' : World} {ta tb : Nat} {f g : Nat → Cl} (h : Tabs W wr ta tb f g) (k : Kept (fun _ => False) wr w') : Tabs W w' ta tb f g :=
  ⟨h.a.same k, h.b.same k, h.k.trans k, h.la, h.lb, h.ne⟩
theorem Tabs.stepA {W wr w' : World} {ta tb : Nat} {f g f' : Nat → Cl} (h : Tabs W wr ta tb f g) (k : Kept (fun x => x = ta) wr w') (ht : TabAt (Two ta tb) w' ta f') : Tabs W w' ta tb f' g :=
  ⟨ht, h.b.kept k (fun _ e => .inl e) (fun e => h.ne e.symm), h.k.trans' k (fun _ e => .inr (by have := h.la; omega)), h.la, h.lb, h.ne⟩
theorem Tabs.stepB {W wr w' : World} {ta tb : Nat} {f g g' : Nat → Cl} (h : Tabs W wr ta tb f g) (k : Kept (fun x => x = tb) wr w') (ht : TabAt (Two ta tb) w' tb g') : Tabs W w' ta tb f g' :=
  ⟨h.a.kept k (fun _ e => .inr e) (fun e => h.ne e), ht, h.k.trans' k (fun _ e => .inr (by have := h.lb; omega)), h.la, h.lb, h.ne⟩

/-- .. and two blocks besides -/
structure In (W wr : World) (ta tb : Nat) (f g : Nat → Cl) (sb ob : Nat) (so oo : Obj) : Prop where
  t : Tabs W wr ta tb f g
  s : wr.heap[sb]? = some so
  o : wr.heap[ob]? = some oo
  s1 : sb ≠ ta
  s2 : sb ≠ tb
  o1 : ob ≠ ta
  o2 : ob ≠ tb
theorem In.same {W wr w' : World} {ta tb : Nat} {f g : Nat → Cl} {sb ob : Nat} {so oo : Obj} (h : In W wr ta tb f g sb ob so oo) (k : Kept (fun _ => False) wr w') : In W w' ta tb f g sb ob so oo :=
  ⟨h.t.same k, (k.block _ (row_lt h.s) id).trans h.s, (k.block _ (row_lt h.o) id).trans h.o, h.s1, h.s2, h.o1, h.o2⟩
theorem In.stepA {W wr w' : World} {ta tb : Nat} {f g f' : Nat → Cl} {sb ob : Nat} {so oo : Obj} (h : In W wr ta tb f g sb ob so oo) (k : Kept (fun x => x = ta) wr w') (ht : TabAt (Two ta tb) w' ta f') : In W w' ta tb f' g sb ob so oo :=
  ⟨h.t.stepA k ht, (k.block _ (row_lt h.s) h.s1).trans h.s, (k.block _ (row_lt h.o) h.o1).trans h.o, h.s1, h.s2, h.o1, h.o2⟩
theorem In.stepB {W wr w' : World} {ta tb : Nat} {f g g' : Nat → Cl} {sb ob : Nat} {so oo : Obj} (h : In W wr ta tb f g sb ob so oo) (k : Kept (fun x => x = tb) wr w') (ht : TabAt (Two ta tb) w' tb g') : In W w' ta tb f g' sb ob so oo :=
  ⟨h.t.stepB k ht, (k.block _ (row_lt h.s) h.s2).trans h.s, (k.block _ (row_lt h.o) h.o2).trans h.o, h.s1, h.s2, h.o1, h.o2⟩

/-- how the two stand in the inner loop -/
def J (kd oc os : Int) (B : Ans) (c j : Nat) (f g : Nat → Cl) : Prop := (j = 1 → ∃ f0, f = opF kd oc os B f0 ∧ f0 c = g c) ∧ (j ≠ 1 → f c = g c)

theorem ask_allis {F : Nat → Prop} {w : World} {tb : Nat} {f : Nat → Cl} (h : TabAt F w tb f) (c : Nat) (seq n er : Int) (A : Ans) (hr : aAll f c seq = (n, A, er)) (s0 : 0 ≤ seq) (s1 : seq ≤ 4294967295) :
    Calls Try.prog 10 #[.pointer (some ⟨tb, 0, none⟩), .int .u8 c, .int .u32 seq] w fun e w' => ∃ a1 c1 a2 c2, e = .returned (.tuple #[.int .i64 n, .agg #[.int .i64 A.e, .int .i64 A.p, .slice a1 A.vals.length c1, .slice a2 A.list.length c2], .int .i64 er]) ∧
    AnsIn (fun g => g < w.heap.size) w' (.slice a1 A.vals.length c1) (.slice a2 A.list.length c2) A ∧ Kept (fun _ => False) w w' := by
  have := ask_all h c seq (by omega) s0 s1
  rw [hr] at this
  exact this
theorem last_is {F : Nat → Prop} {w : World} {tb : Nat} {f : Nat → Cl} (h : TabAt F w tb f) (c : Nat) (hc : c < 4) (x : Cl) (hx : f c = x) :
    Calls Try.prog 13 #[.pointer (some ⟨tb, 0, none⟩), .int .u8 c] w fun e w' => ∃ a1 c1 a2 c2, e = .returned (.tuple #[.int .u32 x.last, .agg #[.int .i64 x.a.e, .int .i64 x.a.p, .slice a1 x.a.vals.length c1, .slice a2 x.a.list.length c2], .int .i64 0]) ∧ Kept (fun _ => False) w w' := by
  subst hx
  exact (last_yes h c hc).mono fun e w' ⟨a1, c1, a2, c2, h1, _, h3⟩ => ⟨a1, c1, a2, c2, h1, h3⟩
theorem opF_1 {oc os : Int} {B : Ans} {f : Nat → Cl} : sAll f oc os = opF 1 oc os B f := rfl
theorem opF_2 {oc os : Int} {B : Ans} {f : Nat → Cl} : nAll f oc os B = opF 2 oc os B f := rfl
theorem opF_3 {oc os : Int} {B : Ans} {f : Nat → Cl} : fAll f oc os = opF 3 oc os B f := rfl
theorem opF_no {kd oc os : Int} {B : Ans} {f : Nat → Cl} (h1 : ¬ kd = 1) (h2 : ¬ kd = 2) (h3 : ¬ kd = 3) : f = opF kd oc os B f := by simp [opF, h1, h2, h3]


theorem J_no {kd oc os : Int} {B : Ans} {c j : Nat} {f g : Nat → Cl} (h : J kd oc os B c j f (opF kd oc os B g)) (h1 : ¬ kd = 1) (h2 : ¬ kd = 2) (h3 : ¬ kd = 3) : J kd oc os B c j f g := by
  rwa [← opF_no h1 h2 h3] at h
theorem infoT : (Try.prog.info? 49).map (·.size) = some 24 := by kernel_rfl
theorem eq_same (w : World) (a : Addr) : (binOp .eql 30 (.pointer (some a)) (.pointer (some a))).run Try.prog w = .ok (.bool true) w := by
  obtain ⟨i, h1, h2⟩ := Option.map_eq_some_iff.1 infoT
  exact run_eql_ptr_same (P := Try.prog) (w := w) a Try.underlying30 h1
theorem eq_other {w : World} {a b : Nat} {ca cb : Array Value} (hne : a ≠ b) (ha : w.heap[a]? = some (.cells ca 49 (0, 0))) (hb : w.heap[b]? = some (.cells cb 49 (0, 0))) :
    (binOp .eql 30 (.pointer (some ⟨a, 0, none⟩)) (.pointer (some ⟨b, 0, none⟩))).run Try.prog w = .ok (.bool false) w := by
  obtain ⟨i, h1, h2⟩ := Option.map_eq_some_iff.1 infoT
  exact run_eql_ptr_other (P := Try.prog) (w := w) Try.underlying30 h1 (by rw [h2]; decide) (by simp [hne]) ha hb

set_option maxRecDepth 100000 in
set_option maxHeartbeats 40000000 in
theorem apart_walk (W : World) (args : Array Value) (h : RdAll Try.prog W Try.f4.params.toList args.toList) :
    Calls Try.prog 4 args W fun e W' => e = .returned (.bool true) ∧ Below W.heap.size W W' := by
  rw [Try.params4] at h
  obtain ⟨v0, v1, v2, rfl⟩ : ∃ v0 v1 v2, args = #[v0, v1, v2] := by
    rcases args with ⟨_ | ⟨v0, _ | ⟨v1, _ | ⟨v2, _ | ⟨v3, l⟩⟩⟩⟩⟩ <;> simp [RdAll] at h
    exact ⟨v0, v1, v2, rfl⟩
  obtain ⟨r0, r1, r2, _⟩ := h
  obtain ⟨a0, len0, cap0, rfl, h0⟩ := r0.slice Try.underlying22
  obtain ⟨l0, m0, z0, _, c0⟩ := h0.row Try.underlying22 cellsO (by decide)
  obtain ⟨cl, rfl, wc⟩ := r1.int Try.underlying5
  obtain ⟨sq, rfl, ws⟩ := r2.int Try.underlying23
  have wc := wf8 wc
  have ws := wf32 ws
  unfold maxLen at m0
  obtain ⟨c, hc, hcm⟩ : ∃ c : Nat, c < 4 ∧ cl % 4 = c := ⟨(cl % 4).toNat, by omega, by omega⟩
  have C0 := hid c0
  clear c0 h0 r0 r1 r2 z0
  go_enter Try.func4, Try.ntmps4
  go_wp2_with fail
  refine (awake_any _).mono ?_; rintro e w1 ⟨rfl, hk1⟩
  have K1 := hid hk1
  clear hk1
  go_wp2_with fail
  refine (new_any _).mono ?_; rintro e w2 ⟨rfl, ht2, hk2, hz2⟩
  have T2 := hid ht2; have K2 := hid (K1.out.trans hk2); have Z2 := hid hz2
  clear ht2 hk2 hz2
  go_wp2_with fail
  refine (new_any _).mono ?_; rintro e w3 ⟨rfl, ht3, hk3, hz3⟩
  have HT : Tabs W w3 w1.heap.size w2.heap.size (fun _ => zcl) (fun _ => zcl) := by
    have hz2 := Z2.out
    have q0 := K1.out.size
    have hl : ∀ g, Two w1.heap.size w2.heap.size g → g < w3.heap.size := fun g hg => by unfold Two at hg; omega
    exact ⟨(T2.out.same hk3).zero (.inl rfl) hl, ht3.zero (.inr rfl) hl, K2.out.trans hk3, q0, by omega, by omega⟩
  have HT := hid HT
  clear ht3 hk3 hz3 K1 K2 Z2 T2
  go_wp2_with fail
  rw [hcm]
  clear hcm wc
  go_loopw [33] (fun i wr => ∃ (k : Nat) (f g : Nat → Cl), k ≤ len0 ∧ i = .int .i64 k ∧ Tabs W wr w1.heap.size w2.heap.size f g ∧ f c = g c) (fun i _ => len0 - (intOf i).toNat)
  case atStart => exact ⟨0, _, _, Nat.zero_le _, rfl, HT.out, rfl⟩
  case round =>
    clear HT
    obtain ⟨k, f, g, hk, rfl, htt, hfg⟩ := hrel
    have T := hid htt; have FG := hid hfg; clear htt hfg
    by_cases hlt : k < len0
    · obtain ⟨b, off, es, rfl, hbl, hes, hcv, hr⟩ := C0.out k (by omega)
      obtain ⟨kd, oc, os, B, v, l, rfl, hB, oc0, os0, os1⟩ := op_read hes hr
      obtain ⟨p3, q3, p4, q4, rfl, rfl⟩ := hB.shape
      have HB := hid hB
      have k0 := T.out.k.cell (hcv 0 (by omega)) id
      have k1 := T.out.k.cell (hcv 1 (by omega)) id
      have k2 := T.out.k.cell (hcv 2 (by omega)) id
      have k3 := T.out.k.cell (hcv 3 (by omega)) id
      have k4 := T.out.k.cell (hcv 4 (by omega)) id
      have k5 := T.out.k.cell (hcv 5 (by omega)) id
      have k6 := T.out.k.cell (hcv 6 (by omega)) id
      simp only [Nat.add_zero] at k0 k1 k2 k3 k4 k5 k6
      clear hcv hr hes hB
      by_cases h60 : (60 : Int) ≤ (k : Int)
      · have hka := T.out.same ((Kept.refl _ _).alloc (.cells #[.int .u8 kd, .int .u8 oc, .int .u32 os, .int .i64 B.e, .int .i64 B.p, .slice p3 B.vals.length q3, .slice p4 B.list.length q4] 36))
        have T := hid hka
        clear hka
        obtain ⟨n, A, er, hr⟩ : ∃ n A er, aAll f c sq = (n, A, er) := ⟨_, _, _, rfl⟩
        have hr' : aAll g c sq = (n, A, er) := by rw [aAll_same FG.out]; exact hr
        have HR := hid hr; have HR' := hid hr'; clear hr hr'
        obtain ⟨x, hx⟩ : ∃ x, f c = x := ⟨_, rfl⟩
        have HX := hid hx; have HX' := hid (FG.out.symm.trans hx); clear hx
        have en : (n == n) = true := by simp
        have ee : (er == er) = true := by simp
        have el : (x.last == x.last) = true := by simp
        go_wp2_with fail
        refine (ask_allis T.out.a c sq n er A HR.out ws.1 ws.2).mono ?_; rintro e w4 ⟨a1, c1, a2, c2, rfl, ha4, hk4⟩
        have D4 := hid (row_new w4 (.cells #[.int .i64 A.e, .int .i64 A.p, .slice a1 A.vals.length c1, .slice a2 A.list.length c2] 28))
        have k4' := (Kept.refl (fun _ => False) w4).alloc (.cells #[.int .i64 A.e, .int .i64 A.p, .slice a1 A.vals.length c1, .slice a2 A.list.length c2] 28)
        have A4 := hid (ha4.same k4'); have T4 := hid ((T.out.same hk4).same k4'); clear ha4 hk4 k4' T
        go_wp2_with fail
        refine (ask_allis T4.out.b c sq n er A HR'.out ws.1 ws.2).mono ?_; rintro e w5 ⟨a3, c3, a4, c4, rfl, ha5, hk5⟩
        have D5 := hid (row_new w5 (.cells #[.int .i64 A.e, .int .i64 A.p, .slice a3 A.vals.length c3, .slice a4 A.list.length c4] 28))
        have k5' := (Kept.refl (fun _ => False) w5).alloc (.cells #[.int .i64 A.e, .int .i64 A.p, .slice a3 A.vals.length c3, .slice a4 A.list.length c4] 28)
        have A5 := hid (ha5.same k5'); have T5 := hid ((T4.out.same hk5).same k5'); have A45 := hid ((A4.out.same hk5).same k5'); have D45 := hid ((k5'.block _ (Nat.lt_of_lt_of_le (row_lt D4.out) hk5.size) id).trans ((hk5.block _ (row_lt D4.out) id).trans D4.out)); clear ha5 hk5 k5' T4 A4 D4
        go_wp2_with fail
        refine (last_is T5.out.a c hc x HX.out).mono ?_; rintro e w6 ⟨a5, c5, a6, c6, rfl, hk6⟩
        have k6' := hk6.alloc (.cells #[.int .i64 x.a.e, .int .i64 x.a.p, .slice a5 x.a.vals.length c5, .slice a6 x.a.list.length c6] 28)
        have T6 := hid (T5.out.same k6'); have A6 := hid (A5.out.same k6'); have A46 := hid (A45.out.same k6'); have D46 := hid ((k6'.block _ (row_lt D45.out) id).trans D45.out); have D6 := hid ((k6'.block _ (row_lt D5.out) id).trans D5.out); clear hk6 k6' T5 A5 A45 D45 D5
        go_wp2_with fail
        refine (last_is T6.out.b c hc x HX'.out).mono ?_; rintro e w7 ⟨a7, c7, a8, c8, rfl, hk7⟩
        have k7' := hk7.alloc (.cells #[.int .i64 x.a.e, .int .i64 x.a.p, .slice a7 x.a.vals.length c7, .slice a8 x.a.list.length c8] 28)
        have T7 := hid (T6.out.same k7'); have A7 := hid (A6.out.same k7'); have A47 := hid (A46.out.same k7'); have d47 := (k7'.block _ (row_lt D46.out) id).trans D46.out; have d7 := (k7'.block _ (row_lt D6.out) id).trans D6.out; clear hk7 k7' T6 A6 A46
        obtain ⟨b0, b1, b2, b3, b4⟩ := cells4 d47
        obtain ⟨d0, d1, d2, d3, d4⟩ := cells4 d7
        clear d47 d7
        go_wp2_with fail
        refine (same_answer (A := A) (by exact A47.out) (by exact A7.out)).mono ?_; rintro e w9 ⟨rfl, hk9⟩
        have K9 := hid (T7.out.k.trans hk9)
        go_wp2
        go_ret
        exact ⟨rfl, K9.out.below (Nat.le_refl _) (fun _ h => h.elim)⟩
      · have hn2 := two_new wr (.cells #[.int .u8 kd, .int .u8 oc, .int .u32 os, .int .i64 B.e, .int .i64 B.p, .slice p3 B.vals.length q3, .slice p4 B.list.length q4] 36) (.cells #[.pointer (some ⟨w1.heap.size, 0, none⟩), .pointer (some ⟨w2.heap.size, 0, none⟩)] 30)
        have hin : In W ((wr.alloc (.cells #[.int .u8 kd, .int .u8 oc, .int .u32 os, .int .i64 B.e, .int .i64 B.p, .slice p3 B.vals.length q3, .slice p4 B.list.length q4] 36)).alloc (.cells #[.pointer (some ⟨w1.heap.size, 0, none⟩), .pointer (some ⟨w2.heap.size, 0, none⟩)] 30)) w1.heap.size w2.heap.size f g (wr.heap.size + 1) wr.heap.size (.cells #[.pointer (some ⟨w1.heap.size, 0, none⟩), .pointer (some ⟨w2.heap.size, 0, none⟩)] 30) (.cells #[.int .u8 kd, .int .u8 oc, .int .u32 os, .int .i64 B.e, .int .i64 B.p, .slice p3 B.vals.length q3, .slice p4 B.list.length q4] 36) := by
          have q1 := T.out.a.lt _ (.inl rfl)
          have q2 := T.out.b.lt _ (.inr rfl)
          exact ⟨T.out.same (((Kept.refl _ _).alloc _).alloc _), hn2.2, hn2.1, by omega, by omega, by omega, by omega⟩
        have I0 := hid hin
        clear hin hn2
        go_wp2_with fail
        obtain ⟨wo, rfl⟩ : ∃ wo : World, wo = wr := ⟨_, rfl⟩
        go_loopw [44] (fun i w' => ∃ (j : Nat) (f g : Nat → Cl), j ≤ 2 ∧ i = .int .i64 j ∧ In W w' w1.heap.size w2.heap.size f g (wo.heap.size + 1) wo.heap.size (.cells #[.pointer (some ⟨w1.heap.size, 0, none⟩), .pointer (some ⟨w2.heap.size, 0, none⟩)] 30) (.cells #[.int .u8 kd, .int .u8 oc, .int .u32 os, .int .i64 B.e, .int .i64 B.p, .slice p3 B.vals.length q3, .slice p4 B.list.length q4] 36) ∧ J kd oc os B c j f g) (fun i _ => 2 - (intOf i).toNat)
        case atStart => exact ⟨0, f, g, by decide, rfl, I0.out, fun h => by simp at h, fun _ => FG.out⟩
        case round =>
          clear I0 FG T
          obtain ⟨j, f, g, hj, rfl, hin, hJ⟩ := hrel
          have I := hid hin; have HJ := hid hJ; clear hin hJ
          have s0 := row_cell I.out.s
          match j, hj with
          | 0, _ =>
            have c0 := s0 0
            have FG : Hid (f c = g c) := hid (HJ.out.2 (by decide))
            simp only [List.getElem?_toArray, List.getElem?_cons_zero] at c0
            clear s0 HJ
            obtain ⟨o0, o1, o2, o3, o4, o5, o6⟩ := cells7 I.out.o
            have heq := eq_other I.out.t.ne I.out.t.a.blk.choose_spec.1 I.out.t.b.blk.choose_spec.1
            have s0 := trivial
            by_cases d1 : kd = 1
            · subst d1
              go_wp2_with fail
              refine (start_all I.out.t.a oc os oc0 os0 os1).mono ?_; rintro e w7 ⟨r, rfl, ht7, hk7⟩
              rw [opF_1 (B := B)] at ht7
              have I7 := hid (I.out.stepA hk7 ht7); clear hk7 ht7
              go_wp2
              go_roundw
              case rel => exact ⟨1, _, _, by omega, by go_num, I7.out, ⟨fun _ => ⟨f, rfl, FG.out⟩, fun h => absurd rfl h⟩⟩
              case measure => simp [intOf]
            · by_cases d2 : kd = 2
              · subst d2
                have HNE := hid I.out.o1
                go_wp2_with fail
                go_region_held3 (fun w' => w'.cell? ⟨wo.heap.size, 1, none⟩ = some (.int .u8 oc) ∧ w'.cell? ⟨wo.heap.size, 2, none⟩ = some (.int .u32 os) ∧ w'.cell? ⟨wo.heap.size, 3, none⟩ = some (.int .i64 B.e) ∧ w'.cell? ⟨wo.heap.size, 4, none⟩ = some (.int .i64 B.p) ∧ w'.cell? ⟨wo.heap.size, 5, none⟩ = some (.slice p3 B.vals.length q3) ∧ w'.cell? ⟨wo.heap.size, 6, none⟩ = some (.slice p4 B.list.length q4))
                  (first | exact ⟨o1, o2, o3, o4, o5, o6⟩ | exact ⟨i1, i2, i3, i4, i5, i6⟩ | exact ⟨n1, n2, n3, n4, n5, n6⟩)
                  (first
                    | (go_at_call 9; refine (twin_any (A := B) (by exact HB.out.same (I.out.t.k.drew))).mono ?_; rintro e w6a ⟨y1, z1, y2, z2, rfl, ha6, hk6⟩; have HA6 := hid ha6; have hk6 := hk6.of_drew; have i1 := hk6.cell o1 id; have i2 := hk6.cell o2 id; have i3 := hk6.cell o3 id; have i4 := hk6.cell o4 id; have i5 := hk6.cell o5 id; have i6 := hk6.cell o6 id; have I2 := hid (I.out.same hk6); clear ha6 hk6)
                    | (go_at_call 8; refine (finish_all I2.out.t.a oc os oc0 os0 os1 (A := B) HA6.out).mono ?_; rintro e w7 ⟨r, rfl, ht7, hk7⟩; rw [opF_2] at ht7; have I7 := hid (I2.out.stepA hk7 ht7); have n1 := hk7.cell i1 HNE.out; have n2 := hk7.cell i2 HNE.out; have n3 := hk7.cell i3 HNE.out; have n4 := hk7.cell i4 HNE.out; have n5 := hk7.cell i5 HNE.out; have n6 := hk7.cell i6 HNE.out; clear ht7 hk7))
                all_goals
                  clear o0 o1 o2 o3 o4 o5 o6 i1 i2 i3 i4 i5 i6 n1 n2 n3 n4 n5 n6
                  go_wp2
                  go_roundw
                  case rel => exact ⟨1, _, _, by omega, by go_num, I7.out, ⟨fun _ => ⟨f, rfl, FG.out⟩, fun h => absurd rfl h⟩⟩
                  case measure => simp [intOf]
              · by_cases d3 : kd = 3
                · subst d3
                  go_wp2_with fail
                  refine (fail_all I.out.t.a oc os oc0).mono ?_; rintro e w7 ⟨r, rfl, ht7, hk7⟩
                  rw [opF_3 (B := B)] at ht7
                  have I7 := hid (I.out.stepA hk7 ht7); clear hk7 ht7
                  go_wp2
                  go_roundw
                  case rel => exact ⟨1, _, _, by omega, by go_num, I7.out, ⟨fun _ => ⟨f, rfl, FG.out⟩, fun h => absurd rfl h⟩⟩
                  case measure => simp [intOf]
                · have NO := hid (⟨d1, d2, d3⟩ : ¬ kd = 1 ∧ ¬ kd = 2 ∧ ¬ kd = 3)
                  go_wp2
                  go_roundw
                  case rel => exact ⟨1, _, _, by omega, by go_num, I.out, ⟨fun _ => ⟨f, opF_no NO.out.1 NO.out.2.1 NO.out.2.2, FG.out⟩, fun h => absurd rfl h⟩⟩
                  case measure => simp [intOf]
          | 1, _ =>
            have c0 := s0 1
            obtain ⟨f0, e0, FG0⟩ := HJ.out.1 rfl
            simp only [List.getElem?_toArray, List.getElem?_cons_zero, List.getElem?_cons_succ] at c0
            clear s0 HJ
            obtain ⟨o0, o1, o2, o3, o4, o5, o6⟩ := cells7 I.out.o
            have heq := eq_same wr ⟨w2.heap.size, 0, none⟩
            have HE0 := hid e0; have FG := hid FG0; clear e0 FG0
            by_cases hoc : oc = (c : Int)
            · have HO := hid hoc
              have hoc' : (oc != (c : Int)) = false := by simp [hoc]
              have HJ2 : Hid (J kd oc os B c 2 f (opF kd oc os B g)) := hid ⟨fun h => absurd h (by decide), fun _ => by
                have h1 := HE0.out; have h2 := FG.out
                rw [h1, hoc]
                exact opF_same h2⟩
              clear hoc HO
              by_cases d1 : kd = 1
              · subst d1
                go_wp2_with fail
                refine (start_all I.out.t.b oc os oc0 os0 os1).mono ?_; rintro e w7 ⟨r, rfl, ht7, hk7⟩
                rw [opF_1 (B := B)] at ht7
                have I7 := hid (I.out.stepB hk7 ht7); clear hk7 ht7
                go_wp2
                go_roundw
                case rel => exact ⟨2, _, _, by omega, by go_num, I7.out, HJ2.out⟩
                case measure => simp [intOf]
              · by_cases d2 : kd = 2
                · subst d2
                  have HNE := hid I.out.o2
                  go_wp2_with fail
                  go_region_held3 (fun w' => w'.cell? ⟨wo.heap.size, 1, none⟩ = some (.int .u8 oc) ∧ w'.cell? ⟨wo.heap.size, 2, none⟩ = some (.int .u32 os) ∧ w'.cell? ⟨wo.heap.size, 3, none⟩ = some (.int .i64 B.e) ∧ w'.cell? ⟨wo.heap.size, 4, none⟩ = some (.int .i64 B.p) ∧ w'.cell? ⟨wo.heap.size, 5, none⟩ = some (.slice p3 B.vals.length q3) ∧ w'.cell? ⟨wo.heap.size, 6, none⟩ = some (.slice p4 B.list.length q4))
                    (first | exact ⟨o1, o2, o3, o4, o5, o6⟩ | exact ⟨i1, i2, i3, i4, i5, i6⟩ | exact ⟨n1, n2, n3, n4, n5, n6⟩)
                    (first
                      | (go_at_call 9; refine (twin_any (A := B) (by exact HB.out.same (I.out.t.k.drew))).mono ?_; rintro e w6a ⟨y1, z1, y2, z2, rfl, ha6, hk6⟩; have HA6 := hid ha6; have hk6 := hk6.of_drew; have i1 := hk6.cell o1 id; have i2 := hk6.cell o2 id; have i3 := hk6.cell o3 id; have i4 := hk6.cell o4 id; have i5 := hk6.cell o5 id; have i6 := hk6.cell o6 id; have I2 := hid (I.out.same hk6); clear ha6 hk6)
                      | (go_at_call 8; refine (finish_all I2.out.t.b oc os oc0 os0 os1 (A := B) HA6.out).mono ?_; rintro e w7 ⟨r, rfl, ht7, hk7⟩; rw [opF_2] at ht7; have I7 := hid (I2.out.stepB hk7 ht7); have n1 := hk7.cell i1 HNE.out; have n2 := hk7.cell i2 HNE.out; have n3 := hk7.cell i3 HNE.out; have n4 := hk7.cell i4 HNE.out; have n5 := hk7.cell i5 HNE.out; have n6 := hk7.cell i6 HNE.out; clear ht7 hk7))
                  all_goals
                    clear o0 o1 o2 o3 o4 o5 o6 i1 i2 i3 i4 i5 i6 n1 n2 n3 n4 n5 n6
                    go_wp2
                    go_roundw
                    case rel => exact ⟨2, _, _, by omega, by go_num, I7.out, HJ2.out⟩
                    case measure => simp [intOf]
                · by_cases d3 : kd = 3
                  · subst d3
                    go_wp2_with fail
                    refine (fail_all I.out.t.b oc os oc0).mono ?_; rintro e w7 ⟨r, rfl, ht7, hk7⟩
                    rw [opF_3 (B := B)] at ht7
                    have I7 := hid (I.out.stepB hk7 ht7); clear hk7 ht7
                    go_wp2
                    go_roundw
                    case rel => exact ⟨2, _, _, by omega, by go_num, I7.out, HJ2.out⟩
                    case measure => simp [intOf]
                  · have NO := hid (⟨d1, d2, d3⟩ : ¬ kd = 1 ∧ ¬ kd = 2 ∧ ¬ kd = 3)
                    go_wp2
                    go_roundw
                    case rel => exact ⟨2, _, _, by omega, by go_num, I.out, (J_no HJ2.out NO.out.1 NO.out.2.1 NO.out.2.2)⟩
                    case measure => simp [intOf]
            · have hoc' : (oc != (c : Int)) = true := by simpa using hoc
              have HJ2 : Hid (J kd oc os B c 2 f g) := hid ⟨fun h => absurd h (by decide), fun _ => by rw [HE0.out, opF_other oc0 hoc]; exact FG.out⟩
              clear hoc
              go_wp2
              go_roundw
              case rel => exact ⟨2, _, _, by omega, by go_num, I.out, HJ2.out⟩
              case measure => simp [intOf]
          | 2, _ =>
            go_wp2
            go_roundw
            case rel => exact ⟨k + 1, f, g, by omega, by go_num, I.out.t, HJ.out.2 (by decide)⟩
            case measure => simp [intOf]; omega
    · obtain ⟨n, A, er, hr⟩ : ∃ n A er, aAll f c sq = (n, A, er) := ⟨_, _, _, rfl⟩
      have hr' : aAll g c sq = (n, A, er) := by rw [aAll_same FG.out]; exact hr
      have HR := hid hr; have HR' := hid hr'; clear hr hr'
      obtain ⟨x, hx⟩ : ∃ x, f c = x := ⟨_, rfl⟩
      have HX := hid hx; have HX' := hid (FG.out.symm.trans hx); clear hx
      have en : (n == n) = true := by simp
      have ee : (er == er) = true := by simp
      have el : (x.last == x.last) = true := by simp
      go_wp2_with fail
      refine (ask_allis T.out.a c sq n er A HR.out ws.1 ws.2).mono ?_; rintro e w4 ⟨a1, c1, a2, c2, rfl, ha4, hk4⟩
      have D4 := hid (row_new w4 (.cells #[.int .i64 A.e, .int .i64 A.p, .slice a1 A.vals.length c1, .slice a2 A.list.length c2] 28))
      have k4' := (Kept.refl (fun _ => False) w4).alloc (.cells #[.int .i64 A.e, .int .i64 A.p, .slice a1 A.vals.length c1, .slice a2 A.list.length c2] 28)
      have A4 := hid (ha4.same k4'); have T4 := hid ((T.out.same hk4).same k4'); clear ha4 hk4 k4' T
      go_wp2_with fail
      refine (ask_allis T4.out.b c sq n er A HR'.out ws.1 ws.2).mono ?_; rintro e w5 ⟨a3, c3, a4, c4, rfl, ha5, hk5⟩
      have D5 := hid (row_new w5 (.cells #[.int .i64 A.e, .int .i64 A.p, .slice a3 A.vals.length c3, .slice a4 A.list.length c4] 28))
      have k5' := (Kept.refl (fun _ => False) w5).alloc (.cells #[.int .i64 A.e, .int .i64 A.p, .slice a3 A.vals.length c3, .slice a4 A.list.length c4] 28)
      have A5 := hid (ha5.same k5'); have T5 := hid ((T4.out.same hk5).same k5'); have A45 := hid ((A4.out.same hk5).same k5'); have D45 := hid ((k5'.block _ (Nat.lt_of_lt_of_le (row_lt D4.out) hk5.size) id).trans ((hk5.block _ (row_lt D4.out) id).trans D4.out)); clear ha5 hk5 k5' T4 A4 D4
      go_wp2_with fail
      refine (last_is T5.out.a c hc x HX.out).mono ?_; rintro e w6 ⟨a5, c5, a6, c6, rfl, hk6⟩
      have k6' := hk6.alloc (.cells #[.int .i64 x.a.e, .int .i64 x.a.p, .slice a5 x.a.vals.length c5, .slice a6 x.a.list.length c6] 28)
      have T6 := hid (T5.out.same k6'); have A6 := hid (A5.out.same k6'); have A46 := hid (A45.out.same k6'); have D46 := hid ((k6'.block _ (row_lt D45.out) id).trans D45.out); have D6 := hid ((k6'.block _ (row_lt D5.out) id).trans D5.out); clear hk6 k6' T5 A5 A45 D45 D5
      go_wp2_with fail
      refine (last_is T6.out.b c hc x HX'.out).mono ?_; rintro e w7 ⟨a7, c7, a8, c8, rfl, hk7⟩
      have k7' := hk7.alloc (.cells #[.int .i64 x.a.e, .int .i64 x.a.p, .slice a7 x.a.vals.length c7, .slice a8 x.a.list.length c8] 28)
      have T7 := hid (T6.out.same k7'); have A7 := hid (A6.out.same k7'); have A47 := hid (A46.out.same k7'); have d47 := (k7'.block _ (row_lt D46.out) id).trans D46.out; have d7 := (k7'.block _ (row_lt D6.out) id).trans D6.out; clear hk7 k7' T6 A6 A46
      obtain ⟨b0, b1, b2, b3, b4⟩ := cells4 d47
      obtain ⟨d0, d1, d2, d3, d4⟩ := cells4 d7
      clear d47 d7
      go_wp2_with fail
      refine (same_answer (A := A) (by exact A47.out) (by exact A7.out)).mono ?_; rintro e w9 ⟨rfl, hk9⟩
      have K9 := hid (T7.out.k.trans hk9)
      go_wp2
      go_ret
      exact ⟨rfl, K9.out.below (Nat.le_refl _) (fun _ h => h.elim)⟩
end Go.Proofs.Ytekkickbbbkkgaa
