/- Two bags at once: the program's and the document's; play. -/
import Derived.Test.YtoefffnodamocaaK
namespace Go.Proofs.Ytoefffnodamocaa
open Go.RowKit

structure Tw (B : Nat) (w : World) (bb xb : Nat) (L M : List (List Int)) (F G : Nat → Prop) : Prop where
  a : BagAt 50 w bb L F
  b : BagAt 36 w xb M G
  fl : ∀ k, F k → B ≤ k ∧ k < w.heap.size
  gl : ∀ k, G k → B ≤ k ∧ k < w.heap.size
  sep : ∀ k, F k → ¬ G k
theorem Tw.size {B : Nat} {w : World} {bb xb : Nat} {L M : List (List Int)} {F G : Nat → Prop} (h : Tw B w bb xb L M F G) : B ≤ w.heap.size := by
  obtain ⟨ao, cap, ps, h1, h2, h3, h4, h5⟩ := h.a
  have := h.fl _ h4
  omega
theorem Tw.stepA {B : Nat} {w w' : World} {bb xb : Nat} {L L' M : List (List Int)} {F F' G : Nat → Prop} (h : Tw B w bb xb L M F G) (k : Kept F w w') (hb : BagAt 50 w' bb L' F') (hF : ∀ k, F' k → F k ∨ w.heap.size ≤ k) :
    Tw B w' bb xb L' M (fun k => F' k ∧ k < w'.heap.size) G where
  a := hb.bound
  b := h.b.kept k fun g hG hF => h.sep g hF hG
  fl := fun k hk => ⟨by
    rcases hF k hk.1 with h1 | h1
    · exact (h.fl k h1).1
    · exact Nat.le_trans h.size h1, hk.2⟩
  gl := fun g hg => ⟨(h.gl g hg).1, Nat.lt_of_lt_of_le (h.gl g hg).2 k.size⟩
  sep := fun k hk hG => by
    rcases hF k hk.1 with h1 | h1
    · exact h.sep k h1 hG
    · have := (h.gl k hG).2; omega
theorem Tw.stepB {B : Nat} {w w' : World} {bb xb : Nat} {L M M' : List (List Int)} {F G G' : Nat → Prop} (h : Tw B w bb xb L M F G) (k : Kept G w w') (hb : BagAt 36 w' xb M' G') (hG : ∀ k, G' k → G k ∨ w.heap.size ≤ k) :
    Tw B w' bb xb L M' F (fun k => G' k ∧ k < w'.heap.size) where
  a := h.a.kept k fun g hF hG => h.sep g hF hG
  b := hb.bound
  fl := fun g hg => ⟨(h.fl g hg).1, Nat.lt_of_lt_of_le (h.fl g hg).2 k.size⟩
  gl := fun k hk => ⟨by
    rcases hG k hk.1 with h1 | h1
    · exact (h.gl k h1).1
    · exact Nat.le_trans h.size h1, hk.2⟩
  sep := fun k hk hG' => by
    rcases hG k hG'.1 with h1 | h1
    · exact h.sep k hk h1
    · have := (h.fl k hk).2; omega
theorem Tw.kept {B : Nat} {w w' : World} {bb xb : Nat} {L M : List (List Int)} {F G : Nat → Prop} {K : Nat → Prop} (h : Tw B w bb xb L M F G) (k : Kept K w w') (hK : ∀ g, K g → ¬ F g ∧ ¬ G g) : Tw B w' bb xb L M F G where
  a := h.a.kept k fun g hF hk => (hK g hk).1 hF
  b := h.b.kept k fun g hF hk => (hK g hk).2 hF
  fl := fun g hg => ⟨(h.fl g hg).1, Nat.lt_of_lt_of_le (h.fl g hg).2 k.size⟩
  gl := fun g hg => ⟨(h.gl g hg).1, Nat.lt_of_lt_of_le (h.gl g hg).2 k.size⟩
  sep := h.sep

/-- .. and the call's argument in its own block, its bytes below -/
structure Pl (W w0 : World) (X : Nat → Prop) (w : World) (bb xb ob : Nat) (L M : List (List Int)) (F G : Nat → Prop) (kd iv : Int) (p : Value) (lp : List Int) : Prop where
  tw : Tw W.heap.size w bb xb L M F G
  o : w.heap[ob]? = some (.cells #[.int .u8 kd, .int .i64 iv, p] 38 (0, 0))
  nf : ¬ F ob
  ng : ¬ G ob
  bel : Below W.heap.size W w
  hp : Byt W p lp
  ot : ∀ x, X x → x < w.heap.size ∧ ¬ F x ∧ ¬ G x ∧ w.heap[x]? = w0.heap[x]?
theorem Pl.stepA {w0 : World} {X : Nat → Prop} {W w w' : World} {bb xb ob : Nat} {L L' M : List (List Int)} {F F' G : Nat → Prop} {kd iv : Int} {p : Value} {lp : List Int} (h : Pl W w0 X w bb xb ob L M F G kd iv p lp) (k : Kept F w w') (hb : BagAt 50 w' bb L' F') (hF : ∀ k, F' k → F k ∨ w.heap.size ≤ k) :
    Pl W w0 X w' bb xb ob L' M (fun k => F' k ∧ k < w'.heap.size) G kd iv p lp where
  tw := h.tw.stepA k hb hF
  o := (k.block ob (row_lt h.o) h.nf).trans h.o
  nf := fun hf => by
    rcases hF ob hf.1 with h1 | h1
    · exact h.nf h1
    · have := row_lt h.o; omega
  ng := h.ng
  bel := h.bel.trans (k.below h.bel.size fun i hi => (h.tw.fl i hi).1)
  hp := h.hp
  ot := fun x hx => by
    obtain ⟨q1, q2, q3, q4⟩ := h.ot x hx
    refine ⟨Nat.lt_of_lt_of_le q1 k.size, fun hf => ?_, q3, (k.block x q1 q2).trans q4⟩
    rcases hF x hf.1 with h1 | h1
    · exact q2 h1
    · omega
theorem Pl.stepB {w0 : World} {X : Nat → Prop} {W w w' : World} {bb xb ob : Nat} {L M M' : List (List Int)} {F G G' : Nat → Prop} {kd iv : Int} {p : Value} {lp : List Int} (h : Pl W w0 X w bb xb ob L M F G kd iv p lp) (k : Kept G w w') (hb : BagAt 36 w' xb M' G') (hG : ∀ k, G' k → G k ∨ w.heap.size ≤ k) :
    Pl W w0 X w' bb xb ob L M' F (fun k => G' k ∧ k < w'.heap.size) kd iv p lp where
  tw := h.tw.stepB k hb hG
  o := (k.block ob (row_lt h.o) h.ng).trans h.o
  nf := h.nf
  ng := fun hf => by
    rcases hG ob hf.1 with h1 | h1
    · exact h.ng h1
    · have := row_lt h.o; omega
  bel := h.bel.trans (k.below h.bel.size fun i hi => (h.tw.gl i hi).1)
  hp := h.hp
  ot := fun x hx => by
    obtain ⟨q1, q2, q3, q4⟩ := h.ot x hx
    refine ⟨Nat.lt_of_lt_of_le q1 k.size, q2, fun hf => ?_, (k.block x q1 q3).trans q4⟩
    rcases hG x hf.1 with h1 | h1
    · exact q3 h1
    · omega
theorem Pl.kept {w0 : World} {X : Nat → Prop} {W w w' : World} {bb xb ob : Nat} {L M : List (List Int)} {F G K : Nat → Prop} {kd iv : Int} {p : Value} {lp : List Int} (h : Pl W w0 X w bb xb ob L M F G kd iv p lp) (k : Kept K w w') (hK : ∀ g, K g → ¬ F g ∧ ¬ G g ∧ g ≠ ob ∧ W.heap.size ≤ g ∧ ¬ X g) :
    Pl W w0 X w' bb xb ob L M F G kd iv p lp where
  tw := h.tw.kept k fun g hg => ⟨(hK g hg).1, (hK g hg).2.1⟩
  o := (k.block ob (row_lt h.o) fun e => (hK ob e).2.2.1 rfl).trans h.o
  nf := h.nf
  ng := h.ng
  bel := h.bel.trans (k.below h.bel.size fun i hi => (hK i hi).2.2.2.1)
  hp := h.hp
  ot := fun x hx => by
    obtain ⟨q1, q2, q3, q4⟩ := h.ot x hx
    exact ⟨Nat.lt_of_lt_of_le q1 k.size, q2, q3, (k.block x q1 fun e => (hK x e).2.2.2.2 hx).trans q4⟩
theorem Pl.same {w0 : World} {X : Nat → Prop} {W w w' : World} {bb xb ob : Nat} {L M : List (List Int)} {F G : Nat → Prop} {kd iv : Int} {p : Value} {lp : List Int} (h : Pl W w0 X w bb xb ob L M F G kd iv p lp) (k : Kept (fun _ => False) w w') : Pl W w0 X w' bb xb ob L M F G kd iv p lp := h.kept k fun _ h => h.elim
theorem Pl.byt {w0 : World} {X : Nat → Prop} {W w : World} {bb xb ob : Nat} {L M : List (List Int)} {F G : Nat → Prop} {kd iv : Int} {p : Value} {lp : List Int} (h : Pl W w0 X w bb xb ob L M F G kd iv p lp) : Byt w p lp := h.hp.below h.bel (Nat.le_refl _)
/-- a block laid behind all is none of theirs -/
theorem Pl.free {w0 : World} {X : Nat → Prop} {W w : World} {bb xb ob : Nat} {L M : List (List Int)} {F G : Nat → Prop} {kd iv : Int} {p : Value} {lp : List Int} (h : Pl W w0 X w bb xb ob L M F G kd iv p lp) {g : Nat} (hg : w.heap.size ≤ g) : ¬ F g ∧ ¬ G g ∧ g ≠ ob ∧ W.heap.size ≤ g ∧ ¬ X g :=
  ⟨fun hf => by have := (h.tw.fl g hf).2; omega, fun hf => by have := (h.tw.gl g hf).2; omega, fun e => by have := row_lt h.o; omega, Nat.le_trans h.bel.size hg, fun hx => by have := (h.ot g hx).1; omega⟩
theorem Pl.cells {w0 : World} {X : Nat → Prop} {W w : World} {bb xb ob : Nat} {L M : List (List Int)} {F G : Nat → Prop} {kd iv : Int} {p : Value} {lp : List Int} (h : Pl W w0 X w bb xb ob L M F G kd iv p lp) : w.cell? ⟨ob, 0, none⟩ = some (.int .u8 kd) ∧ w.cell? ⟨ob, 1, none⟩ = some (.int .i64 iv) ∧ w.cell? ⟨ob, 2, none⟩ = some p := by
  have h0 := row_cell h.o 0
  have h1 := row_cell h.o 1
  have h2 := row_cell h.o 2
  simp at h0 h1 h2
  exact ⟨h0, h1, h2⟩

theorem byt_nil (w : World) : Byt w (.slice none 0 0) [] := ⟨none, 0, rfl, by simp [maxLen], fun _ => ⟨rfl, rfl⟩, fun j x h => by simp at h⟩
theorem u8s_set (ys : List Int) (k : Nat) (z : Int) : u8s (ys.set k z) = (u8s ys).set k (.int .u8 z) := by simp [u8s, List.map_set]


set_option maxRecDepth 100000 in
set_option maxHeartbeats 1000000 in
theorem play_two {W w : World} {bb xb : Nat} {L : List (List Int)} {F G : Nat → Prop} (h : Tw W.heap.size w bb xb L L F G) (hb : Below W.heap.size W w) (hL : L.length ≤ 2000) (kd iv : Int) (po : Option Addr) (pc : Nat) (lp : List Int) (hp : Byt W (.slice po lp.length pc) lp) (hlp : lp.length ≤ 140737488351232) :
    Calls Try.prog 13 #[.pointer (some ⟨bb, 0, none⟩), .pointer (some ⟨xb, 0, none⟩), .agg #[.int .u8 kd, .int .i64 iv, .slice po lp.length pc]] w fun e w' => e = .returned (.bool true) ∧ Below W.heap.size W w' ∧ ∃ L' F' G', Tw W.heap.size w' bb xb L' L' F' G' ∧ L'.length ≤ L.length + 1 ∧ ∀ x, (x < w.heap.size ∧ ¬ F x ∧ ¬ G x) → x < w'.heap.size ∧ ¬ F' x ∧ ¬ G' x ∧ w'.heap[x]? = w.heap[x]? := by
  have P0 := hid (show Pl W w (fun x => x < w.heap.size ∧ ¬ F x ∧ ¬ G x) (w.alloc (.cells #[.int .u8 kd, .int .i64 iv, .slice po lp.length pc] 38)) bb xb w.heap.size L L F G kd iv (.slice po lp.length pc) lp from
    ⟨h.kept (K := fun _ => False) ((Kept.refl _ _).alloc _) (fun _ h => h.elim), row_new _ _, fun hf => by have := (h.fl _ hf).2; omega, fun hf => by have := (h.gl _ hf).2; omega, hb.alloc hb.size _, hp, fun x hx => ⟨by have := hx.1; simp; omega, hx.2.1, hx.2.2, Below.heap_alloc _ _ _ hx.1⟩⟩)
  clear h hp hb
  by_cases k0 : kd = 0
  · subst k0
    go_enter Try.func13, Try.ntmps13
    go_wp2_with fail
    refine (spare_any (by exact P0.out.byt.bts) hlp).mono ?_; rintro e w2 ⟨sg, sc, rfl, hown, hfr, hk2⟩
    have HO := hid hown; clear hown
    have P2 := hid (P0.out.same hk2); clear hk2
    have PD := hid (P2.out.same (Kept.refl _ _).drew)
    obtain ⟨c0, c1, c2⟩ := PD.out.cells
    have HFR := hid (P0.out.free hfr); clear hfr
    have HLL := hid hL; clear hL
    have hLEN : (putL L lp).length ≤ L.length + 1 := by unfold putL; split <;> simp
    have HLEN := hid hLEN; clear hLEN
    go_wp2_with fail
    go_region_held3 (fun w' => w'.cell? ⟨w.heap.size, 2, none⟩ = some (.slice po lp.length pc)) (first | exact c2 | exact d2 | exact f2 | exact g2)
      (first
        | (go_at_call 9; refine (put_any PD.out.tw.a _ lp (by exact (HO.out.byt.head.kept (Kept.refl (fun _ => False) _).drew (fun _ _ => id)).bts) hlp HLL.out).mono ?_; rintro e w3 ⟨rfl, hk3, F', hb3, hF3⟩; have P3 := hid (PD.out.stepA hk3 hb3 hF3); have HO3 := hid (HO.out.drew.kept hk3 (fun g hg => by cases hg; exact HFR.out.1)); obtain ⟨d0, d1, d2⟩ := P3.out.cells; have HX3 := hid (show ¬ (F' sg ∧ sg < w3.heap.size) from fun h => (hF3 sg h.1).elim (fun h => HFR.out.1 h) (fun h => Nat.not_le_of_lt (HO.out.lt (g := sg) rfl) h)); clear hk3 hb3 hF3)
        | (go_at_call 23; refine (docput_any P3.out.tw.b _ lp (by exact P3.out.byt.bts) hlp HLL.out).mono ?_; rintro e w4 ⟨rfl, hk4, G', hb4, hG4⟩; have P4 := hid (P3.out.stepB hk4 hb4 hG4); have HO4 := hid (HO3.out.kept hk4 (fun g hg => by cases hg; exact HFR.out.2.1)); obtain ⟨f0, f1, f2⟩ := P4.out.cells; have HX4 := hid (show ¬ (G' sg ∧ sg < w4.heap.size) from fun h => (hG4 sg h.1).elim (fun h => HFR.out.2.1 h) (fun h => Nat.not_le_of_lt (HO3.out.lt (g := sg) rfl) h)); clear hk4 hb4 hG4)
        | (go_at_call 24; refine (kept_yes (l := lp) (by exact HO4.out.byt) (by exact P4.out.byt)).mono ?_; rintro e w5 ⟨rfl, hk5⟩; have P5 := hid (P4.out.same hk5); have HO5 := hid (HO4.out.kept hk5 (fun _ _ => id)); obtain ⟨g0, g1, g2⟩ := P5.out.cells; clear hk5))
    all_goals
      go_wp2_with fail
      go_loopw [42] (fun i wr => ∃ (k : Nat) (ys : List Int), k ≤ lp.length + 3 ∧ i = .int .i64 k ∧ Own wr 5 1 (.slice (some ⟨sg, 0, none⟩) (lp.length + 3) sc) (lp.length + 3) (u8s ys) ∧ Kept (fun g => g = sg) w5 wr)
        (fun i _ => lp.length + 3 - (intOf i).toNat)
      case atStart => exact ⟨0, _, Nat.zero_le _, rfl, HO5.out, Kept.refl _ _⟩
      case round =>
        obtain ⟨k, ys, hk, rfl, ho, hkp⟩ := hrel
        have HKP := hid hkp; clear hkp
        by_cases hlt : k < lp.length + 3
        · have hyl : ys.length = lp.length + 3 := by simpa [u8s] using ho.len
          have hcell := ho.cells (g := sg) rfl k (by simp [u8s]; omega)
          have hfrz := ho.free (g := sg) rfl k
          have hset := fun z => ho.set (g := sg) rfl k (.int .u8 z)
          obtain ⟨z, hcv⟩ : ∃ z, (u8s ys)[k]'(by simp [u8s]; omega) = .int .u8 z := ⟨ys[k]'(by omega), by simp [u8s]⟩
          rw [hcv] at hcell
          have HO9 := hid ho; clear ho
          have HST := hid hset; clear hset hcv hyl
          have hki : (k : Int) < (lp.length : Int) + 3 := by omega
          go_wp2
          go_roundw
          case rel => exact ⟨k + 1, ys.set k _, by omega, by go_num, by rw [u8s_set]; exact HST.out _, HKP.out.setCell (p := ⟨sg, k, none⟩) (.inl rfl) _⟩
          case measure => simp [intOf]; omega
        · have hki : ¬ (k : Int) < (lp.length : Int) + 3 := by omega
          have P3 := hid (P5.out.kept HKP.out (fun g hg => by
            subst hg
            obtain ⟨f1, f2, f3, f4, f5⟩ := HFR.out
            exact ⟨HX3.out, HX4.out, f3, f4, f5⟩))
          clear hlt
          go_wp2_with fail
          refine (same_bytes (la := []) (lb := []) (by exact byt_nil _) (by exact byt_nil _)).mono ?_; rintro e w4 ⟨rfl, hk4⟩
          have P4 := hid (P3.out.same hk4)
          clear hk4
          have hd : decide (([] : List Int) = []) = true := by simp
          go_wp2_with fail
          go_loopw [123] (fun i wr => i = .int .i64 0 ∧ wr = w4) (fun _ _ => 0)
          case atStart => exact ⟨rfl, rfl⟩
          case round =>
            obtain ⟨rfl, rfl⟩ := hrel
            go_wp2
            go_ret
            exact ⟨rfl, P4.out.bel, _, _, _, P4.out.tw, HLEN.out, P4.out.ot⟩
  · by_cases hi : 0 ≤ iv ∧ iv < L.length
    · obtain ⟨i, rfl⟩ : ∃ i : Nat, iv = (i : Int) := ⟨iv.toNat, by omega⟩
      have hil : i < L.length := by omega
      obtain ⟨l, hl⟩ : ∃ l, L[i]? = some l := ⟨L[i], by simp [hil]⟩
      have HIL := hid hl; clear hl
      have HLEN0 := hid (show (without L i).length ≤ L.length + 1 by rw [without_len hil]; omega)
      by_cases k1 : kd = 1
      · subst k1
        go_enter Try.func13, Try.ntmps13
        go_wp2_with fail
        refine (take_yes P0.out.tw.a (fun k hk => (P0.out.tw.fl k hk).2) i _ HIL.out).mono ?_; rintro e w2 ⟨pa, pc2, rfl, hown, hfr, hk2, hb2⟩
        have HO := hid hown; clear hown
        have HFR := hid hfr; clear hfr
        have P2 := hid (P0.out.stepA hk2 hb2 (fun k hk => .inl hk)); clear hk2 hb2
        obtain ⟨c0, c1, c2⟩ := P2.out.cells
        go_wp2_with fail
        refine (doctake_yes P2.out.tw.b (fun k hk => (P2.out.tw.gl k hk).2) (by omega) i _ HIL.out false).mono ?_; rintro e w3 ⟨q, rfl, hq, hk3, G', hb3, hG3⟩
        have P3 := hid (P2.out.stepB hk3 hb3 hG3)
        have HQ := hid hq; clear hq
        have HO3 := hid (HO.out.kept hk3 (fun g hg => (P0.out.free (HFR.out g hg)).2.1))
        have HF3 := hid (show ∀ g, (Value.slice pa l.length pc2).ownBlock = some g → ¬ ((F g ∧ g < w2.heap.size)) ∧ ¬ (G' g ∧ g < w3.heap.size) ∧ g ≠ w.heap.size ∧ W.heap.size ≤ g ∧ ¬ (g < w.heap.size ∧ ¬ F g ∧ ¬ G g) from fun g hg => by
          obtain ⟨f1, f2, f3, f4, f5⟩ := P0.out.free (HFR.out g hg)
          refine ⟨fun h => f1 h.1, fun h => ?_, f3, f4, f5⟩
          rcases hG3 g h.1 with h5 | h5
          · exact f2 h5
          · have := HO.out.lt hg; omega)
        have HLEN := HLEN0
        clear hk3 hb3 hG3 HO
        go_wp2_with fail
        refine (same_bytes (la := l) (lb := l) (by exact HO3.out.byt) (by exact HQ.out)).mono ?_; rintro e w4 ⟨rfl, hk4⟩
        have P4 := hid (P3.out.same hk4)
        have HO4 := hid (HO3.out.kept hk4 (fun _ _ => id))
        clear hk4
        have hd : decide (l = l) = true := by simp
        go_wp2_with fail
        go_loopw [123] (fun i wr => ∃ (k : Nat) (ys : List Int), k ≤ l.length ∧ i = .int .i64 k ∧ Own wr 5 1 (Value.slice pa l.length pc2) (l.length) (u8s ys) ∧ Kept (fun g => (Value.slice pa l.length pc2).ownBlock = some g) w4 wr)
          (fun i _ => l.length - (intOf i).toNat)
        case atStart => exact ⟨0, _, Nat.zero_le _, rfl, HO4.out, Kept.refl _ _⟩
        case round =>
          obtain ⟨k, ys, hk, rfl, ho, hkp⟩ := hrel
          have HKP := hid hkp; clear hkp
          by_cases hlt : k < l.length
          · obtain ⟨fg, fcap, fe, fn, fc⟩ := ho.some_of_pos (by omega)
            simp only [Value.slice.injEq] at fe
            obtain ⟨rfl, _, rfl⟩ := fe
            have hyl : ys.length = l.length := by simpa [u8s] using ho.len
            have hcell := ho.cells (g := fg) rfl k (by simp [u8s]; omega)
            have hfrz := ho.free (g := fg) rfl k
            have hset := fun z => ho.set (g := fg) rfl k (.int .u8 z)
            obtain ⟨z, hcv⟩ : ∃ z, (u8s ys)[k]'(by simp [u8s]; omega) = .int .u8 z := ⟨ys[k]'(by omega), by simp [u8s]⟩
            rw [hcv] at hcell
            have HO9 := hid ho; clear ho
            have HST := hid hset; clear hset hcv hyl
            unfold maxLen at fc
            go_wp2
            go_roundw
            case rel => exact ⟨k + 1, ys.set k _, by omega, by go_num, by rw [u8s_set]; exact HST.out _, HKP.out.setCell (p := ⟨fg, k, none⟩) (.inl rfl) _⟩
            case measure => simp [intOf]; omega
          · obtain rfl : k = l.length := by omega
            have P5 := hid (P4.out.kept HKP.out HF3.out)
            go_wp2
            go_ret
            exact ⟨rfl, P5.out.bel, _, _, _, P5.out.tw, HLEN.out, P5.out.ot⟩
      · by_cases k2 : kd = 2
        · subst k2
          go_enter Try.func13, Try.ntmps13
          go_wp2_with fail
          refine (copy_yes P0.out.tw.a i _ HIL.out).mono ?_; rintro e w2 ⟨pa, pc2, rfl, hown, hfr, hk2⟩
          have HO3 := hid hown; clear hown
          have HFR := hid hfr; clear hfr
          have P3 := hid (P0.out.same hk2); clear hk2
          obtain ⟨c0, c1, c2⟩ := P3.out.cells
          go_wp2_with fail
          refine (doctake_stay P3.out.tw.b i _ HIL.out false).mono ?_; rintro e w3 ⟨q, rfl, hq, rfl⟩
          have HQ := hid hq; clear hq
          have HF3 := hid (fun g hg => P0.out.free (HFR.out g hg))
          have HLEN := hid (show L.length ≤ L.length + 1 by omega)
          go_wp2_with fail
          refine (same_bytes (la := l) (lb := l) (by exact HO3.out.byt) (by exact HQ.out)).mono ?_; rintro e w4 ⟨rfl, hk4⟩
          have P4 := hid (P3.out.same hk4)
          have HO4 := hid (HO3.out.kept hk4 (fun _ _ => id))
          clear hk4
          have hd : decide (l = l) = true := by simp
          go_wp2_with fail
          go_loopw [123] (fun i wr => ∃ (k : Nat) (ys : List Int), k ≤ l.length ∧ i = .int .i64 k ∧ Own wr 5 1 (Value.slice pa l.length pc2) (l.length) (u8s ys) ∧ Kept (fun g => (Value.slice pa l.length pc2).ownBlock = some g) w4 wr)
            (fun i _ => l.length - (intOf i).toNat)
          case atStart => exact ⟨0, _, Nat.zero_le _, rfl, HO4.out, Kept.refl _ _⟩
          case round =>
            obtain ⟨k, ys, hk, rfl, ho, hkp⟩ := hrel
            have HKP := hid hkp; clear hkp
            by_cases hlt : k < l.length
            · obtain ⟨fg, fcap, fe, fn, fc⟩ := ho.some_of_pos (by omega)
              simp only [Value.slice.injEq] at fe
              obtain ⟨rfl, _, rfl⟩ := fe
              have hyl : ys.length = l.length := by simpa [u8s] using ho.len
              have hcell := ho.cells (g := fg) rfl k (by simp [u8s]; omega)
              have hfrz := ho.free (g := fg) rfl k
              have hset := fun z => ho.set (g := fg) rfl k (.int .u8 z)
              obtain ⟨z, hcv⟩ : ∃ z, (u8s ys)[k]'(by simp [u8s]; omega) = .int .u8 z := ⟨ys[k]'(by omega), by simp [u8s]⟩
              rw [hcv] at hcell
              have HO9 := hid ho; clear ho
              have HST := hid hset; clear hset hcv hyl
              unfold maxLen at fc
              go_wp2
              go_roundw
              case rel => exact ⟨k + 1, ys.set k _, by omega, by go_num, by rw [u8s_set]; exact HST.out _, HKP.out.setCell (p := ⟨fg, k, none⟩) (.inl rfl) _⟩
              case measure => simp [intOf]; omega
            · obtain rfl : k = l.length := by omega
              have P5 := hid (P4.out.kept HKP.out HF3.out)
              go_wp2
              go_ret
              exact ⟨rfl, P5.out.bel, _, _, _, P5.out.tw, HLEN.out, P5.out.ot⟩
        · by_cases k3 : kd = 3
          · subst k3
            go_enter Try.func13, Try.ntmps13
            go_wp2_with fail
            refine (drop_yes P0.out.tw.a i hil).mono ?_; rintro e w2 ⟨rfl, hk2, hb2⟩
            have P2 := hid (P0.out.stepA hk2 hb2 (fun k hk => .inl hk)); clear hk2 hb2
            obtain ⟨c0, c1, c2⟩ := P2.out.cells
            go_wp2_with fail
            refine (doctake_yes P2.out.tw.b (fun k hk => (P2.out.tw.gl k hk).2) (by omega) i _ HIL.out false).mono ?_; rintro e w3 ⟨q, rfl, hq, hk3, G', hb3, hG3⟩
            have P3 := hid (P2.out.stepB hk3 hb3 hG3)
            have HLEN := HLEN0
            clear hk3 hb3 hG3 hq
            go_wp2_with fail
            refine (same_bytes (la := []) (lb := []) (by exact byt_nil _) (by exact byt_nil _)).mono ?_; rintro e w4 ⟨rfl, hk4⟩
            have P4 := hid (P3.out.same hk4)
            clear hk4
            have hd : decide (([] : List Int) = []) = true := by simp
            go_wp2_with fail
            go_loopw [123] (fun i wr => i = .int .i64 0 ∧ wr = w4) (fun _ _ => 0)
            case atStart => exact ⟨rfl, rfl⟩
            case round =>
              obtain ⟨rfl, rfl⟩ := hrel
              go_wp2
              go_ret
              exact ⟨rfl, P4.out.bel, _, _, _, P4.out.tw, HLEN.out, P4.out.ot⟩
          · by_cases k4 : kd = 4
            · subst k4
              have HLEN4 := hid (show (without L i ++ [l]).length ≤ L.length + 1 by rw [List.length_append, without_len hil]; simp; omega)
              go_enter Try.func13, Try.ntmps13
              go_wp2_with fail
              refine (hold_yes P0.out.tw.a (fun k hk => (P0.out.tw.fl k hk).2) hL i _ HIL.out (P0.out.tw.a.small HIL.out)).mono ?_; rintro e w2 ⟨rfl, hk2, F', hb2, hF2⟩
              have P2 := hid (P0.out.stepA hk2 hb2 hF2); clear hk2 hb2 hF2
              obtain ⟨c0, c1, c2⟩ := P2.out.cells
              go_wp2_with fail
              refine (doctake_yes P2.out.tw.b (fun k hk => (P2.out.tw.gl k hk).2) (by omega) i _ HIL.out true).mono ?_; rintro e w3 ⟨q, rfl, hq, hk3, G', hb3, hG3⟩
              have P3 := hid (P2.out.stepB hk3 hb3 hG3)
              have HLEN := HLEN4
              clear hk3 hb3 hG3 hq
              go_wp2_with fail
              refine (same_bytes (la := []) (lb := []) (by exact byt_nil _) (by exact byt_nil _)).mono ?_; rintro e w4 ⟨rfl, hk4⟩
              have P4 := hid (P3.out.same hk4)
              clear hk4
              have hd : decide (([] : List Int) = []) = true := by simp
              go_wp2_with fail
              go_loopw [123] (fun i wr => i = .int .i64 0 ∧ wr = w4) (fun _ _ => 0)
              case atStart => exact ⟨rfl, rfl⟩
              case round =>
                obtain ⟨rfl, rfl⟩ := hrel
                go_wp2
                go_ret
                exact ⟨rfl, P4.out.bel, _, _, _, P4.out.tw, HLEN.out, P4.out.ot⟩
            · go_enter Try.func13, Try.ntmps13
              have P3 := P0
              have HLEN := hid (show L.length ≤ L.length + 1 by omega)
              go_wp2_with fail
              refine (same_bytes (la := []) (lb := []) (by exact byt_nil _) (by exact byt_nil _)).mono ?_; rintro e w4 ⟨rfl, hk4⟩
              have P4 := hid (P3.out.same hk4)
              clear hk4
              have hd : decide (([] : List Int) = []) = true := by simp
              go_wp2_with fail
              go_loopw [123] (fun i wr => i = .int .i64 0 ∧ wr = w4) (fun _ _ => 0)
              case atStart => exact ⟨rfl, rfl⟩
              case round =>
                obtain ⟨rfl, rfl⟩ := hrel
                go_wp2
                go_ret
                exact ⟨rfl, P4.out.bel, _, _, _, P4.out.tw, HLEN.out, P4.out.ot⟩
    · have HNI := hid hi
      have HLEN := hid (show L.length ≤ L.length + 1 by omega)
      have P3 := P0
      by_cases k1 : kd = 1
      · subst k1
        go_enter Try.func13, Try.ntmps13
        go_wp2_with fail
        refine (take_no P0.out.tw.a iv HNI.out).mono ?_; rintro e w2 ⟨rfl, rfl⟩
        go_wp2_with fail
        refine (doctake_no P0.out.tw.b iv HNI.out false false).mono ?_; rintro e w2 ⟨rfl, rfl⟩
        go_wp2_with fail
        refine (same_bytes (la := []) (lb := []) (by exact byt_nil _) (by exact byt_nil _)).mono ?_; rintro e w4 ⟨rfl, hk4⟩
        have P4 := hid (P3.out.same hk4)
        clear hk4
        have hd : decide (([] : List Int) = []) = true := by simp
        go_wp2_with fail
        go_loopw [123] (fun i wr => i = .int .i64 0 ∧ wr = w4) (fun _ _ => 0)
        case atStart => exact ⟨rfl, rfl⟩
        case round =>
          obtain ⟨rfl, rfl⟩ := hrel
          go_wp2
          go_ret
          exact ⟨rfl, P4.out.bel, _, _, _, P4.out.tw, HLEN.out, P4.out.ot⟩
      · by_cases k2 : kd = 2
        · subst k2
          go_enter Try.func13, Try.ntmps13
          go_wp2_with fail
          refine (copy_no P0.out.tw.a iv HNI.out).mono ?_; rintro e w2 ⟨rfl, rfl⟩
          go_wp2_with fail
          refine (doctake_no P0.out.tw.b iv HNI.out true false).mono ?_; rintro e w2 ⟨rfl, rfl⟩
          go_wp2_with fail
          refine (same_bytes (la := []) (lb := []) (by exact byt_nil _) (by exact byt_nil _)).mono ?_; rintro e w4 ⟨rfl, hk4⟩
          have P4 := hid (P3.out.same hk4)
          clear hk4
          have hd : decide (([] : List Int) = []) = true := by simp
          go_wp2_with fail
          go_loopw [123] (fun i wr => i = .int .i64 0 ∧ wr = w4) (fun _ _ => 0)
          case atStart => exact ⟨rfl, rfl⟩
          case round =>
            obtain ⟨rfl, rfl⟩ := hrel
            go_wp2
            go_ret
            exact ⟨rfl, P4.out.bel, _, _, _, P4.out.tw, HLEN.out, P4.out.ot⟩
        · by_cases k3 : kd = 3
          · subst k3
            go_enter Try.func13, Try.ntmps13
            go_wp2_with fail
            refine (drop_no P0.out.tw.a iv HNI.out).mono ?_; rintro e w2 ⟨rfl, rfl⟩
            go_wp2_with fail
            refine (doctake_no P0.out.tw.b iv HNI.out false false).mono ?_; rintro e w2 ⟨rfl, rfl⟩
            go_wp2_with fail
            refine (same_bytes (la := []) (lb := []) (by exact byt_nil _) (by exact byt_nil _)).mono ?_; rintro e w4 ⟨rfl, hk4⟩
            have P4 := hid (P3.out.same hk4)
            clear hk4
            have hd : decide (([] : List Int) = []) = true := by simp
            go_wp2_with fail
            go_loopw [123] (fun i wr => i = .int .i64 0 ∧ wr = w4) (fun _ _ => 0)
            case atStart => exact ⟨rfl, rfl⟩
            case round =>
              obtain ⟨rfl, rfl⟩ := hrel
              go_wp2
              go_ret
              exact ⟨rfl, P4.out.bel, _, _, _, P4.out.tw, HLEN.out, P4.out.ot⟩
          · by_cases k4 : kd = 4
            · subst k4
              go_enter Try.func13, Try.ntmps13
              go_wp2_with fail
              refine (hold_no P0.out.tw.a iv HNI.out).mono ?_; rintro e w2 ⟨rfl, rfl⟩
              go_wp2_with fail
              refine (doctake_no P0.out.tw.b iv HNI.out false true).mono ?_; rintro e w2 ⟨rfl, rfl⟩
              go_wp2_with fail
              refine (same_bytes (la := []) (lb := []) (by exact byt_nil _) (by exact byt_nil _)).mono ?_; rintro e w4 ⟨rfl, hk4⟩
              have P4 := hid (P3.out.same hk4)
              clear hk4
              have hd : decide (([] : List Int) = []) = true := by simp
              go_wp2_with fail
              go_loopw [123] (fun i wr => i = .int .i64 0 ∧ wr = w4) (fun _ _ => 0)
              case atStart => exact ⟨rfl, rfl⟩
              case round =>
                obtain ⟨rfl, rfl⟩ := hrel
                go_wp2
                go_ret
                exact ⟨rfl, P4.out.bel, _, _, _, P4.out.tw, HLEN.out, P4.out.ot⟩
            · go_enter Try.func13, Try.ntmps13
              go_wp2_with fail
              refine (same_bytes (la := []) (lb := []) (by exact byt_nil _) (by exact byt_nil _)).mono ?_; rintro e w4 ⟨rfl, hk4⟩
              have P4 := hid (P3.out.same hk4)
              clear hk4
              have hd : decide (([] : List Int) = []) = true := by simp
              go_wp2_with fail
              go_loopw [123] (fun i wr => i = .int .i64 0 ∧ wr = w4) (fun _ _ => 0)
              case atStart => exact ⟨rfl, rfl⟩
              case round =>
                obtain ⟨rfl, rfl⟩ := hrel
                go_wp2
                go_ret
                exact ⟨rfl, P4.out.bel, _, _, _, P4.out.tw, HLEN.out, P4.out.ot⟩
end Go.Proofs.Ytoefffnodamocaa
