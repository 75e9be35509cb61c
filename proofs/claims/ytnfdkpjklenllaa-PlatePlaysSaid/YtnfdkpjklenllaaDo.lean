/- play, whatever the two of them do: one walk over letters. -/
import Derived.Test.YtnfdkpjklenllaaDm
import Derived.Deep.CutBlock
import Derived.Deep.RegionHeld3
import Derived.HandedShaped
namespace Go.Proofs.Ytnfdkpjklenllaa
open Go.RowKit
theorem Byt.kept2 {F : Nat → Prop} {w w' : World} {v : Value} {l : List Int} (h : Byt w v l) (k : Kept F w w') (hF : 0 < l.length → ∀ g, v.ownBlock = some g → ¬ F g) : Byt w' v l := by
  obtain ⟨ao, c, rfl, h1, h2, h3⟩ := h
  refine ⟨ao, c, rfl, h1, h2, fun j x hj => ?_⟩
  obtain ⟨b, off, rfl, e⟩ := h3 j x hj
  exact ⟨b, off, rfl, k.cell e (hF (by have := (List.getElem?_eq_some_iff.1 hj).1; omega) _ rfl)⟩
/-- numbers that may be written over -/
def XorB (w : World) (g n : Nat) : Prop := ∀ j, j < n → (∃ m, w.cell? ⟨g, j, none⟩ = some (.int .u8 m)) ∧ w.frozen? ⟨g, j, none⟩ = false
theorem XorB.set {w : World} {g n : Nat} (h : XorB w g n) (a : Addr) (x : Int) : XorB (w.setCell a (.int .u8 x)) g n := fun j hj => ⟨someInt_setCell (h j hj).1 a x, by simpa using (h j hj).2⟩
theorem XorB.kept {F : Nat → Prop} {w w' : World} {g n : Nat} (h : XorB w g n) (k : Kept F w w') (hg : g < w.heap.size) (hF : ¬ F g) : XorB w' g n := fun j hj => by
  obtain ⟨⟨m, hm⟩, hf⟩ := h j hj
  exact ⟨⟨m, k.cell hm hF⟩, (k.frozen hg hF).trans hf⟩
theorem Own.xorB {w : World} {g n c : Nat} {l : List Int} (h : Own w 5 1 (.slice (some ⟨g, 0, none⟩) n c) n (u8s l)) : XorB w g n := fun j hj => by
  have hl : l.length = n := by have := h.len; simpa [u8s] using this
  have hj' : j < (u8s l).length := by simpa [u8s, hl] using hj
  have hc := h.cells (g := g) rfl j hj'
  have e : (u8s l)[j] = .int .u8 (l[j]'(by omega)) := by simp [u8s]
  rw [e] at hc
  exact ⟨⟨_, hc⟩, h.free rfl j⟩
/-- two calls, one behind the other, with one answer -/
def Pr (X : Nat → Prop) (S2 : World → World → Prop) (w1 : World) (f g : Nat) (xs ys : Array Value) : Prop :=
  ∃ (r : Int) (M : World → Prop), Calls Try.prog f xs w1 (fun e w2 => e = .returned (.int .i64 r) ∧ M w2 ∧ Kept X w1 w2) ∧ ∀ w2, M w2 → Kept X w1 w2 → Calls Try.prog g ys w2 (fun e w3 => e = .returned (.int .i64 r) ∧ S2 w1 w3 ∧ Kept X w2 w3)
/-- two readings with one answer -/
def Rp (w1 : World) (xs ys : Array Value) : Prop :=
  ∃ (er : Int) (l : List Int), Calls Try.prog 24 xs w1 (fun e w2 => ∃ a q, e = .returned (.tuple #[.slice a l.length q, .int .i64 er]) ∧ Byt w2 (.slice a l.length q) l ∧ (l.length = 0 ∨ ∃ g, a = some ⟨g, 0, none⟩ ∧ XorB w2 g l.length ∧ w1.heap.size ≤ g ∧ g < w2.heap.size) ∧ Kept (fun _ => False) w1 w2) ∧
    ∀ w2, Kept (fun _ => False) w1 w2 → Calls Try.prog 34 ys w2 (fun e w3 => ∃ a q, e = .returned (.tuple #[.slice a l.length q, .int .i64 er]) ∧ Byt w3 (.slice a l.length q) l ∧ Kept (fun _ => False) w2 w3)
def PP (X : Nat → Prop) (S2 : World → World → Prop) (w : World) (e : Ending) (w' : World) : Prop :=
  e = .returned (.bool true) ∧ ∃ w1 w3, S2 w1 w3 ∧ w.heap.size ≤ w1.heap.size ∧ Kept (fun g => w.heap.size ≤ g ∧ g < w1.heap.size) w3 w' ∧ Kept X w w'
theorem cells3 {w : World} {b T : Nat} {x0 x1 x2 : Value} (h : w.heap[b]? = some (.cells #[x0, x1, x2] T (0, 0))) : w.cell? ⟨b, 0, none⟩ = some x0 ∧ w.cell? ⟨b, 1, none⟩ = some x1 ∧ w.cell? ⟨b, 2, none⟩ = some x2 :=
  ⟨by rw [row_cell h]; rfl, by rw [row_cell h]; rfl, by rw [row_cell h]; rfl⟩
set_option maxRecDepth 100000 in
set_option maxHeartbeats 4000000 in
theorem play_gen {X : Nat → Prop} {S2 : World → World → Prop} {w : World} {p x : Option Addr} {kd i : Int} {na : Option Addr} {N nc : Nat} {l : List Int} (hl : l.length = N) (hN : N ≤ 140737488351232)
    (hn : Byt w (.slice na N nc) l) (hX : ∀ g, X g → g < w.heap.size) (hnX : 0 < l.length → ∀ g, (Value.slice na N nc).ownBlock = some g → ¬ X g)
    (h0 : kd = 0 → ∀ w1 fg fc, Kept (fun _ => False) w w1 → Byt w1 (.slice (some ⟨fg, 0, none⟩) N fc) l → w.heap.size ≤ fg → Pr X S2 w1 10 30 #[.pointer p, .int .i64 i, .slice (some ⟨fg, 0, none⟩) N fc] #[.pointer x, .int .i64 i, .slice na N nc])
    (h1 : kd = 1 → ∀ w1, Kept (fun _ => False) w w1 → Pr X S2 w1 13 31 #[.pointer p] #[.pointer x])
    (h2 : kd = 2 → ∀ w1, Kept (fun _ => False) w w1 → Pr X S2 w1 12 32 #[.pointer p, .int .i64 i] #[.pointer x, .int .i64 i])
    (h3 : kd = 3 → ∀ w1 fg fc, Kept (fun _ => False) w w1 → Byt w1 (.slice (some ⟨fg, 0, none⟩) N fc) l → w.heap.size ≤ fg → Pr X S2 w1 14 33 #[.pointer p, .agg #[.slice (some ⟨fg, 0, none⟩) N fc]] #[.pointer x, .slice na N nc])
    (h4 : kd = 4 → ∀ w1, Kept (fun _ => False) w w1 → Rp w1 #[.pointer p, .int .i64 i] #[.pointer x, .int .i64 i])
    (h5 : kd ≠ 0 → kd ≠ 1 → kd ≠ 2 → kd ≠ 3 → ∀ wa wb, S2 wa wb) :
    Calls Try.prog 22 #[.pointer p, .pointer x, .agg #[.int .u8 kd, .int .i64 i, .slice na N nc]] w (PP X S2 w) := by
  have hk1 := (Kept.refl (fun _ => False) w).alloc (.cells #[.int .u8 kd, .int .i64 i, .slice na N nc] 29)
  have hrb := row_new w (.cells #[.int .u8 kd, .int .i64 i, .slice na N nc] 29)
  obtain ⟨w0, hw0⟩ : ∃ w0, w.alloc (.cells #[.int .u8 kd, .int .i64 i, .slice na N nc] 29) = w0 := ⟨_, rfl⟩
  obtain ⟨ob, hob⟩ : ∃ ob, w.heap.size = ob := ⟨_, rfl⟩
  rw [hw0] at hk1 hrb
  rw [hob] at hrb
  have HOB := hid hob
  have K0 := hid hk1; have R0 := hid hrb; have HN0 := hid (hn.kept hk1 (fun _ _ => id))
  have HL := hid hl; have HXX := hid hX; have HNX := hid hnX
  have H0 := hid h0; have H1 := hid h1; have H2 := hid h2; have H3 := hid h3; have H4 := hid h4; have H5 := hid h5
  have HXO := hid (show ¬ X ob from fun hp => by have := hX ob hp; omega)
  have HB0 := hid (show ob < w0.heap.size from row_lt hrb)
  obtain ⟨c0, c1, c2⟩ := cells3 hrb
  clear hk1 hrb hn hl hX hnX h0 h1 h2 h3 h4 h5
  go_enter Try.func22, Try.ntmps22
  go_wp2_with fail
  refine (spare_any HN0.out.bts (by rw [HL.out]; omega)).mono ?_
  rintro e w1 ⟨fg, fc, rfl, hfo, hfg, hk⟩
  rw [HL.out] at hfo ⊢
  have R1 := hid ((hk.block ob (row_lt R0.out) id).trans R0.out)
  have K1 := hid (K0.out.trans hk); have HN1 := hid (HN0.out.kept hk (fun _ _ => id))
  have HFG := hid (show ob ≤ fg from Nat.le_trans (Nat.le_of_lt HB0.out) hfg)
  have HFL := hid (show Byt w1 (.slice (some ⟨fg, 0, none⟩) N fc) l from by have := hfo.byt.head; rw [HL.out] at this; exact this)
  have HFG2 := hid (show w.heap.size ≤ fg by rw [HOB.out]; exact HFG.out)
  have HFLT := hid (show fg < w1.heap.size from hfo.lt rfl)
  have HXF := hid (show ¬ X fg from fun hp => by have := HXX.out fg hp; have := HFG.out; have := HOB.out; omega)
  have HFO := hid hfo
  obtain ⟨hcp, hcq⟩ : N + 3 ≤ fc ∧ fc ≤ maxLen := by
    obtain ⟨_, _, e, h1, h2⟩ := hfo.some_of_pos (by omega)
    simp only [Value.slice.injEq] at e
    obtain ⟨_, _, rfl⟩ := e
    exact ⟨h1, h2⟩
  unfold maxLen at hcq
  clear hk hfo hfg c0 c1 c2 hw0
  obtain ⟨c0, c1, c2⟩ := cells3 R1.out
  go_upto_block 0 with fail
  clear hob
  go_cut [9] from 9 to 102 (fun b wx => b = .bool true ∧ ∃ wa, S2 wa wx ∧ w1.heap.size ≤ wa.heap.size ∧ Kept X w1 wx)
  case first =>
    by_cases e0 : kd = 0
    · subst e0
      have s1 := cells3 (show w1.drew.heap[ob]? = _ from R1.out)
      have KD := hid (show Kept (fun _ => False) w w1.drew from K1.out.drew)
      clear c0 c1 c2
      obtain ⟨r, M, hc1, hc2⟩ := H0.out rfl w1.drew fg fc KD.out HFL.out HFG2.out
      have HC1 := hid hc1; have HC2 := hid hc2
      clear hc1 hc2
      go_wp2_with fail
      go_region_held3 (fun w' => w'.cell? ⟨ob, 0, none⟩ = some (.int .u8 0) ∧ w'.cell? ⟨ob, 1, none⟩ = some (.int .i64 i) ∧ w'.cell? ⟨ob, 2, none⟩ = some (.slice na N nc)) (first | exact s1 | exact s2 | exact s3)
        (first
          | (go_at_call 10; refine (HC1.out).mono ?_; rintro e w2 ⟨he, hb, hk⟩; subst he; have HB2 := hid hb; have K2 := hid hk; have R2 := hid ((hk.block ob (row_lt R1.out) HXO.out).trans R1.out); have s2 := cells3 R2.out; clear hb hk s1)
          | (go_at_call 30; refine (HC2.out w2 HB2.out K2.out).mono ?_; rintro e w3 ⟨he, hd, hk⟩; subst he; have HD3 := hid hd; have K3 := hid hk; have R3 := hid ((hk.block ob (row_lt R2.out) HXO.out).trans R2.out); have s3 := cells3 R3.out; clear hd hk s2))
      clear s3
      go_wp2
      go_meet
      exact ⟨rfl, w1.drew, HD3.out, Nat.le_refl _, ((Kept.refl _ w1).drew).trans (K2.out.trans K3.out)⟩
    by_cases e1 : kd = 1
    · subst e1
      clear e0 c1 c2
      obtain ⟨r, M, hc1, hc2⟩ := H1.out rfl w1 K1.out
      have HC1 := hid hc1; have HC2 := hid hc2
      clear hc1 hc2
      go_wp2_with fail
      refine HC1.out.mono ?_; rintro e w2 ⟨he, hb, hk⟩; subst he; have HB2 := hid hb; have K2 := hid hk; clear hb hk c0
      go_wp2_with fail
      refine (HC2.out w2 HB2.out K2.out).mono ?_; rintro e w3 ⟨he, hd, hk⟩; subst he; have HD3 := hid hd; have K3 := hid hk; clear hd hk
      go_wp2
      go_meet
      exact ⟨rfl, w1, HD3.out, Nat.le_refl _, K2.out.trans K3.out⟩
    by_cases e2 : kd = 2
    · subst e2
      clear e0 e1
      have s1 := cells3 (show w1.drew.heap[ob]? = _ from R1.out)
      have KD := hid (show Kept (fun _ => False) w w1.drew from K1.out.drew)
      clear c0 c1 c2
      obtain ⟨r, M, hc1, hc2⟩ := H2.out rfl w1.drew KD.out
      have HC1 := hid hc1; have HC2 := hid hc2
      clear hc1 hc2
      go_wp2_with fail
      go_region_held3 (fun w' => w'.cell? ⟨ob, 0, none⟩ = some (.int .u8 2) ∧ w'.cell? ⟨ob, 1, none⟩ = some (.int .i64 i) ∧ w'.cell? ⟨ob, 2, none⟩ = some (.slice na N nc)) (first | exact s1 | exact s2 | exact s3)
        (first
          | (go_at_call 12; refine (HC1.out).mono ?_; rintro e w2 ⟨he, hb, hk⟩; subst he; have HB2 := hid hb; have K2 := hid hk; have R2 := hid ((hk.block ob (row_lt R1.out) HXO.out).trans R1.out); have s2 := cells3 R2.out; clear hb hk s1)
          | (go_at_call 32; refine (HC2.out w2 HB2.out K2.out).mono ?_; rintro e w3 ⟨he, hd, hk⟩; subst he; have HD3 := hid hd; have K3 := hid hk; have R3 := hid ((hk.block ob (row_lt R2.out) HXO.out).trans R2.out); have s3 := cells3 R3.out; clear hd hk s2))
      clear s3
      go_wp2
      go_meet
      exact ⟨rfl, w1.drew, HD3.out, Nat.le_refl _, ((Kept.refl _ w1).drew).trans (K2.out.trans K3.out)⟩
    by_cases e3 : kd = 3
    · subst e3
      clear e0 e1 e2
      have s1 := cells3 (show w1.drew.heap[ob]? = _ from R1.out)
      have KD := hid (show Kept (fun _ => False) w w1.drew from K1.out.drew)
      clear c0 c1 c2
      obtain ⟨r, M, hc1, hc2⟩ := H3.out rfl w1.drew fg fc KD.out HFL.out HFG2.out
      have HC1 := hid hc1; have HC2 := hid hc2
      clear hc1 hc2
      go_wp2_with fail
      go_region_held3 (fun w' => w'.cell? ⟨ob, 0, none⟩ = some (.int .u8 3) ∧ w'.cell? ⟨ob, 1, none⟩ = some (.int .i64 i) ∧ w'.cell? ⟨ob, 2, none⟩ = some (.slice na N nc)) (first | exact s1 | exact s2 | exact s3)
        (first
          | (go_at_call 14; refine (HC1.out).mono ?_; rintro e w2 ⟨he, hb, hk⟩; subst he; have HB2 := hid hb; have K2 := hid hk; have R2 := hid ((hk.block ob (row_lt R1.out) HXO.out).trans R1.out); have s2 := cells3 R2.out; clear hb hk s1)
          | (go_at_call 33; refine (HC2.out w2 HB2.out K2.out).mono ?_; rintro e w3 ⟨he, hd, hk⟩; subst he; have HD3 := hid hd; have K3 := hid hk; have R3 := hid ((hk.block ob (row_lt R2.out) HXO.out).trans R2.out); have s3 := cells3 R3.out; clear hd hk s2))
      clear s3
      go_wp2
      go_meet
      exact ⟨rfl, w1.drew, HD3.out, Nat.le_refl _, ((Kept.refl _ w1).drew).trans (K2.out.trans K3.out)⟩
    by_cases e4 : kd = 4
    · subst e4
      have HS := hid (H5.out e0 e1 e2 e3)
      clear e0 e1 e2 e3
      obtain ⟨er, L, hc1, hc2⟩ := H4.out rfl w1 K1.out
      have HC1 := hid hc1; have HC2 := hid hc2
      clear hc1 hc2
      go_wp2_with fail
      refine HC1.out.mono ?_; rintro e w2 ⟨a, q, he, hb, hx, hk⟩; subst he; have HB2 := hid hb; have HX2 := hid hx; have K2 := hid hk; have R2 := hid ((hk.block ob (row_lt R1.out) id).trans R1.out); clear hb hx hk c0 c1 c2
      obtain ⟨c0, c1, c2⟩ := cells3 R2.out
      go_wp2_with fail
      refine (HC2.out w2 K2.out).mono ?_; rintro e w3 ⟨a3, q3, he, hb, hk⟩; subst he; have HB3 := hid hb; have K3 := hid hk; clear hb hk c0 c1 c2
      go_wp2_with fail
      refine (same_bytes (by exact HB2.out.kept K3.out (fun _ _ => id)) (by exact HB3.out)).mono ?_; rintro e w4 ⟨he, hk⟩; rw [decide_eq_true rfl] at he; subst he
      have K4 := hid (K3.out.trans hk)
      have HX4 := hid (show L.length = 0 ∨ ∃ g, a = some ⟨g, 0, none⟩ ∧ XorB w4 g L.length ∧ w1.heap.size ≤ g from HX2.out.imp id (fun ⟨g, e, h1, h2, h3⟩ => ⟨g, e, h1.kept K4.out h3 id, h2⟩))
      clear hk
      have hLc : L.length ≤ 9223372036854775807 := by
        obtain ⟨_, _, e, ⟨h1, h2⟩, _, _⟩ := HB2.out
        unfold maxLen at h2
        omega
      go_wp2_with fail
      go_loopw [93] (fun k wr => ∃ j : Nat, j ≤ L.length ∧ k = .int .i64 j ∧ (L.length = 0 ∨ ∃ g, a = some ⟨g, 0, none⟩ ∧ XorB wr g L.length ∧ w1.heap.size ≤ g) ∧ Kept (fun g => w1.heap.size ≤ g) w4 wr) (fun k _ => L.length - (RowKit.intOf k).toNat)
      case atStart => exact ⟨0, Nat.zero_le _, rfl, HX4.out, Kept.refl _ _⟩
      case round =>
        rename World => wr
        obtain ⟨j, hj, rfl, hx, hkp⟩ := hrel
        have HXR := hid hx; have KR := hid hkp
        clear hx hkp
        by_cases hlt : j < L.length
        · have hltI : (j : Int) < (L.length : Int) := by omega
          obtain ⟨g, rfl, hxb, hg⟩ : ∃ g, a = some ⟨g, 0, none⟩ ∧ XorB wr g L.length ∧ w1.heap.size ≤ g := HXR.out.resolve_left (by omega)
          obtain ⟨⟨m, hm⟩, hf⟩ := hxb j hlt
          have HXB := hid hxb; have HG := hid hg
          clear hxb hg
          go_wp2
          go_roundw
          case rel => exact ⟨j + 1, by omega, by go_num, .inr ⟨g, rfl, HXB.out.set _ _, HG.out⟩, KR.out.setCell (F := fun g => w1.heap.size ≤ g) (.inl HG.out) _⟩
          case measure => (simp only [RowKit.intOf]; omega)
        · go_wp2
          go_meet
          exact ⟨rfl, w1, HS.out _ _, Nat.le_refl _, (K2.out.trans K4.out).mono (fun _ _ h => h.elim) |>.trans' KR.out (fun g hg => .inr hg)⟩
    · have HS := hid (H5.out e0 e1 e2 e3)
      have q0 : (kd == 0) = false := by simpa using e0
      have q1 : (kd == 1) = false := by simpa using e1
      have q2 : (kd == 2) = false := by simpa using e2
      have q3 : (kd == 3) = false := by simpa using e3
      have q4 : (kd == 4) = false := by simpa using e4
      clear e0 e1 e2 e3 e4
      go_wp2
      go_meet
      exact ⟨rfl, w1, HS.out _ _, Nat.le_refl _, Kept.refl _ _⟩
  case rest =>
    rename World => wc
    obtain ⟨rfl, wa, hS, hwa, hkc⟩ := hcut
    have HS := hid hS; have HWA := hid hwa; have KC := hid hkc
    have RC := hid ((hkc.block ob (row_lt R1.out) HXO.out).trans R1.out)
    have HNC := hid (HN1.out.kept2 hkc HNX.out)
    have HFC := hid (HFO.out.kept hkc (fun g hg => by simp [Value.ownBlock] at hg; rw [← hg]; exact HXF.out))
    clear hS hwa hkc c0 c1 c2
    obtain ⟨c0, c1, c2⟩ := cells3 RC.out
    go_wp2_with fail
    refine (kept_yes HFC.out.byt HNC.out).mono ?_
    rintro e w5 ⟨rfl, hk⟩
    have K5 := hid hk
    have HX5 := hid ((HFC.out.kept hk (fun _ _ => id)).xorB)
    have HK5 := hid (show fg < w5.heap.size from Nat.lt_of_lt_of_le (HFC.out.lt rfl) hk.size)
    clear hk c0 c1 c2
    go_wp2_with fail
    go_loopw [112] (fun k wr => ∃ j : Nat, j ≤ N + 3 ∧ k = .int .i64 j ∧ XorB wr fg (N + 3) ∧ Kept (fun g => g = fg) w5 wr) (fun k _ => N + 3 - (RowKit.intOf k).toNat)
    case atStart => exact ⟨0, Nat.zero_le _, rfl, HX5.out, Kept.refl _ _⟩
    case round =>
      rename World => wr
      obtain ⟨j, hj, rfl, hx, hkp⟩ := hrel
      have HXR := hid hx; have KR := hid hkp
      clear hx hkp
      by_cases hlt : j < N + 3
      · have hltI : (j : Int) < (N : Int) + 3 := by omega
        obtain ⟨⟨m, hm⟩, hf⟩ := HXR.out j hlt
        go_wp2
        go_roundw
        case rel => exact ⟨j + 1, by omega, by go_num, HXR.out.set _ _, KR.out.setCell (F := fun g => g = fg) (.inl rfl) _⟩
        case measure => (simp only [RowKit.intOf]; omega)
      · obtain rfl : j = N + 3 := by omega
        go_wp2
        go_ret
        have hsz := HWA.out
        have hs1 := K1.out.size
        have hob := HOB.out
        refine ⟨rfl, wa, wc, HS.out, Nat.le_trans hs1 hsz, ?_, ?_⟩
        · exact (K5.out.mono (fun _ _ h => h.elim)).trans (KR.out.mono (fun g _ h => by have := HFLT.out; have := HFG.out; omega))
        · exact ((K1.out.mono (fun _ _ h => h.elim)).trans (KC.out.trans (K5.out.mono (fun _ _ h => h.elim)))).trans' KR.out (fun g hg => .inr (by have := HFG.out; omega))
end Go.Proofs.Ytnfdkpjklenllaa
