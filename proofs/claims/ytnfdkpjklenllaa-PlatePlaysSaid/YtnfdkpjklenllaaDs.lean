/- play and looks, of both or of none. -/
import Derived.Test.YtnfdkpjklenllaaDr
namespace Go.Proofs.Ytnfdkpjklenllaa
open Go.RowKit
theorem pr_nil {w1 : World} {f g : Nat} {xs ys : Array Value} {r : Int} (h1 : Calls Try.prog f xs w1 (fun e w' => e = .returned (.int .i64 r) ∧ Kept (fun _ => False) w1 w'))
    (h2 : ∀ w2, Calls Try.prog g ys w2 (fun e w' => e = .returned (.int .i64 r) ∧ Kept (fun _ => False) w2 w')) : Pr (fun _ => False) (fun _ _ => True) w1 f g xs ys :=
  ⟨r, fun _ => True, h1.mono fun _ _ hh => ⟨hh.1, trivial, hh.2⟩, fun w2 _ _ => (h2 w2).mono fun _ _ hh => ⟨hh.1, trivial, hh.2⟩⟩
/-- both are there, or none; B: what was there ahead of them -/
def St (B : Nat) (w : World) (p x : Option Addr) (k : Nat) : Prop :=
  (p = none ∧ x = none) ∨ ∃ b xb P F S D, p = some ⟨b, 0, none⟩ ∧ x = some ⟨xb, 0, none⟩ ∧ Bo P F (fun _ => False) w b xb S D k ∧ (∀ g, P g → B ≤ g) ∧ (∀ g, F g → B ≤ g)
theorem St.same {B : Nat} {w w' : World} {p x : Option Addr} {k : Nat} (h : St B w p x k) (hk : Kept (fun _ => False) w w') : St B w' p x k :=
  h.imp id fun ⟨b, xb, P, F, S, D, e1, e2, hb, h1, h2⟩ => ⟨b, xb, P, F, S, D, e1, e2, hb.same hk, h1, h2⟩
theorem St.mono {B : Nat} {w : World} {p x : Option Addr} {k m : Nat} (h : St B w p x k) (hm : k ≤ m) : St B w p x m :=
  h.imp id fun ⟨b, xb, P, F, S, D, e1, e2, hb, h1, h2⟩ => ⟨b, xb, P, F, S, D, e1, e2, hb.mono hm, h1, h2⟩
theorem play_nil {w : World} {kd i : Int} {na : Option Addr} {N nc : Nat} {l : List Int} (hl : l.length = N) (hN : N ≤ 300) (hn : Byt w (.slice na N nc) l) :
    Calls Try.prog 22 #[.pointer none, .pointer none, .agg #[.int .u8 kd, .int .i64 i, .slice na N nc]] w fun e w' => e = .returned (.bool true) ∧ Kept (fun _ => False) w w' := by
  refine (show Calls _ _ _ _ _ from play_gen (X := fun _ => False) (S2 := fun _ _ => True) hl (by omega) hn (fun _ h => h.elim) (fun _ _ _ => id) (fun _ w1 fg fc _ _ _ => ?_) (fun _ w1 _ => pr_nil (Calls.kk flush_nil) (fun w2 => Calls.kk dflush_nil)) (fun _ w1 _ => ?_) (fun _ w1 fg fc _ _ _ => pr_nil (restart_nil _) (fun w2 => Calls.kk (drestart_nil _))) (fun _ w1 _ => ?_) (fun _ _ _ _ _ _ => trivial)).mono fun e w' hh => ⟨hh.1, ?_⟩
  · by_cases hi : i < 0
    · exact pr_nil (Calls.kk (write_arg i hi _)) (fun w2 => Calls.kk (dwrite_arg i hi _))
    · have hi0 : 0 ≤ i := by omega
      by_cases h64 : 64 < N
      · exact pr_nil (Calls.kk (write_nil_long i hi0 h64)) (fun w2 => (dwrite_nil i hi0).mono fun e w' hh => ⟨by rw [hh.1, if_pos h64], by rw [hh.2]; exact Kept.refl _ _⟩)
      · exact pr_nil (Calls.kk (write_nil i hi0 (by omega))) (fun w2 => (dwrite_nil i hi0).mono fun e w' hh => ⟨by rw [hh.1, if_neg h64], by rw [hh.2]; exact Kept.refl _ _⟩)
  · by_cases hi : i < 0
    · exact pr_nil (Calls.kk (arm_neg i hi)) (fun w2 => Calls.kk (darm_neg i hi))
    · have hi0 : 0 ≤ i := by omega
      exact pr_nil (Calls.kk (arm_nil i hi0)) (fun w2 => Calls.kk (darm_nil i hi0))
  · by_cases hi : i < 0
    · exact rp_no (Calls.kk (read_arg i hi)) (fun w2 hk => Calls.kk (dread_arg i hi))
    · have hi0 : 0 ≤ i := by omega
      exact rp_no (Calls.kk (read_nil i hi0)) (fun w2 hk => Calls.kk (dread_nil i hi0))
  · obtain ⟨_, _, _, _, _, _, hk⟩ := hh
    exact hk
theorem play_any {B : Nat} {w : World} {p x : Option Addr} {k : Nat} (h : St B w p x k) (hk : k ≤ 900) (hB : B ≤ w.heap.size) {kd i : Int} (hi : i ≤ 9223372036854775807) {na : Option Addr} {N nc : Nat} {l : List Int} (hl : l.length = N) (hN : N ≤ 300) (hn : Byt w (.slice na N nc) l) (hnB : 0 < l.length → ∀ g, (Value.slice na N nc).ownBlock = some g → g < B) (hr : ∀ x ∈ l, 0 ≤ x ∧ x ≤ 255) :
    Calls Try.prog 22 #[.pointer p, .pointer x, .agg #[.int .u8 kd, .int .i64 i, .slice na N nc]] w fun e w' => e = .returned (.bool true) ∧ St B w' p x (k + 1) ∧ Kept (fun g => B ≤ g) w w' ∧ (kd = 4 → Kept (fun _ => False) w w') := by
  rcases h with ⟨rfl, rfl⟩ | ⟨b, xb, P, F, S, D, rfl, rfl, hb, hP, hF⟩
  · exact (play_nil hl hN hn).mono fun e w' hh => ⟨hh.1, .inl ⟨rfl, rfl⟩, hh.2.mono (fun _ _ h => h.elim), fun _ => hh.2⟩
  by_cases h4 : kd = 0 ∨ kd = 1 ∨ kd = 2 ∨ kd = 3
  · refine (show Calls _ _ _ _ _ from play_gen (X := fun g => P g ∨ F g) (S2 := Nx P F w b xb (k + 1)) hl (by omega) hn (fun g hg => hg.elim (hb.pl g) (hb.fl g)) (fun h0 g hg hx => by
        have := hnB h0 g hg
        rcases hx with hx | hx
        · have := hP g hx; omega
        · have := hF g hx; omega)
      (fun _ w1 fg fc hw hv hfg => ?_) (fun _ w1 hw => pr_flush (hb.wide hw) hk) (fun _ w1 hw => pr_arm (hb.wide hw) hi) (fun _ w1 fg fc hw hv hfg => ?_) (fun e4 => by omega) (fun _ _ _ _ _ _ => by omega)).mono fun e w' hh => ⟨hh.1, ?_, ?_, fun e => by omega⟩
    · exact pr_write (hb.wide hw) hk hl hv (hn.kept hw (fun _ _ => id)) (fun h0 g hg hx => by
        have := hnB h0 g hg
        rcases hx with hx | hx
        · have := hP g hx; omega
        · have := hF g hx; omega)
    · exact pr_restart (hb.wide hw) hk hl hv hfg hb.pl hb.fl (hn.kept hw (fun _ _ => id)) (fun h0 g hg hx => by
        have := hnB h0 g hg
        rcases hx with hx | hx
        · have := hP g hx; omega
        · have := hF g hx; omega) hr (by omega)
    · obtain ⟨_, w1, w3, ⟨P', F', S', D', hb', h1, h2⟩, hs, hk3, _⟩ := hh
      refine .inr ⟨b, xb, P', F', S', D', rfl, rfl, hb'.drop hk3, fun g hg => ?_, fun g hg => ?_⟩
      · rcases h1 g hg with h | h
        · exact hP g h
        · omega
      · rcases h2 g hg with h | h
        · exact hF g h
        · omega
    · obtain ⟨_, w1, w3, _, _, _, hkx⟩ := hh
      exact hkx.mono fun g _ hg => hg.elim (hP g) (hF g)
  · refine (show Calls _ _ _ _ _ from play_gen (X := fun _ => False) (S2 := fun _ _ => True) hl (by omega) hn (fun _ h => h.elim) (fun _ _ _ => id) (fun e => by omega) (fun e => by omega) (fun e => by omega) (fun e => by omega) (fun _ w1 hw => rp_read (hb.same hw) hk i) (fun _ _ _ _ _ _ => trivial)).mono fun e w' hh => ?_
    obtain ⟨he, _, _, _, _, _, hkx⟩ := hh
    exact ⟨he, .inr ⟨b, xb, P, F, S, D, rfl, rfl, (hb.same hkx).mono (Nat.le_succ k), hP, hF⟩, hkx.mono (fun _ _ h => h.elim), fun _ => hkx⟩
theorem Wr2.nil {f : Nat} {p : Option Addr} {w1 : World} (h : Calls Try.prog f #[.pointer p] w1 (fun e w' => e = .returned (.slice none 0 0) ∧ Kept (fun _ => False) w1 w')) : Wr2 f p [] w1 :=
  h.mono fun e w' hh => ⟨none, 0, hh.1, Own.nil _ _ _, hh.2⟩
theorem looks_any {B : Nat} {w : World} {p x : Option Addr} {k : Nat} (h : St B w p x k) (hk : k ≤ 900) :
    Calls Try.prog 23 #[.pointer p, .pointer x] w fun e w' => e = .returned (.bool true) ∧ Kept (fun _ => False) w w' := by
  rcases h with ⟨rfl, rfl⟩ | ⟨b, xb, P, F, S, D, rfl, rfl, hb, hP, hF⟩
  · exact looks_nil
  have hr := hb.n.rel
  obtain ⟨lo, lc, so, sc, hd⟩ := hb.d
  obtain ⟨c0, c1, c2, c3, c4, c5⟩ := cells6 hd.r
  have hw : ∃ L, (∀ w1, Kept (fun _ => False) w w1 → Wr2 36 (some ⟨b, 0, none⟩) L w1) ∧ (∀ w1, Kept (fun _ => False) w w1 → Wr2 38 (some ⟨xb, 0, none⟩) L w1) := by
    cases ho : S.off with
    | true => exact ⟨[], fun w1 k1 => Wr2.nil (written_down (hb.s.same k1) ho), fun w1 k1 => Wr2.nil (Calls.kk (dwritten_down (hb.d.same k1) (by rw [← hr.off]; exact ho)))⟩
    | false =>
      refine ⟨wrD D (D.last ++ D.since), fun w1 k1 => ?_, fun w1 k1 => ?_⟩
      · obtain ⟨mb, ao, cap, hs⟩ := hb.s.same k1
        obtain ⟨Z, hZ, hz⟩ := hr.z hb.n.len
        refine (show Calls _ _ _ _ _ from written_ok hs ho (hb.n.sl (by omega)) ⟨Z, by omega, hz⟩).mono fun e w' hh => ?_
        obtain ⟨a, c, ss, he, hnd, hm, hown, hkk⟩ := hh
        have e1 : wrD D (D.last ++ D.since) = ordI ss := written_same hnd (fun k => by rw [hm, hr.page])
        rw [e1]
        exact ⟨a, c, he, hown, hkk⟩
      · refine (dwritten_ok (hb.d.same k1) (by rw [← hr.off]; exact ho) (hb.n.dl (by omega))).mono fun e w' hh => ?_
        obtain ⟨a, c, he, hown, _, hkk⟩ := hh
        exact ⟨a, c, he, hown, hkk⟩
  obtain ⟨L, hw1, hw2⟩ := hw
  exact looks_set (off := D.off) (n := D.n) (ops := D.ops) c0 c3 c5
    (fun w1 k1 => (on_any (hb.s.same k1)).mono fun e w' hh => ⟨by rw [hh.1, hr.off], by rw [hh.2]; exact Kept.refl _ _⟩)
    (fun w1 k1 => (ops_any (hb.s.same k1)).mono fun e w' hh => ⟨by rw [hh.1, hr.ops], by rw [hh.2]; exact Kept.refl _ _⟩)
    (fun w1 k1 => (len_any (hb.s.same k1)).mono fun e w' hh => ⟨by rw [hh.1, hr.n], by rw [hh.2]; exact Kept.refl _ _⟩) hw1 hw2
/-- new ones -/
theorem St.new {w w1 w2 : World} {b xb : Nat} {n : Int} (hs : PlAt (fun g => w.heap.size ≤ g) w1 b (newP n)) (hk1 : Kept (fun _ => False) w w1) (hd : DAt (fun g => g = w1.heap.size) (fun g => g = w1.heap.size) w2 w1.heap.size (newD n)) (hk2 : Kept (fun _ => False) w1 w2) (hx : xb = w1.heap.size) (hl : w1.heap.size < w2.heap.size) :
    St w.heap.size w2 (some ⟨b, 0, none⟩) (some ⟨xb, 0, none⟩) 0 := by
  subst hx
  have h1 := hk1.size
  have h2 := hk2.size
  obtain ⟨lo, lc, so, sc, hd⟩ := hd
  refine .inr ⟨b, w1.heap.size, fun g => w.heap.size ≤ g ∧ g < w1.heap.size, fun g => g = w1.heap.size, newP n, newD n, rfl, rfl, ⟨hs.bound.same hk2, ⟨lo, lc, so, sc, hd.r, hd.ol, hd.os, hd.m, hd.gl, hd.gs, hd.ne, fun x hx => by simp [newD] at hx, fun x hx => by simp [newD] at hx, fun x hx => by simp [newD] at hx, fun g h => .inl h⟩, fun g hg => by omega, fun g hg => by omega, fun g hg => by omega, fun _ h => h.elim, fun _ _ => id, fun _ _ => id, ⟨Rel.new n, ⟨Int.le_refl _, Int.le_refl _⟩, ⟨Int.le_refl 0, (by decide : (0 : Int) ≤ 9223372036854775807)⟩, Nat.le_refl 0⟩⟩, fun g hg => hg.1, fun g hg => by omega⟩
end Go.Proofs.Ytnfdkpjklenllaa
