/- The kinds of calls, one answer for both. -/
import Derived.Test.YtnfdkpjklenllaaDq
namespace Go.Proofs.Ytnfdkpjklenllaa
open Go.RowKit
section
variable {P F : Nat → Prop} {w w1 : World} {b xb k : Nat} {S : Plt} {D : Dpl}
theorem pr_flush (h : Bo P F (fun g => w.heap.size ≤ g ∧ g < w1.heap.size) w1 b xb S D k) (hk : k ≤ 900) : Pr (fun g => P g ∨ F g) (Nx P F w b xb (k + 1)) w1 13 31 #[.pointer (some ⟨b, 0, none⟩)] #[.pointer (some ⟨xb, 0, none⟩)] := by
  cases ho : S.off with
  | true => exact pr_no h (flush_off h.s ho) (fun w2 hk => (Calls.kk (dflush_off (h.d.same hk) (by rw [← h.n.rel.off]; exact ho))))
  | false =>
    have ho' : D.off = false := by rw [← h.n.rel.off]; exact ho
    have hr := h.n.rel.tick ho
    obtain ⟨mb, ao, cap, hs⟩ := h.s
    cases hg : (tick S).off with
    | true =>
      have hg' : (dtick D).off = true := by rw [← hr.off]; exact hg
      exact pr_yes h (S' := tick S) ((flush_dead hs (h.n.small (by omega)) ho hg).mono fun e w' hh => ⟨hh.1, ⟨P, hh.2.1, fun _ h => .inl h⟩, hh.2.2⟩)
        (fun w2 _ hd => (dflush_dead hd (h.n.dsmall (by omega)) ho' hg').mono fun e w' hh => ⟨hh.1, dtick D, h.n.tick ho, hh.2⟩)
    | false =>
      have hg' : (dtick D).off = false := by rw [← hr.off]; exact hg
      exact pr_yes h (S' := (tick S).flushed) ((flush_ok hs (h.n.small (by omega)) ho (h.n.sl (by omega)) hg).mono fun e w' hh => ⟨hh.1, ⟨P, hh.2.1, fun _ h => .inl h⟩, hh.2.2⟩)
        (fun w2 _ hd => (dflush_ok hd (h.n.dsmall (by omega)) ho' hg' (h.n.dl (by omega))).mono fun e w' hh => ⟨hh.1, (dtick D).flushed, (h.n.tick ho).flushed, hh.2⟩)
theorem pr_arm (h : Bo P F (fun g => w.heap.size ≤ g ∧ g < w1.heap.size) w1 b xb S D k) {i : Int} (hi : i ≤ 9223372036854775807) : Pr (fun g => P g ∨ F g) (Nx P F w b xb (k + 1)) w1 12 32 #[.pointer (some ⟨b, 0, none⟩), .int .i64 i] #[.pointer (some ⟨xb, 0, none⟩), .int .i64 i] := by
  by_cases hn : i < 0
  · exact pr_no h (Calls.kk (arm_neg i hn)) (fun w2 hk => (Calls.kk (darm_neg i hn)))
  have hn0 : 0 ≤ i := by omega
  cases ho : S.off with
  | true => exact pr_no h (arm_off h.s ho i hn0) (fun w2 hk => (Calls.kk (darm_off (h.d.same hk) (by rw [← h.n.rel.off]; exact ho) i hn0)))
  | false =>
    have ho' : D.off = false := by rw [← h.n.rel.off]; exact ho
    obtain ⟨mb, ao, cap, hs⟩ := h.s
    exact pr_yes h (S' := { S with armed := i }) ((arm_ok hs ho i hn0).mono fun e w' hh => ⟨hh.1, ⟨P, ⟨mb, ao, cap, hh.2.1⟩, fun _ h => .inl h⟩, hh.2.2.mono (fun g _ e => by rw [e]; exact hs.m)⟩)
      (fun w2 _ hd => (darm_ok hd ho' i hn0).mono fun e w' hh => ⟨hh.1, { D with armed := i }, (h.n.armed ⟨hn0, hi⟩).mono (Nat.le_succ k), hh.2⟩)
theorem pr_restart (h : Bo P F (fun g => w.heap.size ≤ g ∧ g < w1.heap.size) w1 b xb S D k) (hk : k ≤ 900) {fg fc N nc : Nat} {na : Option Addr} {l : List Int} (hl : l.length = N) (hv : Byt w1 (.slice (some ⟨fg, 0, none⟩) N fc) l) (hfg : w.heap.size ≤ fg) (hPw : ∀ g, P g → g < w.heap.size) (hFw : ∀ g, F g → g < w.heap.size) (hn : Byt w1 (.slice na N nc) l) (hnX : 0 < l.length → ∀ g, (Value.slice na N nc).ownBlock = some g → ¬ (P g ∨ F g)) (hr : ∀ x ∈ l, 0 ≤ x ∧ x ≤ 255) (hN : N ≤ 1000) :
    Pr (fun g => P g ∨ F g) (Nx P F w b xb (k + 1)) w1 14 33 #[.pointer (some ⟨b, 0, none⟩), .agg #[.slice (some ⟨fg, 0, none⟩) N fc]] #[.pointer (some ⟨xb, 0, none⟩), .slice na N nc] := by
  subst hl
  cases ho : S.off with
  | false => exact pr_no h (restart_on h.s ho _) (fun w2 hk => (Calls.kk (drestart_on (h.d.same hk) (by rw [← h.n.rel.off]; exact ho) _)))
  | true =>
    have ho' : D.off = true := by rw [← h.n.rel.off]; exact ho
    obtain ⟨mb, ao, cap, hs⟩ := h.s
    exact pr_yes h (S' := S.restart l) (m := k + 1) ((restart_ok hs ho (h.n.sl (by omega)) hv hr (fun g hg hp => by
        have := hPw g hp
        simp [Value.ownBlock] at hg
        omega) h.pl).mono fun e w' hh => ⟨hh.1, ⟨P, hh.2.1, fun _ h => .inl h⟩, hh.2.2⟩)
      (fun w2 hk2 hd => (drestart_ok hd ho' (h.n.dl (by omega)) (fun g hg => Nat.lt_of_lt_of_le (h.fl g hg) hk2.size) (hn.kept2 hk2 (fun h0 g hg hp => hnX h0 g hg (.inl hp))) hr (fun h0 g hg hf => hnX h0 g hg (.inr hf)) (by omega)).mono fun e w' hh => ⟨hh.1, D.restart l, (h.n.restart l).mono (Nat.le_succ k), hh.2⟩)
theorem pr_write (h : Bo P F (fun g => w.heap.size ≤ g ∧ g < w1.heap.size) w1 b xb S D k) (hk : k ≤ 900) {i : Int} {fg fc N nc : Nat} {na : Option Addr} {l : List Int} (hl : l.length = N) (hv : Byt w1 (.slice (some ⟨fg, 0, none⟩) N fc) l) (hn : Byt w1 (.slice na N nc) l) (hnX : 0 < l.length → ∀ g, (Value.slice na N nc).ownBlock = some g → ¬ (P g ∨ F g)) :
    Pr (fun g => P g ∨ F g) (Nx P F w b xb (k + 1)) w1 10 30 #[.pointer (some ⟨b, 0, none⟩), .int .i64 i, .slice (some ⟨fg, 0, none⟩) N fc] #[.pointer (some ⟨xb, 0, none⟩), .int .i64 i, .slice na N nc] := by
  by_cases hi : i < 0
  · exact pr_no h (Calls.kk (write_arg i hi _)) (fun w2 hk => (Calls.kk (dwrite_arg i hi _)))
  have hi0 : 0 ≤ i := by omega
  have hn2 := h.n.rel.n
  by_cases hb : S.n ≤ i
  · exact pr_no h (Calls.kk (write_big h.s i hi0 hb _)) (fun w2 hk => (Calls.kk (dwrite_big (h.d.same hk) i hi0 (by omega) _)))
  have hb' : i < S.n := by omega
  have hb2 : i < D.n := by omega
  by_cases hN : 64 < N
  · exact pr_no h (Calls.kk (write_long h.s i hi0 hb' hN)) (fun w2 hk => (Calls.kk (dwrite_long (h.d.same hk) i hi0 hb2 hN)))
  cases ho : S.off with
  | true => exact pr_no h (write_off h.s ho i hi0 hb' (by omega)) (fun w2 hk => (Calls.kk (dwrite_off (h.d.same hk) (by rw [← h.n.rel.off]; exact ho) i hi0 hb2 (by omega))))
  | false =>
    have ho' : D.off = false := by rw [← h.n.rel.off]; exact ho
    obtain ⟨mb, ao, cap, hs⟩ := h.s
    have hd : D.goE = (tick (S.add i l)).down := by
      show (if (dtick D).off then 11 else 0) = (if (tick (S.add i l)).off then (11 : Int) else 0)
      rw [← (h.n.rel.tick ho).off]
      rfl
    exact pr_yes h (S' := tick (S.add i l)) ((write_ok hs (h.n.small (by omega)) ho (h.n.sl (by omega)) i hi0 hb' hv (by omega)).mono fun e w' hh => ⟨hh.1, hh.2.1, hh.2.2⟩)
      (fun w2 hk2 hd2 => (dwrite_ok hd2 (h.n.dsmall (by omega)) ho' (h.n.dl (by omega)) (h.h2 hk2) i hi0 hb2 (hn.kept2 hk2 (fun h0 g hg hp => hnX h0 g hg (.inl hp))) (by omega)).mono fun e w' hh => ⟨by rw [hh.1, hd], by
        obtain ⟨v', hp⟩ := hh.2
        exact ⟨_, h.n.addt ho i (by omega) v', hp⟩⟩)
theorem xorB_row {T : TypeId} {nb : Nat} {l : List Int} (h : w.heap[nb]? = some (.cells (u8s l).toArray T (0, 0))) (hl : l.length = 64) : XorB w nb 64 := fun j hj => by
  have hj' : j < (u8s l).length := by simpa [u8s, hl] using hj
  refine ⟨⟨l[j]'(by omega), ?_⟩, row_free h j⟩
  rw [row_cell h]
  simp [u8s, hl, hj]
theorem byt_row {T : TypeId} {nb : Nat} {l : List Int} (h : w.heap[nb]? = some (.cells (u8s l).toArray T (0, 0))) (hl : l.length = 64) : Byt w (.slice (some ⟨nb, 0, none⟩) 64 64) l := by
  refine ⟨some ⟨nb, 0, none⟩, 64, by rw [hl], ⟨by omega, by decide⟩, (fun h => by cases h), fun j x hj => ⟨nb, 0, rfl, ?_⟩⟩
  rw [row_cell h, Nat.zero_add]
  simp [u8s, hj]
theorem rp_no {xs ys : Array Value} {r : Int} (h1 : Calls Try.prog 24 xs w1 (fun e w' => e = .returned (.tuple #[.slice none 0 0, .int .i64 r]) ∧ Kept (fun _ => False) w1 w'))
    (h2 : ∀ w2, Kept (fun _ => False) w1 w2 → Calls Try.prog 34 ys w2 (fun e w' => e = .returned (.tuple #[.slice none 0 0, .int .i64 r]) ∧ Kept (fun _ => False) w2 w')) : Rp w1 xs ys := by
  have hb : ∀ w' : World, Byt w' (.slice none 0 0) [] := fun w' => ⟨none, 0, rfl, ⟨Nat.le_refl _, Nat.zero_le _⟩, fun _ => ⟨rfl, rfl⟩, fun j x hj => by simp at hj⟩
  exact ⟨r, [], h1.mono fun e w' hh => ⟨none, 0, hh.1, hb _, .inl rfl, hh.2⟩, fun w2 hk => (h2 w2 hk).mono fun e w' hh => ⟨none, 0, hh.1, hb _, hh.2⟩⟩
theorem rp_read {G : Nat → Prop} (h : Bo P F G w1 b xb S D k) (hk : k ≤ 900) (i : Int) : Rp w1 #[.pointer (some ⟨b, 0, none⟩), .int .i64 i] #[.pointer (some ⟨xb, 0, none⟩), .int .i64 i] := by
  by_cases hi : i < 0
  · exact rp_no (Calls.kk (read_arg i hi)) (fun w2 hk => (Calls.kk (dread_arg i hi)))
  have hi0 : 0 ≤ i := by omega
  have hn2 := h.n.rel.n
  by_cases hb : S.n ≤ i
  · exact rp_no (Calls.kk (read_big h.s i hi0 hb)) (fun w2 hk => (Calls.kk (dread_big (h.d.same hk) i hi0 (by omega))))
  have hb' : i < S.n := by omega
  have hb2 : i < D.n := by omega
  cases ho : S.off with
  | true => exact rp_no (read_off h.s ho i hi0 hb') (fun w2 hk => (Calls.kk (dread_off (h.d.same hk) (by rw [← h.n.rel.off]; exact ho) i hi0 hb2)))
  | false =>
    have ho' : D.off = false := by rw [← h.n.rel.off]; exact ho
    obtain ⟨mb, ao, cap, hs⟩ := h.s
    have hl : (S.page i).length = 64 := lastAll_len h.n.rel.l _ h.n.rel.ss i
    have hl2 : (D.page i).length = 64 := by rw [← h.n.rel.page]; exact hl
    refine ⟨0, S.page i, (read_ok hs ho (h.n.sl (by omega)) i hi0 hb').mono fun e w' hh => ?_, fun w2 hk2 => (dread_ok (h.d.same hk2) ho' (h.n.dl (by omega)) i hi0 hb2).mono fun e w' hh => ?_⟩
    · obtain ⟨nb, he, hr, hlt, hk⟩ := hh
      rw [hl]
      exact ⟨some ⟨nb, 0, none⟩, 64, he, byt_row hr hl, .inr ⟨nb, rfl, xorB_row hr hl, hlt, row_lt hr⟩, hk⟩
    · obtain ⟨nb, he, hr, hlt, hk⟩ := hh
      rw [hl, h.n.rel.page]
      exact ⟨some ⟨nb, 0, none⟩, 64, he, byt_row hr hl2, hk⟩
end
end Go.Proofs.Ytnfdkpjklenllaa
