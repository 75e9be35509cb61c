/- Faults: errors.as at *Errno. -/
import Derived.Test.YtlkhbepmkembgaaDoorI
namespace Go.Proofs.YtlkhbepmkembgaaDoor
open Go.RowKit Go.Extern.Stop Go.Stop Go.Extern
set_option maxHeartbeats 2000000 in
set_option maxRecDepth 100000 in
theorem as_root (r : Int) (ls : List FL) (v : Value) (w : World) (a t : Addr) (old : Value) (h : LinksAt w (rootV r) ls v) (ha : w.cell? a = some (.pointer (some t))) (ht : w.cell? t = some old) (hf : w.frozen? t = false) :
    Calls Tryd.prog 29 #[v, .iface 52 (.pointer (some t)), rv 52 a 150, rti 30] w fun e w' => e = .returned (.bool true) ∧ w'.cell? t = some (.int .i64 r) ∧ Kept (fun k => k = t.block) w w' := by
  obtain ⟨w1, hw1⟩ : ∃ w1, w.alloc (.cells #[.pointer (some ⟨4, 52, none⟩), .pointer (some a), .int .u64 150] 66) = w1 := ⟨_, rfl⟩
  have hk1 : Kept (fun _ => False) w w1 := hw1 ▸ (Kept.refl _ _).alloc _
  obtain ⟨bx, hbx⟩ : ∃ bx, w.heap.size = bx := ⟨_, rfl⟩
  have hr : w1.heap[bx]? = some (.cells #[.pointer (some ⟨4, 52, none⟩), .pointer (some a), .int .u64 150] 66 (0, 0)) := by rw [← hw1, ← hbx]; exact row_new _ _
  have c0 := row_cell hr 0
  have c1 := row_cell hr 1
  have c2 := row_cell hr 2
  simp at c0 c1 c2
  have htl : t.block < w.heap.size := by
    rcases Nat.lt_or_ge t.block w.heap.size with h | h
    · exact h
    · simp [World.cell?, Array.getElem?_eq_none h] at ht
  have hf1 : w1.frozen? t = false := (hk1.frozen htl id).trans hf
  have ha1 := hk1.cell ha id
  have ht1 := hk1.cell ht id
  have hm := h.kept hk1 (fun _ _ => id)
  obtain ⟨D, hD⟩ := LinksAt.depth w1 (noLink_root r)
  have HD := hid hD
  have HL := hid hm
  have HK := hid hk1
  have el := z36_52 a t w1 ha1
  have st := z37_30 t ⟨w1.heap.size, 0, none⟩ (.int .i64 r) old (w1.alloc (.cells #[.int .i64 r] 30)) rfl rfl
    (by rw [World.cell?_alloc_new]; rfl)
    (by rw [World.cell?_alloc_lt _ _ t (Nat.lt_of_lt_of_le htl hk1.size)]; exact ht1)
    (by rw [World.frozen?_alloc_old _ _ t (Nat.ne_of_lt (Nat.lt_of_lt_of_le htl hk1.size))]; exact hf1)
  have hfin : (((w1.alloc (.cells #[.int .i64 r] 30)).setCell t (.int .i64 r)).cell? t = some (.int .i64 r)) ∧ Kept (fun k => k = t.block) w ((w1.alloc (.cells #[.int .i64 r] 30)).setCell t (.int .i64 r)) := by
    refine ⟨World.cell?_setCell_same _ _ _ (by rw [World.cell?_alloc_lt _ _ t (Nat.lt_of_lt_of_le htl hk1.size)]; exact ht1), ?_⟩
    exact Kept.setCell (F := fun k => k = t.block) (Kept.alloc (hk1.mono (fun _ _ => False.elim)) _) (p := t) (.inl rfl) _
  have HF := hid hfin
  clear hD h hm hk1 hfin ha ht hf htl hf1 ha1 ht1
  unfold rootV at *
  have q1 := z30R; have q2 := z30C; have q3 := z77_30_30; have q4 := z77_56_30; have q5 := z26_30
  have m1 := m_unC; have m2 := m_asg
  have s4 := a_asC; have s5 := a_unC
  go_enter Tryd.func29, Tryd.ntmps29
  go_wp2_with fail
  clear hw1 hbx
  go_loopw [0] (fun v wr => w1 = wr ∧ ∃ ms : List FL, LinksAt w1 (rootV r) ms v) (fun v _ => D v)
  case atStart => exact ⟨rfl, ls, HL.out⟩
  case round =>
    obtain ⟨rfl, ms, hm⟩ := hrel
    cases ms with
    | nil =>
      have e := hm
      simp only [LinksAt] at e
      subst e
      clear hm
      unfold rootV
      go_wp2_with fail
      go_ret
      exact ⟨rfl, HF.out⟩
    | cons l ms =>
      obtain ⟨blk, e, rfl, h2, h3⟩ := hm
      have HE := hid h3
      obtain ⟨te, pe, rfl⟩ : ∃ t p, e = .iface t p := h3.iface rfl
      clear h3
      go_wp2_with fail
      refine (unwrap_chain blk l _ _ h2).mono ?_; rintro x w' ⟨rfl, rfl⟩
      go_wp2_with fail
      go_roundw
      case rel => exact ⟨trivial, ms, HE.out⟩
      case measure =>
        rw [HD.out (l :: ms) _ ⟨_, _, rfl, h2, HE.out⟩, HD.out ms _ HE.out]; simp
end Go.Proofs.YtlkhbepmkembgaaDoor
