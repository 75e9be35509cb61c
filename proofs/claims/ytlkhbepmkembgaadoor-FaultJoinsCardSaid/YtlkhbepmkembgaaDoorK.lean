/- Faults: errors.as at *Errno over joined errors, and at **chain. -/
import Derived.Test.YtlkhbepmkembgaaDoorJ
namespace Go.Proofs.YtlkhbepmkembgaaDoor
open Go.RowKit Go.Extern.Stop Go.Stop Go.Extern
set_option maxHeartbeats 2000000 in
set_option maxRecDepth 100000 in
theorem as_join (r : Int) (l0 : List FL) (js : JL) (ls : List FL) (b v : Value) (w : World) (a t : Addr) (old : Value) (hJ : JoinAt w b js) (h0 : js[0]? = some (l0, r)) (h : LinksAt w b ls v) (ha : w.cell? a = some (.pointer (some t))) (ht : w.cell? t = some old) (hf : w.frozen? t = false) :
    Calls Tryd.prog 29 #[v, .iface 52 (.pointer (some t)), rv 52 a 150, rti 30] w fun e w' => e = .returned (.bool true) ∧ w'.cell? t = some (.int .i64 r) ∧ Kept (fun k => k = t.block) w w' := by
  obtain ⟨w1, hw1⟩ : ∃ w1, w.alloc (.cells #[.pointer (some ⟨4, 52, none⟩), .pointer (some a), .int .u64 150] 66) = w1 := ⟨_, rfl⟩
  have hk1 : Kept (fun _ => False) w w1 := hw1 ▸ (Kept.refl _ _).alloc _
  obtain ⟨bx, hbx⟩ : ∃ bx, w.heap.size = bx := ⟨_, rfl⟩
  have hr : w1.heap[bx]? = some (.cells #[.pointer (some ⟨4, 52, none⟩), .pointer (some a), .int .u64 150] 66 (0, 0)) := by rw [← hw1, ← hbx]; exact row_new _ _
  have c0 := row_cell hr 0
  have c1 := row_cell hr 1
  have c2 := row_cell hr 2
  simp at c0 c1 c2
  have htl : t.block < w.heap.size := by
    rcases Nat.lt_or_ge t.block w.heap.size with h | h
    · exact h
    · simp [World.cell?, Array.getElem?_eq_none h] at ht
  have hf1 : w1.frozen? t = false := (hk1.frozen htl id).trans hf
  have ha1 := hk1.cell ha id
  have ht1 := hk1.cell ht id
  have hm := h.kept hk1 (fun _ _ => id)
  have hJ1 := hJ.kept hk1 (fun _ _ => id)
  obtain ⟨D, hD⟩ := LinksAt.depth w1 hJ1.noLink
  have HD := hid hD
  have HL := hid hm
  have HK := hid hk1
  have HJ := hid hJ1
  have HA := hid ha1; have HT := hid ht1; have HF := hid hf1; have H0 := hid h0
  have hn0 : (0 : Int) < (js.length : Int) := by have := (List.getElem?_eq_some_iff.1 h0).1; omega
  clear hD h hm hk1 ha ht hf htl hf1 ha1 ht1 hJ hJ1 h0
  have q2 := z30C; have q3 := z77_83_30; have q4 := z77_56_30; have q5 := z30J
  have m1 := m_unC; have m2 := m_asg; have m3 := m_unJ
  have s4 := a_asC; have s5 := a_unC; have s1 := a_asJ; have s2 := a_unJ; have s3 := a_usJ
  go_enter Tryd.func29, Tryd.ntmps29
  go_wp2_with fail
  clear hw1 hbx
  go_loopw [0] (fun v wr => w1 = wr ∧ ∃ ms : List FL, LinksAt w1 b ms v) (fun v _ => D v)
  case atStart => exact ⟨rfl, ls, HL.out⟩
  case round =>
    obtain ⟨rfl, ms, hm⟩ := hrel
    cases ms with
    | nil =>
      have e := hm
      simp only [LinksAt] at e
      subst e
      obtain ⟨jb, sb, cap, rfl, h2, h3, h4⟩ := HJ.out
      obtain ⟨hne, u, hu, hlu⟩ := h4 0 _ H0.out
      obtain ⟨te, pe, rfl⟩ : ∃ t p, u = .iface t p := hlu.iface rfl
      have HU := hid hlu
      clear hm h4 hlu hne h3
      obtain ⟨n, hn⟩ : ∃ n, js.length = n := ⟨_, rfl⟩
      rw [hn] at h2 hn0
      clear hn
      go_wp2_with fail
      refine (unwrap_join jb _ _ h2).mono ?_; rintro x w' ⟨rfl, rfl⟩
      go_wp2_with fail
      go_loopw [50] (fun i wr => w1 = wr ∧ i = .int .i64 0) (fun _ _ => 0)
      case atStart => exact ⟨rfl, rfl⟩
      case round =>
        obtain ⟨rfl, rfl⟩ := hrel
        go_wp2_with fail
        refine (as_root r l0 _ _ a t old HU.out HA.out HT.out HF.out).mono ?_; rintro e w' ⟨rfl, hc, hk⟩
        have HC := hid hc
        have HKK := hid hk
        clear hc hk
        go_wp2_with fail
        go_ret
        exact ⟨rfl, HC.out, (HK.out.mono (fun _ _ => False.elim)).trans HKK.out⟩
    | cons l ms =>
      obtain ⟨blk, e, rfl, h2, h3⟩ := hm
      have HE := hid h3
      obtain ⟨te, pe, rfl⟩ : ∃ t p, e = .iface t p := by
        obtain ⟨jb, sb, cap, hb, _⟩ := HJ.out
        exact h3.iface hb
      clear h3
      go_wp2_with fail
      refine (unwrap_chain blk l _ _ h2).mono ?_; rintro x w' ⟨rfl, rfl⟩
      go_wp2_with fail
      go_roundw
      case rel => exact ⟨trivial, ms, HE.out⟩
      case measure =>
        rw [HD.out (l :: ms) _ ⟨_, _, rfl, h2, HE.out⟩, HD.out ms _ HE.out]; simp
set_option maxHeartbeats 2000000 in
set_option maxRecDepth 100000 in
theorem as_chain (p : Addr) (w : World) (a t : Addr) (old : Value) (ha : w.cell? a = some (.pointer (some t))) (ht : w.cell? t = some old) (hf : w.frozen? t = false) :
    Calls Tryd.prog 29 #[.iface 56 (.pointer (some p)), .iface 78 (.pointer (some t)), rv 78 a 150, rti 56] w fun e w' => e = .returned (.bool true) ∧ w'.cell? t = some (.pointer (some p)) ∧ Kept (fun k => k = t.block) w w' := by
  obtain ⟨w1, hw1⟩ : ∃ w1, w.alloc (.cells #[.pointer (some ⟨4, 78, none⟩), .pointer (some a), .int .u64 150] 66) = w1 := ⟨_, rfl⟩
  have hk1 : Kept (fun _ => False) w w1 := hw1 ▸ (Kept.refl _ _).alloc _
  obtain ⟨bx, hbx⟩ : ∃ bx, w.heap.size = bx := ⟨_, rfl⟩
  have hr : w1.heap[bx]? = some (.cells #[.pointer (some ⟨4, 78, none⟩), .pointer (some a), .int .u64 150] 66 (0, 0)) := by rw [← hw1, ← hbx]; exact row_new _ _
  have c0 := row_cell hr 0
  have c1 := row_cell hr 1
  have c2 := row_cell hr 2
  simp at c0 c1 c2
  have htl : t.block < w.heap.size := by
    rcases Nat.lt_or_ge t.block w.heap.size with h | h
    · exact h
    · simp [World.cell?, Array.getElem?_eq_none h] at ht
  have hf1 : w1.frozen? t = false := (hk1.frozen htl id).trans hf
  have ha1 := hk1.cell ha id
  have ht1 := hk1.cell ht id
  have HK := hid hk1
  have el := z36_78 a t w1 ha1
  have st := z37_56 t ⟨w1.heap.size, 0, none⟩ (.pointer (some p)) old (w1.alloc (.cells #[.pointer (some p)] 56)) rfl rfl
    (by rw [World.cell?_alloc_new]; rfl)
    (by rw [World.cell?_alloc_lt _ _ t (Nat.lt_of_lt_of_le htl hk1.size)]; exact ht1)
    (by rw [World.frozen?_alloc_old _ _ t (Nat.ne_of_lt (Nat.lt_of_lt_of_le htl hk1.size))]; exact hf1)
  have hfin : (((w1.alloc (.cells #[.pointer (some p)] 56)).setCell t (.pointer (some p))).cell? t = some (.pointer (some p))) ∧ Kept (fun k => k = t.block) w ((w1.alloc (.cells #[.pointer (some p)] 56)).setCell t (.pointer (some p))) := by
    refine ⟨World.cell?_setCell_same _ _ _ (by rw [World.cell?_alloc_lt _ _ t (Nat.lt_of_lt_of_le htl hk1.size)]; exact ht1), ?_⟩
    exact Kept.setCell (F := fun k => k = t.block) (Kept.alloc (hk1.mono (fun _ _ => False.elim)) _) (p := t) (.inl rfl) _
  have HF := hid hfin
  clear hk1 hfin ha ht hf htl hf1 ha1 ht1
  have q2 := z30C; have q4 := z77_56_56; have q5 := z26_56
  have m2 := m_asg
  go_enter Tryd.func29, Tryd.ntmps29
  go_wp2_with fail
  clear hw1 hbx
  go_loopw [0] (fun v wr => w1 = wr ∧ v = .iface 56 (.pointer (some p))) (fun _ _ => 0)
  case atStart => exact ⟨rfl, rfl⟩
  case round =>
    obtain ⟨rfl, rfl⟩ := hrel
    go_wp2_with fail
    go_ret
    exact ⟨rfl, HF.out⟩
set_option maxHeartbeats 2000000 in
set_option maxRecDepth 100000 in
theorem as_miss (r : Int) (w : World) (a t : Addr) :
    Calls Tryd.prog 29 #[rootV r, .iface 78 (.pointer (some t)), rv 78 a 150, rti 56] w fun e w' => e = .returned (.bool false) ∧ Kept (fun _ => False) w w' := by
  have hk1 : ∀ o, Kept (fun _ => False) w (w.alloc o) := fun o => (Kept.refl _ _).alloc _
  have HK := hid hk1
  clear hk1
  unfold rootV
  have q2 := z30R; have q4 := z77_30_56
  have m2 := m_asg
  have s1 := a_asR; have s2 := a_unR; have s3 := a_usR
  go_enter Tryd.func29, Tryd.ntmps29
  go_wp2_with fail
  obtain ⟨w1, hw1⟩ : ∃ w1, w.alloc (.cells #[.pointer (some ⟨4, 78, none⟩), .pointer (some a), .int .u64 150] 66) = w1 := ⟨_, rfl⟩
  have HK1 := hid (hw1 ▸ HK.out _ : Kept (fun _ => False) w w1)
  simp only [hw1]
  clear hw1
  go_loopw [0] (fun v wr => w1 = wr ∧ v = .iface 30 (.int .i64 r)) (fun _ _ => 0)
  case atStart => exact ⟨rfl, rfl⟩
  case round =>
    obtain ⟨rfl, rfl⟩ := hrel
    go_wp2_with fail
    go_ret
    exact ⟨rfl, HK1.out⟩
end Go.Proofs.YtlkhbepmkembgaaDoor
