/- Faults: errors.As at *Errno and **chain; errors.Is. -/
import Derived.Test.YtlkhbepmkembgaaDoorK
namespace Go.Proofs.YtlkhbepmkembgaaDoor
open Go.RowKit Go.Extern.Stop Go.Stop Go.Extern
/-- what lies behind the links: a root, or joined errors, the first about r with links l0; has: is this root among them? -/
def BaseAt (w : World) (b : Value) (r : Int) (l0 : List FL) (has : Int → Bool) : Prop :=
  (b = rootV r ∧ l0 = [] ∧ ∀ c, has c = (r == c)) ∨ ∃ js : JL, JoinAt w b js ∧ js[0]? = some (l0, r) ∧ ∀ c, has c = js.any (fun m => m.2 == c)
theorem BaseAt.kept {w w' : World} {b : Value} {r : Int} {l0 : List FL} {has : Int → Bool} {F : Nat → Prop} (h : BaseAt w b r l0 has) (k : Kept F w w') (hF : ∀ i, i < w.heap.size → ¬ F i) : BaseAt w' b r l0 has := by
  rcases h with h | ⟨js, h1, h2⟩
  · exact .inl h
  · exact .inr ⟨js, h1.kept k hF, h2⟩
theorem BaseAt.iface {w : World} {b : Value} {r : Int} {l0 : List FL} {has : Int → Bool} (h : BaseAt w b r l0 has) : ∃ t p, b = .iface t p := by
  rcases h with h | ⟨js, ⟨jb, sb, cap, h1, _⟩, h2⟩
  · exact ⟨_, _, h.1⟩
  · exact ⟨_, _, h1⟩
/-- an error: its links, its first root, and what roots it has -/
def ErrAt (w : World) (v : Value) (ls : List FL) (r : Int) (has : Int → Bool) : Prop := ∃ (b : Value) (l1 l0 : List FL), BaseAt w b r l0 has ∧ LinksAt w b l1 v ∧ ls = l1 ++ l0
theorem ErrAt.kept {w w' : World} {v : Value} {ls : List FL} {r : Int} {has : Int → Bool} {F : Nat → Prop} (h : ErrAt w v ls r has) (k : Kept F w w') (hF : ∀ i, i < w.heap.size → ¬ F i) : ErrAt w' v ls r has := by
  obtain ⟨b, l1, l0, h1, h2, h3⟩ := h
  exact ⟨b, l1, l0, h1.kept k hF, h2.kept k hF, h3⟩
theorem ErrAt.iface {w : World} {v : Value} {ls : List FL} {r : Int} {has : Int → Bool} (h : ErrAt w v ls r has) : ∃ t p, v = .iface t p := by
  obtain ⟨b, l1, l0, h1, h2, h3⟩ := h
  obtain ⟨t, p, rfl⟩ := h1.iface
  exact h2.iface rfl
theorem is_any {w : World} {v : Value} {ls : List FL} {r : Int} {has : Int → Bool} (h : ErrAt w v ls r has) (c : Int) :
    Calls Tryd.prog 31 #[v, rootV c, .bool true] w fun e w' => e = .returned (.bool (has c)) ∧ w = w' := by
  obtain ⟨b, l1, l0, h1 | ⟨js, h1, h2, h4⟩, h3, _⟩ := h
  · obtain ⟨rfl, rfl, h⟩ := h1
    rw [h]; exact is_root c r l1 v w h3
  · rw [h4]; exact is_join c js l1 b v w h1 h3
theorem as_any {w : World} {v : Value} {ls : List FL} {r : Int} {has : Int → Bool} (h : ErrAt w v ls r has) (a t : Addr) (old : Value) (ha : w.cell? a = some (.pointer (some t))) (ht : w.cell? t = some old) (hf : w.frozen? t = false) :
    Calls Tryd.prog 29 #[v, .iface 52 (.pointer (some t)), rv 52 a 150, rti 30] w fun e w' => e = .returned (.bool true) ∧ w'.cell? t = some (.int .i64 r) ∧ Kept (fun k => k = t.block) w w' := by
  obtain ⟨b, l1, l0, h1 | ⟨js, h1, h2, h4⟩, h3, _⟩ := h
  · obtain ⟨rfl, rfl, _⟩ := h1
    exact as_root r l1 v w a t old h3 ha ht hf
  · exact as_join r l0 js l1 b v w a t old h1 h2 h3 ha ht hf
/-- the variable errors.errorType -/
def ErrT (w : World) : Prop := w.cell? ⟨0, 0, none⟩ = some (rti 27)
theorem ErrT.kept {w w' : World} (h : ErrT w) (k : Kept (fun _ => False) w w') : ErrT w' := k.cell h id
set_option maxHeartbeats 2000000 in
set_option maxRecDepth 100000 in
theorem As_any {w : World} {v : Value} {ls : List FL} {r : Int} {has : Int → Bool} (h : ErrAt w v ls r has) (hG : ErrT w) (t : Addr) (old : Value) (ht : w.cell? t = some old) (hf : w.frozen? t = false) :
    Calls Tryd.prog 19 #[v, .iface 52 (.pointer (some t))] w fun e w' => e = .returned (.bool true) ∧ w'.cell? t = some (.int .i64 r) ∧ Kept (fun k => k = t.block) w w' := by
  obtain ⟨te, pe, rfl⟩ := h.iface
  obtain ⟨w1, hw1⟩ : ∃ w1, w.alloc (.cells #[.pointer (some t)] 52) = w1 := ⟨_, rfl⟩
  obtain ⟨w2, hw2⟩ : ∃ w2, w1.alloc (.cells #[.pointer (some ⟨4, 52, none⟩), .pointer (some ⟨w.heap.size, 0, none⟩), .int .u64 150] 66) = w2 := ⟨_, rfl⟩
  have hk1 : Kept (fun _ => False) w w1 := hw1 ▸ (Kept.refl _ _).alloc _
  have hk2 : Kept (fun _ => False) w w2 := hw2 ▸ hk1.alloc _
  have hra : w1.heap[w.heap.size]? = some (.cells #[.pointer (some t)] 52 (0, 0)) := by rw [← hw1]; exact row_new _ _
  have hra2 : w2.heap[w.heap.size]? = some (.cells #[.pointer (some t)] 52 (0, 0)) := by rw [← hw2]; exact row_old hra _
  have hrv : w2.heap[w1.heap.size]? = some (.cells #[.pointer (some ⟨4, 52, none⟩), .pointer (some ⟨w.heap.size, 0, none⟩), .int .u64 150] 66 (0, 0)) := by rw [← hw2]; exact row_new _ _
  obtain ⟨a, hax⟩ : ∃ a : Addr, (⟨w.heap.size, 0, none⟩ : Addr) = a := ⟨_, rfl⟩
  obtain ⟨bv, hbv⟩ : ∃ bv, w1.heap.size = bv := ⟨_, rfl⟩
  have ha2 : w2.cell? a = some (.pointer (some t)) := by rw [← hax, row_cell hra2]; rfl
  rw [hbv] at hrv
  rw [hax] at hrv
  have c0 := row_cell hrv 0
  have c1 := row_cell hrv 1
  have c2 := row_cell hrv 2
  simp at c0 c1 c2
  have htl : t.block < w.heap.size := by
    rcases Nat.lt_or_ge t.block w.heap.size with h | h
    · exact h
    · simp [World.cell?, Array.getElem?_eq_none h] at ht
  have hf2 : w2.frozen? t = false := (hk2.frozen htl id).trans hf
  have ht2 := hk2.cell ht id
  have hg2 := hG.kept hk2
  unfold ErrT at hg2
  have n1 := z28_52 a t w2 ha2
  have v1 := z26_52 t w
  rw [hw1, hax] at v1
  have HK := hid hk2; have HA := hid ha2; have HT := hid ht2; have HF := hid hf2
  rw [hax] at hw2
  clear hra hra2 hrv hk1 hk2 ha2 ht hf htl hf2 ht2 hG hw1 hax
  have q1 := z27_52; have q2 := z66_52; have q3 := z66_30; have q4 := z79_52; have q5 := z80_30
  have m1 := m_kind; have m2 := m_elem; have m3 := m_impl
  have HE := hid (h.kept HK.out (fun _ _ => id))
  clear h
  go_enter Tryd.func19, Tryd.ntmps19
  go_wp2_with fail
  refine (as_any HE.out a t old HA.out HT.out HF.out).mono ?_; rintro e w' ⟨rfl, hc, hk⟩
  have HC := hid hc
  have HKK := hid hk
  clear hc hk
  go_wp2_with fail
  go_ret
  exact ⟨rfl, HC.out, (HK.out.mono (fun _ _ => False.elim)).trans HKK.out⟩
set_option maxHeartbeats 2000000 in
set_option maxRecDepth 100000 in
theorem As_chain {w : World} (p : Addr) (hG : ErrT w) (t : Addr) (old : Value) (ht : w.cell? t = some old) (hf : w.frozen? t = false) :
    Calls Tryd.prog 19 #[.iface 56 (.pointer (some p)), .iface 78 (.pointer (some t))] w fun e w' => e = .returned (.bool true) ∧ w'.cell? t = some (.pointer (some p)) ∧ Kept (fun k => k = t.block) w w' := by
  obtain ⟨w1, hw1⟩ : ∃ w1, w.alloc (.cells #[.pointer (some t)] 78) = w1 := ⟨_, rfl⟩
  obtain ⟨w2, hw2⟩ : ∃ w2, w1.alloc (.cells #[.pointer (some ⟨4, 78, none⟩), .pointer (some ⟨w.heap.size, 0, none⟩), .int .u64 150] 66) = w2 := ⟨_, rfl⟩
  have hk1 : Kept (fun _ => False) w w1 := hw1 ▸ (Kept.refl _ _).alloc _
  have hk2 : Kept (fun _ => False) w w2 := hw2 ▸ hk1.alloc _
  have hra : w1.heap[w.heap.size]? = some (.cells #[.pointer (some t)] 78 (0, 0)) := by rw [← hw1]; exact row_new _ _
  have hra2 : w2.heap[w.heap.size]? = some (.cells #[.pointer (some t)] 78 (0, 0)) := by rw [← hw2]; exact row_old hra _
  have hrv : w2.heap[w1.heap.size]? = some (.cells #[.pointer (some ⟨4, 78, none⟩), .pointer (some ⟨w.heap.size, 0, none⟩), .int .u64 150] 66 (0, 0)) := by rw [← hw2]; exact row_new _ _
  obtain ⟨a, hax⟩ : ∃ a : Addr, (⟨w.heap.size, 0, none⟩ : Addr) = a := ⟨_, rfl⟩
  obtain ⟨bv, hbv⟩ : ∃ bv, w1.heap.size = bv := ⟨_, rfl⟩
  have ha2 : w2.cell? a = some (.pointer (some t)) := by rw [← hax, row_cell hra2]; rfl
  rw [hbv] at hrv
  rw [hax] at hrv
  have c0 := row_cell hrv 0
  have c1 := row_cell hrv 1
  have c2 := row_cell hrv 2
  simp at c0 c1 c2
  have htl : t.block < w.heap.size := by
    rcases Nat.lt_or_ge t.block w.heap.size with h | h
    · exact h
    · simp [World.cell?, Array.getElem?_eq_none h] at ht
  have hf2 : w2.frozen? t = false := (hk2.frozen htl id).trans hf
  have ht2 := hk2.cell ht id
  have hg2 := hG.kept hk2
  unfold ErrT at hg2
  have n1 := z28_78 a t w2 ha2
  have v1 := z26_78 t w
  rw [hw1, hax] at v1
  have HK := hid hk2; have HA := hid ha2; have HT := hid ht2; have HF := hid hf2
  rw [hax] at hw2
  clear hra hra2 hrv hk1 hk2 ha2 ht hf htl hf2 ht2 hG hw1 hax
  have q1 := z27_78; have q2 := z66_78; have q3 := z66_56; have q4 := z79_78; have q5 := z80_56
  have m1 := m_kind; have m2 := m_elem; have m3 := m_impl
  go_enter Tryd.func19, Tryd.ntmps19
  go_wp2_with fail
  refine (as_chain p _ a t old HA.out HT.out HF.out).mono ?_; rintro e w' ⟨rfl, hc, hk⟩
  have HC := hid hc
  have HKK := hid hk
  clear hc hk
  go_wp2_with fail
  go_ret
  exact ⟨rfl, HC.out, (HK.out.mono (fun _ _ => False.elim)).trans HKK.out⟩
set_option maxHeartbeats 2000000 in
set_option maxRecDepth 100000 in
theorem As_miss {w : World} (r : Int) (hG : ErrT w) (t : Addr) (old : Value) (ht : w.cell? t = some old) (hf : w.frozen? t = false) :
    Calls Tryd.prog 19 #[rootV r, .iface 78 (.pointer (some t))] w fun e w' => e = .returned (.bool false) ∧ Kept (fun _ => False) w w' := by
  have HR := hid (fun w a => as_miss r w a t)
  unfold rootV at *
  obtain ⟨w1, hw1⟩ : ∃ w1, w.alloc (.cells #[.pointer (some t)] 78) = w1 := ⟨_, rfl⟩
  obtain ⟨w2, hw2⟩ : ∃ w2, w1.alloc (.cells #[.pointer (some ⟨4, 78, none⟩), .pointer (some ⟨w.heap.size, 0, none⟩), .int .u64 150] 66) = w2 := ⟨_, rfl⟩
  have hk1 : Kept (fun _ => False) w w1 := hw1 ▸ (Kept.refl _ _).alloc _
  have hk2 : Kept (fun _ => False) w w2 := hw2 ▸ hk1.alloc _
  have hra : w1.heap[w.heap.size]? = some (.cells #[.pointer (some t)] 78 (0, 0)) := by rw [← hw1]; exact row_new _ _
  have hra2 : w2.heap[w.heap.size]? = some (.cells #[.pointer (some t)] 78 (0, 0)) := by rw [← hw2]; exact row_old hra _
  have hrv : w2.heap[w1.heap.size]? = some (.cells #[.pointer (some ⟨4, 78, none⟩), .pointer (some ⟨w.heap.size, 0, none⟩), .int .u64 150] 66 (0, 0)) := by rw [← hw2]; exact row_new _ _
  obtain ⟨a, hax⟩ : ∃ a : Addr, (⟨w.heap.size, 0, none⟩ : Addr) = a := ⟨_, rfl⟩
  obtain ⟨bv, hbv⟩ : ∃ bv, w1.heap.size = bv := ⟨_, rfl⟩
  have ha2 : w2.cell? a = some (.pointer (some t)) := by rw [← hax, row_cell hra2]; rfl
  rw [hbv] at hrv
  rw [hax] at hrv
  have c0 := row_cell hrv 0
  have c1 := row_cell hrv 1
  have c2 := row_cell hrv 2
  simp at c0 c1 c2
  have htl : t.block < w.heap.size := by
    rcases Nat.lt_or_ge t.block w.heap.size with h | h
    · exact h
    · simp [World.cell?, Array.getElem?_eq_none h] at ht
  have hf2 : w2.frozen? t = false := (hk2.frozen htl id).trans hf
  have ht2 := hk2.cell ht id
  have hg2 := hG.kept hk2
  unfold ErrT at hg2
  have n1 := z28_78 a t w2 ha2
  have v1 := z26_78 t w
  rw [hw1, hax] at v1
  have HK := hid hk2; have HA := hid ha2; have HT := hid ht2; have HF := hid hf2
  rw [hax] at hw2
  clear hra hra2 hrv hk1 hk2 ha2 ht hf htl hf2 ht2 hG hw1 hax
  have q1 := z27_78; have q2 := z66_78; have q3 := z66_56; have q4 := z79_78; have q5 := z80_56
  have m1 := m_kind; have m2 := m_elem; have m3 := m_impl
  go_enter Tryd.func19, Tryd.ntmps19
  go_wp2_with fail
  refine (HR.out _ a).mono ?_; rintro e w' ⟨rfl, hk⟩
  have HKK := hid hk
  clear hk
  go_wp2_with fail
  go_ret
  exact ⟨rfl, HK.out.trans HKK.out⟩
set_option maxHeartbeats 2000000 in
set_option maxRecDepth 100000 in
theorem Is_any {w : World} {v : Value} {ls : List FL} {r : Int} {has : Int → Bool} (h : ErrAt w v ls r has) (c : Int) :
    Calls Tryd.prog 20 #[v, rootV c] w fun e w' => e = .returned (.bool (has c)) ∧ w = w' := by
  obtain ⟨te, pe, rfl⟩ := h.iface
  have HR := hid (is_any h c)
  unfold rootV at *
  have q1 := z30R; have q2 := z78; have m1 := m_comp
  go_enter Tryd.func20, Tryd.ntmps20
  go_wp2_with fail
  refine HR.out.mono ?_; rintro e w' ⟨rfl, rfl⟩
  go_wp2_with fail
  go_ret
  exact ⟨rfl, rfl⟩
set_option maxRecDepth 100000 in
theorem Is_nil (c : Int) (w : World) :
    Calls Tryd.prog 20 #[.nilIface, rootV c] w fun e w' => e = .returned (.bool false) ∧ w = w' := by
  unfold rootV
  have hn := run_eql_iface_nil_left (P := Tryd.prog) w 30 (.int .i64 c) Tryd.underlying27
  go_enter Tryd.func20, Tryd.ntmps20
  go_wp2_with fail
  go_ret
  exact ⟨rfl, rfl⟩
/-! ### fault.Is, fault.Code -/
set_option maxRecDepth 100000 in
theorem fis_any {w : World} {v : Value} {ls : List FL} {r : Int} {has : Int → Bool} (h : ErrAt w v ls r has) (c : Int) :
    Calls Tryd.prog 10 #[v, .int .i64 c] w fun e w' => e = .returned (.bool (if c = 0 then false else has c)) ∧ w = w' := by
  obtain ⟨te, pe, rfl⟩ := h.iface
  have HR := hid (Is_any h c)
  unfold rootV at *
  clear h
  obtain ⟨x, hx⟩ : ∃ x, (if c = 0 then false else has c) = x := ⟨_, rfl⟩
  rw [hx]
  by_cases hc : c = 0
  · subst hc
    rw [if_pos rfl] at hx
    subst hx
    go_enter Tryd.func10, Tryd.ntmps10
    go_wp2_with fail
    go_ret
    exact ⟨rfl, rfl⟩
  · have hc' : (c == 0) = false := by simpa using hc
    rw [if_neg hc] at hx
    have HC := hid hx.symm
    clear hc hx
    go_enter Tryd.func10, Tryd.ntmps10
    go_wp2_with fail
    refine HR.out.mono ?_; rintro e w' ⟨rfl, rfl⟩
    go_wp2_with fail
    go_ret
    exact ⟨ret_bool HC.out.symm, rfl⟩
set_option maxRecDepth 100000 in
theorem fis_nil (c : Int) (w : World) :
    Calls Tryd.prog 10 #[.nilIface, .int .i64 c] w fun e w' => e = .returned (.bool (c == 0)) ∧ w = w' := by
  have HR := hid (Is_nil c)
  unfold rootV at *
  by_cases hc : c = 0
  · subst hc
    go_enter Tryd.func10, Tryd.ntmps10
    go_wp2_with fail
    go_ret
    exact ⟨rfl, rfl⟩
  · have hc' : (c == 0) = false := by simpa using hc
    have HC := hid hc'
    clear hc
    go_enter Tryd.func10, Tryd.ntmps10
    go_wp2_with fail
    refine (HR.out _).mono ?_; rintro e w' ⟨rfl, rfl⟩
    go_wp2_with fail
    go_ret
    exact ⟨ret_bool HC.out.symm, rfl⟩
set_option maxRecDepth 100000 in
theorem code_any {w : World} {v : Value} {ls : List FL} {r : Int} {has : Int → Bool} (h : ErrAt w v ls r has) (hG : ErrT w) :
    Calls Tryd.prog 9 #[v] w fun e w' => e = .returned (.int .i64 r) ∧ Kept (fun _ => False) w w' := by
  obtain ⟨te, pe, rfl⟩ := h.iface
  obtain ⟨w1, hw1⟩ : ∃ w1, w.alloc (.cells #[.int .i64 0] 30) = w1 := ⟨_, rfl⟩
  have hk1 : Kept (fun _ => False) w w1 := hw1 ▸ (Kept.refl _ _).alloc _
  have hr : w1.heap[w.heap.size]? = some (.cells #[.int .i64 0] 30 (0, 0)) := by rw [← hw1]; exact row_new _ _
  obtain ⟨t, ht⟩ : ∃ a : Addr, (⟨w.heap.size, 0, none⟩ : Addr) = a := ⟨_, rfl⟩
  have hc := row_cell hr 0
  have hf := row_free hr 0
  rw [ht] at hc hf
  have HH := hid (As_any (h.kept hk1 (fun _ _ => id)) (hG.kept hk1) t _ hc hf)
  have htb : t.block = w.heap.size := by rw [← ht]
  have HT := hid htb
  have HK := hid hk1
  clear h hG hc hf hr hk1 htb
  go_enter Tryd.func9, Tryd.ntmps9
  go_wp2_with fail
  refine HH.out.mono ?_; rintro e w' ⟨rfl, hc, hk⟩
  have HKK := hid hk
  clear hk
  go_wp2_with fail
  go_ret
  refine ⟨rfl, ?_⟩
  have h2 := HK.out.trans' HKK.out (fun i hi => .inr (by have := HT.out; rw [hi, this]; exact Nat.le_refl _))
  exact h2
set_option maxRecDepth 100000 in
theorem code_nil (w : World) : Calls Tryd.prog 9 #[.nilIface] w fun e w' => e = .returned (.int .i64 0) ∧ w = w' := by
  go_enter Tryd.func9, Tryd.ntmps9
  go_wp2_with fail
  go_ret
  exact ⟨rfl, rfl⟩
end Go.Proofs.YtlkhbepmkembgaaDoor
