/- Faults: first; chains. -/
import Derived.Test.YtlkhbepmkembgaaDoorL
import Derived.Test.YtlkhbepmkembgaaDoorOwn
import Derived.Test.YtlkhbepmkembgaaDoorMap
namespace Go.Proofs.YtlkhbepmkembgaaDoor
open Go.RowKit Go.Extern.Stop Go.Stop Go.Extern
set_option maxRecDepth 100000 in
theorem first_chain (p : Value) (w : World) : Calls Tryd.prog 32 #[.iface 56 p] w fun e w' => e = .returned .nilIface ∧ w = w' := by
  have s1 := a_usC
  go_enter Tryd.func32, Tryd.ntmps32
  go_wp2_with fail
  go_ret
  exact ⟨rfl, rfl⟩
set_option maxRecDepth 100000 in
theorem first_root (r : Int) (w : World) : Calls Tryd.prog 32 #[rootV r] w fun e w' => e = .returned .nilIface ∧ w = w' := by
  have s1 := a_usR
  unfold rootV
  go_enter Tryd.func32, Tryd.ntmps32
  go_wp2_with fail
  go_ret
  exact ⟨rfl, rfl⟩
set_option maxRecDepth 100000 in
theorem first_join {W w : World} {b : Value} {js : JL} {l0 : List FL} {r : Int} (hJ : JoinAt W b js) (h0 : js[0]? = some (l0, r)) (k : Kept (fun _ => False) W w) :
    Calls Tryd.prog 32 #[b] w fun e w' => (∃ t p, e = .returned (.iface t p) ∧ LinksAt W (rootV r) l0 (.iface t p)) ∧ w = w' := by
  obtain ⟨jb, sb, cap, rfl, h2, h3, h4⟩ := hJ
  obtain ⟨hne, u, hu, hlu⟩ := h4 0 _ h0
  obtain ⟨te, pe, rfl⟩ : ∃ t p, u = .iface t p := hlu.iface rfl
  have hn0 : (0 : Int) < (js.length : Int) := by have := (List.getElem?_eq_some_iff.1 h0).1; omega
  have HU := hid hlu
  have h2 := (k.block jb (row_lt h2) id).trans h2
  have hu := k.cell hu id
  clear h4 hlu hne h0 h3 k
  obtain ⟨n, hn⟩ : ∃ n, js.length = n := ⟨_, rfl⟩
  rw [hn] at h2 hn0
  clear hn
  have s1 := a_usJ; have m3 := m_unJ
  go_enter Tryd.func32, Tryd.ntmps32
  go_wp2_with fail
  refine (unwrap_join jb _ _ h2).mono ?_; rintro x w' ⟨rfl, rfl⟩
  go_wp2_with fail
  go_ret
  exact ⟨⟨_, _, rfl, HU.out⟩, rfl⟩
/-- an error that is taken apart in n steps -/
def ErrN (w : World) (v : Value) (ls : List FL) (r : Int) (n : Nat) : Prop :=
  ∃ (b : Value) (l1 l0 : List FL) (j : Nat), ((b = rootV r ∧ l0 = [] ∧ j = 0) ∨ ∃ js : JL, JoinAt w b js ∧ js[0]? = some (l0, r) ∧ j = 1) ∧ LinksAt w b l1 v ∧ ls = l1 ++ l0 ∧ n = l1.length + l0.length + j
theorem ErrAt.steps {w : World} {v : Value} {ls : List FL} {r : Int} {has : Int → Bool} (h : ErrAt w v ls r has) : ∃ n, ErrN w v ls r n := by
  obtain ⟨b, l1, l0, h1 | ⟨js, h1, h2, _⟩, h3, h4⟩ := h
  · exact ⟨_, b, l1, l0, 0, .inl ⟨h1.1, h1.2.1, rfl⟩, h3, h4, rfl⟩
  · exact ⟨_, b, l1, l0, 1, .inr ⟨js, h1, h2, rfl⟩, h3, h4, rfl⟩
theorem least1 (S : Nat → Prop) : ∀ n, S n → ∃ m, S m ∧ ∀ k, S k → m ≤ k := by
  intro n
  induction n using Nat.strongRecOn with
  | _ n ih =>
    intro h
    by_cases hx : ∃ k, k < n ∧ S k
    · obtain ⟨k, hk, hs⟩ := hx
      exact ih k hk hs
    · exact ⟨n, h, fun k hk => Nat.le_of_not_lt (fun hlt => hx ⟨k, hlt, hk⟩)⟩
theorem least {α : Type} (S : α → Nat → Prop) : ∃ D : α → Nat, ∀ v n, S v n → S v (D v) ∧ D v ≤ n := by
  classical
  refine ⟨fun v => if h : ∃ m, S v m ∧ ∀ k, S v k → m ≤ k then h.choose else 0, fun v n h => ?_⟩
  have hx : ∃ m, S v m ∧ ∀ k, S v k → m ≤ k := least1 (S v) n h
  simp only [hx, dif_pos]
  exact ⟨hx.choose_spec.1, hx.choose_spec.2 n h⟩
def ptrs (ps : List Nat) : List Value := ps.map (fun b => .pointer (some ⟨b, 0, none⟩))
def PtrsAt (w : World) (ls : List FL) (ps : List Nat) : Prop :=
  ps.length = ls.length ∧ ∀ (i : Nat) (l : FL), ls[i]? = some l → ∃ (b : Nat) (e : Value), ps[i]? = some b ∧ w.heap[b]? = some (.cells #[.int .i64 l.1, .int .u32 l.2, e] 59 (0, 0))
theorem PtrsAt.snoc {w : World} {ls : List FL} {ps : List Nat} (h : PtrsAt w ls ps) {l : FL} {b : Nat} {e : Value} (hb : w.heap[b]? = some (.cells #[.int .i64 l.1, .int .u32 l.2, e] 59 (0, 0))) : PtrsAt w (ls ++ [l]) (ps ++ [b]) := by
  obtain ⟨h1, h2⟩ := h
  refine ⟨by simp [h1], fun i x hx => ?_⟩
  by_cases hi : i < ls.length
  · rw [List.getElem?_append_left hi] at hx
    rw [List.getElem?_append_left (by omega)]
    exact h2 i x hx
  · rw [List.getElem?_append_right (by omega)] at hx
    have h0 : i - ls.length = 0 := by
      rcases Nat.eq_zero_or_pos (i - ls.length) with h | h
      · exact h
      · rw [List.getElem?_eq_none (by simp; omega)] at hx; cases hx
    rw [h0] at hx
    simp only [List.getElem?_cons_zero, Option.some.injEq] at hx
    subst hx
    exact ⟨b, e, by rw [List.getElem?_append_right (by omega), h1, h0]; rfl, hb⟩
def sliceLen : Value → Nat
  | .slice _ n _ => n
  | _ => 0
theorem chainInfo : (Tryd.prog.info? 56).map (fun i => (i.zero, i.size, i.bytes)) = some (some (.pointer none), 1, 8) := by kernel_rfl
set_option maxRecDepth 100000 in
theorem chains_nil (w : World) : Calls Tryd.prog 21 #[.nilIface] w fun e w' => e = .returned (.slice none 0 0) ∧ w = w' := by
  go_enter Tryd.func21, Tryd.ntmps21
  go_wp2_with fail
  refine wp_loop_rounds 1 ?_
  rw [rounds_succ]
  go_wp2_with fail
  go_ret
  exact ⟨rfl, rfl⟩
end Go.Proofs.YtlkhbepmkembgaaDoor
