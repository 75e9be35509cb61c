/- Faults: errors.Is at joined errors, and at all. -/
import Derived.Test.YtlkhbepmkembgaaDoorF
namespace Go.Proofs.YtlkhbepmkembgaaDoor
open Go.RowKit Go.Extern.Stop Go.Stop Go.Extern
abbrev JL := List (List FL × Int)
/-- joined errors: chains with a link or more, each about a root -/
def JoinAt (w : World) (b : Value) (ms : JL) : Prop :=
  ∃ (jb sb cap : Nat), b = .iface 83 (.pointer (some ⟨jb, 0, none⟩)) ∧ w.heap[jb]? = some (.cells #[.slice (some ⟨sb, 0, none⟩) ms.length cap] 85 (0, 0)) ∧ ms.length ≤ 9223372036854775807 ∧
    ∀ (i : Nat) (m : List FL × Int), ms[i]? = some m → m.1 ≠ [] ∧ ∃ v, w.cell? ⟨sb, i, none⟩ = some v ∧ LinksAt w (rootV m.2) m.1 v
theorem JoinAt.noLink {w : World} {b : Value} {ms : JL} (h : JoinAt w b ms) : NoLink b := by
  obtain ⟨jb, sb, cap, rfl, _⟩ := h
  intro p hp
  simp at hp
theorem JoinAt.kept {w w' : World} {b : Value} {ms : JL} {F : Nat → Prop} (h : JoinAt w b ms) (k : Kept F w w') (hF : ∀ i, i < w.heap.size → ¬ F i) : JoinAt w' b ms := by
  obtain ⟨jb, sb, cap, h1, h2, h3, h4⟩ := h
  refine ⟨jb, sb, cap, h1, by rw [k.block jb (row_lt h2) (hF _ (row_lt h2))]; exact h2, h3, fun i m hi => ?_⟩
  obtain ⟨h5, v, h6, h7⟩ := h4 i m hi
  have hlt : sb < w.heap.size := by
    rcases Nat.lt_or_ge sb w.heap.size with h | h
    · exact h
    · simp [World.cell?, Array.getElem?_eq_none h] at h6
  exact ⟨h5, v, k.cell h6 (hF _ hlt), h7.kept k hF⟩
theorem LinksAt.iface {w : World} {b : Value} {t : TypeId} {p : Value} (hb : b = .iface t p) {ls : List FL} {v : Value} (h : LinksAt w b ls v) : ∃ t p, v = .iface t p := by
  cases ls with
  | nil => exact ⟨t, p, h.trans hb⟩
  | cons l ls => obtain ⟨blk, e, h1, _⟩ := h; exact ⟨_, _, h1⟩
theorem unwrap_join (jb : Nat) (x : Value) (w : World) (h : w.heap[jb]? = some (.cells #[x] 85 (0, 0))) :
    Calls Tryd.prog 75 #[.pointer (some ⟨jb, 0, none⟩)] w fun r w' => r = .returned x ∧ w = w' := by
  have c2 := row_cell h 0
  simp at c2
  go_enter Tryd.func75, Tryd.ntmps75
  go_wp2_with fail
  go_ret
  exact ⟨rfl, rfl⟩
theorem any_step {ms : JL} {c : Int} {k : Nat} (hk : k < ms.length) (hp : (ms.take k).any (fun m => m.2 == c) = false) (h : (ms[k].2 == c) = false) : (ms.take (k + 1)).any (fun m => m.2 == c) = false := by
  rw [List.take_succ_eq_append_getElem hk, List.any_append, hp, Bool.false_or]
  simpa using h
theorem any_hit {ms : JL} {c : Int} {k : Nat} (hk : k < ms.length) (h : (ms[k].2 == c) = true) : ms.any (fun m => m.2 == c) = true :=
  List.any_eq_true.2 ⟨ms[k], List.getElem_mem hk, h⟩
set_option maxHeartbeats 2000000 in
set_option maxRecDepth 100000 in
theorem is_join (c : Int) (js : JL) (ls : List FL) (b v : Value) (w : World) (hJ : JoinAt w b js) (h : LinksAt w b ls v) :
    Calls Tryd.prog 31 #[v, rootV c, .bool true] w fun e w' => e = .returned (.bool (js.any (fun m => m.2 == c))) ∧ w = w' := by
  obtain ⟨D, hD⟩ := LinksAt.depth w hJ.noLink
  have HD := hid hD
  have HL := hid h
  have HJ := hid hJ
  clear hD h hJ
  have HR := hid (fun r ls v w => is_root c r ls v w)
  unfold rootV at *
  have q1 := c_eqlJ; have q2 := c_eqlC
  have s1 := a_isJ; have s2 := a_unJ; have s3 := a_usJ
  have s4 := a_isC; have s5 := a_unC
  have m1 := m_unC; have m2 := m_unJ
  go_enter Tryd.func31, Tryd.ntmps31
  go_wp2_with fail
  go_loopw [0] (fun v wr => w = wr ∧ ∃ ms : List FL, LinksAt w b ms v) (fun v _ => D v)
  case atStart => exact ⟨rfl, ls, HL.out⟩
  case round =>
    obtain ⟨rfl, ms, hm⟩ := hrel
    cases ms with
    | nil =>
      have e := hm
      simp only [LinksAt] at e
      subst e
      obtain ⟨jb, sb, cap, rfl, h2, h3, h4⟩ := HJ.out
      have H4 := hid h4
      clear hm h4
      obtain ⟨n, hn⟩ : ∃ n, js.length = n := ⟨_, rfl⟩
      rw [hn] at h2 h3
      have HN := hid hn
      clear hn
      go_wp2_with fail
      refine (unwrap_join jb _ _ h2).mono ?_; rintro x w' ⟨rfl, rfl⟩
      go_wp2_with fail
      go_loopw [45] (fun i wr => w = wr ∧ ∃ k : Nat, k ≤ n ∧ i = .int .i64 k ∧ (js.take k).any (fun m => m.2 == c) = false) (fun i _ => n - (intOf i).toNat)
      case atStart => exact ⟨rfl, 0, Nat.zero_le _, rfl, by simp⟩
      case round =>
        obtain ⟨rfl, k, hk, rfl, hp⟩ := hrel
        have HP := hid hp
        clear hp
        by_cases hkn : k < n
        · have hkj : k < js.length := by have := HN.out; omega
          obtain ⟨_, u, hu, hlu⟩ := H4.out k js[k] (by simp [hkj])
          have HU := hid hlu
          clear hlu
          obtain ⟨x, hx⟩ : ∃ x, (js[k].2 == c) = x := ⟨_, rfl⟩
          have HX := hid hx
          clear hx
          go_wp2_with fail
          refine (HR.out js[k].2 js[k].1 u _ HU.out).mono ?_; rintro e w' ⟨rfl, rfl⟩
          rw [HX.out]
          cases x with
          | true =>
            have HA := hid (any_hit hkj HX.out)
            go_wp2_with fail
            go_ret
            exact ⟨ret_bool HA.out.symm, rfl⟩
          | false =>
            have HA := hid (any_step hkj HP.out HX.out)
            go_wp2_with fail
            go_roundw
            case rel => exact ⟨trivial, k + 1, by omega, by simp, HA.out⟩
            case measure => simp [intOf]; omega
        · obtain rfl : k = n := by omega
          have HA := hid (show js.any (fun m => m.2 == c) = false by have := HP.out; rwa [← HN.out, List.take_length] at this)
          go_wp2_with fail
          go_ret
          exact ⟨ret_bool HA.out.symm, rfl⟩
    | cons l ms =>
      obtain ⟨blk, e, rfl, h2, h3⟩ := hm
      have HE := hid h3
      have HM := hid (show ∃ x : List FL, x = ms from ⟨_, rfl⟩)
      obtain ⟨te, pe, rfl⟩ : ∃ t p, e = .iface t p := by
        obtain ⟨jb, sb, cap, hb, _⟩ := HJ.out
        exact h3.iface hb
      clear h3
      go_wp2_with fail
      refine (unwrap_chain blk l _ _ h2).mono ?_; rintro x w' ⟨rfl, rfl⟩
      go_wp2_with fail
      go_roundw
      case rel => exact ⟨trivial, ms, HE.out⟩
      case measure =>
        rw [HD.out (l :: ms) _ ⟨_, _, rfl, h2, HE.out⟩, HD.out ms _ HE.out]; simp
end Go.Proofs.YtlkhbepmkembgaaDoor
