/- append to a slice of no room, whatever its base: what slices.Clone does. -/
import Derived.Test.YtpjhdpfaogdboaaOwn
namespace Go.Proofs.Ytpjhdpfaogdboaa
set_option linter.unusedSimpArgs false
set_option linter.unusedVariables false
open Go.RowKit

theorem run_app_bare {P : Program} (w : World) (t ty e : TypeId) (i : TypeInfo) (z : Value) (size bytes : Nat) (ht : P.underlying t = some (.slice e)) (hi : P.info? e = some i) (hz : i.zero = some z)
    (hsize : i.size = size) (hby : i.bytes = bytes) (hzs : z.cells.size = size) (hsz : 0 < size)
    (ob : Option Addr) (x : Value) (m : Nat) (news : List Value) (hx : Src w size x m news)
    (h63 : m ≤ maxLen) (hbytes : m * bytes ≤ 140737488355328) :
    ∃ a' c' w', (Builtin.append_ #[t, t] ty #[.slice ob 0 0, x]).run P w = .ok (.slice a' m c') w' ∧ Kept (fun _ => False) w w' ∧ (m = 0 → a' = ob ∧ c' = 0) ∧
      (0 < m → Own w' e size (.slice a' m c') m news ∧ ∀ g, (Value.slice a' m c').ownBlock = some g → w.heap.size ≤ g) := by
  by_cases hm : m = 0
  · subst hm
    obtain ⟨ao, c, rfl, hl, hn0, hnews, h1⟩ := hx
    refine ⟨ob, 0, w, ?_, Kept.refl _ _, fun _ => ⟨rfl, rfl⟩, fun h => absurd h (by decide)⟩
    cases ao <;> cases ob <;> simp [Builtin.append_, run_underlying ht, sizeOf, typeInfo, zeroValue, hi, hz, Builtin.lenOf, Builtin.firstCells, loadCells, loadCellsFrom, storeCells]
  · cases ob with
    | none =>
      obtain ⟨v', w', hr, h1, h2, h3, h4⟩ := run_append_grows (P := P) w t ty e i z size bytes ht hi hz hsize hby hzs hsz (.slice none 0 0) 0 [] (World.ownsRow_nil _ _ _ _) x m news hx (by omega) (by rw [Nat.zero_add]; exact hbytes)
      obtain ⟨a', c', rfl⟩ := h1.isSlice
      rw [Nat.zero_add] at *
      refine ⟨a', c', w', hr, h2.mono (fun _ _ h => by simp [Value.ownBlock] at h), fun h => absurd h hm, fun _ => ⟨by simpa using h1, fun g hg => ?_⟩⟩
      rcases h3 g hg with h | h
      · simp [Value.ownBlock] at h
      · exact h
    | some b =>
      obtain ⟨v', w', hr, h1, h2, h3, h4⟩ := run_append_grows (P := P) w t ty e i z size bytes ht hi hz hsize hby hzs hsz (.slice none 0 0) 0 [] (World.ownsRow_nil _ _ _ _) x m news hx (by omega) (by rw [Nat.zero_add]; exact hbytes)
      obtain ⟨a', c', rfl⟩ := h1.isSlice
      have hx2 := hx
      obtain ⟨ao, c, rfl, hl, hn0, hnews, ho⟩ := hx2
      cases ao with
      | none => exact absurd (hn0 rfl).1 hm
      | some a =>
        subst hsize
        subst hby
        simp only [maxLen] at h63
        have e1 := run_append_nil (P := P) (w := w) t ty e i z ht hi hz a m c news hl (hnews a rfl) (by omega) (by omega) (by omega)
        have e2 := run_append_grow (P := P) (w := w) t ty e i z ht hi hz b 0 0 [] (by simp) (by simp) a m c news hl (hnews a rfl) (by omega) (by omega) (by rw [Nat.zero_add, nextslicecap_zero (by omega)]; omega)
        have e3 := e1.symm.trans hr
        simp only [Result.ok.injEq] at e3
        obtain ⟨e4, e5⟩ := e3
        rw [show ([] : List Value).toArray ++ news.toArray = news.toArray from by simp, Nat.zero_add] at e2
        rw [Nat.zero_add] at e4
        refine ⟨a', c', w', ?_, h2.mono (fun _ _ h => by simp [Value.ownBlock] at h), fun h => absurd h hm, fun _ => ⟨by simpa using h1, fun g hg => ?_⟩⟩
        · rw [e2, e4, e5]
        · rcases h3 g (by simpa using hg) with h | h
          · simp [Value.ownBlock] at h
          · exact h
end Go.Proofs.Ytpjhdpfaogdboaa
