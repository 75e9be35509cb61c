/- ref.Same of two lists that are alike; spans; count; Of. -/
import Derived.Test.YtglcpiokmieppaaK
import Derived.Test.YtglcpiokmieppaaO
import Derived.Laws.StructEq
import Derived.StillTailTactics
import Derived.BigQuiet
namespace Go.Proofs.Ytglcpiokmieppaa
open Go.RowKit

theorem infoR : (Try.prog.info? 31).map (fun i => (i.zero, i.size, i.bytes)) = some (some (.agg #[.int .u32 0, .int .u32 0]), 2, 8) := by kernel_rfl
set_option maxRecDepth 100000 in
set_option maxHeartbeats 1000000 in
theorem same_any {F G : Nat → Prop} {w : World} {va vb : Value} {l : List Sp} (ha : Lies F w 2 va l.length (scells l)) (hb : Lies G w 2 vb l.length (scells l)) :
    Calls Try.prog 15 #[va, vb] w fun e w' => e = .returned (.bool true) ∧ Kept (fun _ => False) w w' := by
  have HA := hid ha
  have HB := hid hb
  obtain ⟨a1, c1, rfl, m1, m2, _⟩ := ha
  obtain ⟨a2, c2, rfl, _⟩ := hb
  unfold maxLen at m2
  have hl9 : l.length ≤ 9223372036854775807 := by omega
  clear m1 m2
  have hn' : ((l.length : Int) != (l.length : Int)) = false := by simp
  go_enter Try.func15, Try.ntmps15
  go_wp2_with fail
  go_loopw [13] (fun i wr => ∃ k : Nat, k ≤ l.length ∧ i = .int .i64 k ∧ Kept (fun _ => False) w wr) (fun i _ => l.length - (intOf i).toNat)
  case atStart => exact ⟨0, Nat.zero_le _, rfl, Kept.refl _ _⟩
  case round =>
    obtain ⟨k, hk, rfl, hkp⟩ := hrel
    have HK := hid hkp; clear hkp
    by_cases hlt : k < l.length
    · obtain ⟨g1, o1, q1, e1, n1, _, _, _, z1⟩ := HA.out.cell (by omega)
      obtain ⟨g2, o2, q2, e2, n2, _, _, _, z2⟩ := HB.out.cell (by omega)
      simp only [Value.slice.injEq] at e1 e2
      obtain ⟨rfl, _, rfl⟩ := e1
      obtain ⟨rfl, _, rfl⟩ := e2
      obtain ⟨x0, x1⟩ := scells_at l k l[k] (by simp [hlt])
      have y0 := HK.out.cell (z1 _ _ x0) id
      have y1 := HK.out.cell (z1 _ _ x1) id
      have u0 := HK.out.cell (z2 _ _ x0) id
      have u1 := HK.out.cell (z2 _ _ x1) id
      obtain ⟨⟨a, b⟩, hab⟩ : ∃ s, l[k] = s := ⟨_, rfl⟩
      rw [hab] at y0 y1 u0 u1
      simp only [← Nat.add_assoc] at y0 y1 u0 u1
      clear x0 x1 z1 z2 n1 n2 hab
      go_wp2_with fail
      refine wp_region_still_lit (by kernel_rfl) (by kernel_rfl) ?_
      simp only [World.drew_eq]
      iterate 9 still_step
      refine wpStill_nil ?_
      go_wp2
      go_roundw
      case rel => exact ⟨k + 1, by omega, by simp, HK.out.drew⟩
      case measure => simp [intOf]; omega
    · obtain rfl : k = l.length := by omega
      go_wp2
      go_ret
      exact ⟨rfl, HK.out⟩
def FreshR (n0 : Nat) (w : World) (v : Value) (L : List Sp) : Prop := ∃ ao c, v = .slice ao L.length c ∧ Own w 31 2 (.slice ao L.length c) L.length (scells L) ∧ ∀ g, (Value.slice ao L.length c).ownBlock = some g → n0 ≤ g
theorem FreshR.lies {n0 : Nat} {w : World} {v : Value} {L : List Sp} (h : FreshR n0 w v L) : Lies (fun g => g < n0) w 2 v L.length (scells L) := by
  obtain ⟨ao, c, rfl, h1, h2⟩ := h
  exact h1.lies (scells_one _) (fun g hg hl => by have := h2 g hg; omega)
theorem Fresh.lies {n0 : Nat} {w : World} {v : Value} {L : List Sp} (h : Fresh n0 w v L) : Lies (fun g => g < n0) w 2 v L.length (scells L) := by
  obtain ⟨ao, c, rfl, h1, h2⟩ := h
  exact h1.lies (scells_one _) (fun g hg hl => by have := h2 g hg; omega)
set_option maxRecDepth 100000 in
set_option maxHeartbeats 1000000 in
theorem conv_any {F : Nat → Prop} {w : World} {v : Value} {L : List Sp} (h : Lies F w 2 v L.length (scells L)) (hL : L.length ≤ 4294967296) :
    Calls Try.prog 16 #[v] w fun e w' => ∃ v', e = .returned v' ∧ FreshR w.heap.size w' v' L ∧ Kept (fun _ => False) w w' := by
  have HA := hid h
  obtain ⟨a1, c1, rfl, m1, m2, _⟩ := h
  unfold maxLen at m2
  go_enter Try.func16, Try.ntmps16
  go_wp2_with fail
  go_loopw [3, 8] (fun o i wr => ∃ k : Nat, k ≤ L.length ∧ i = .int .i64 k ∧ Kept (fun _ => False) w wr ∧ FreshR w.heap.size wr o (L.take k)) (fun _ i _ => L.length - (intOf i).toNat)
  case atStart => exact ⟨0, Nat.zero_le _, rfl, Kept.refl _ _, ⟨none, 0, by simp, by simpa [scells] using Own.nil _ _ _, by simp [Value.ownBlock]⟩⟩
  case round =>
    obtain ⟨k, hk, rfl, hkp, ao, co, rfl, ho, hf⟩ := hrel
    have HK := hid hkp; have HO := hid ho; have HF := hid hf; clear hkp ho hf
    by_cases hlt : k < L.length
    · obtain ⟨g1, o1, q1, e1, n1, _, _, _, z1⟩ := HA.out.cell (by omega)
      simp only [Value.slice.injEq] at e1
      obtain ⟨rfl, _, rfl⟩ := e1
      obtain ⟨x0, x1⟩ := scells_at L k L[k] (by simp [hlt])
      have y0 := HK.out.cell (z1 _ _ x0) id
      have y1 := HK.out.cell (z1 _ _ x1) id
      have htk : L.take (k + 1) = L.take k ++ [L[k]] := List.take_succ_eq_append_getElem hlt
      obtain ⟨⟨a, b⟩, hab⟩ : ∃ s, L[k] = s := ⟨_, rfl⟩
      rw [hab] at y0 y1 htk
      simp only [← Nat.add_assoc] at y0 y1
      have HTK := hid htk
      have hlk : (L.take k).length ≤ k := by simp; omega
      clear x0 x1 z1 n1 hab htk
      go_wp2_with (at_builtin; refine wpList_app (o := ⟨some 15, _, _, _, _, _⟩) rfl (.tmp 12) (.tmp 14) 39 rfl 31 (.agg #[.int .u32 0, .int .u32 0]) 2 8 Try.underlying39 infoR rfl (by decide) (.slice ao (L.take k).length co) (L.take k).length (scells (L.take k)) (by simp [Act.eval, Act.put]) (by exact (HO.out.alloc _).alloc _) (.slice (some ⟨wr.heap.size + 1, 0, none⟩) 1 1) (by simp [Act.eval, Act.put]) 1 [.int .u32 a, .int .u32 b] (by exact src_two' _ _ rfl rfl (by simp)) (by unfold maxLen; omega) (by omega) ?_; intro a8 c8 w8 ho8 hk8 hf8 _; have HO8 := hid ho8; have HK8 := hid hk8; have HF8 := hid hf8; clear ho8 hk8 hf8)
      have hl : (L.take k).length + 1 = (L.take (k + 1)).length := by rw [HTK.out]; simp
      have ho := HO8.out
      have hf := HF8.out
      rw [show scells (L.take k) ++ [.int .u32 a, .int .u32 b] = scells (L.take (k + 1)) by rw [HTK.out, scells_app]; rfl] at ho
      rw [hl] at ho hf
      have hk1 : (L.take (k + 1)).length = k + 1 := by simp; omega
      go_roundw
      case rel => exact ⟨k + 1, hlt, by go_num, ((HK.out.alloc _).alloc _).trans' HK8.out (fun i hi => .inr (HF.out i hi)), a8, c8, by rw [hk1], ho, fun g hg => by
        rcases hf g hg with h1 | h1
        · exact HF.out g h1
        · have := HK.out.size; (try simp at h1); omega⟩
      case measure => simp [intOf]; omega
    · obtain rfl : k = L.length := by omega
      go_wp2
      go_ret
      refine ⟨_, rfl, ?_, HK.out⟩
      have ht : L.take L.length = L := List.take_length
      have := HO.out; have hf := HF.out
      rw [ht] at this hf ⊢
      exact ⟨ao, co, rfl, this, hf⟩
end Go.Proofs.Ytglcpiokmieppaa
