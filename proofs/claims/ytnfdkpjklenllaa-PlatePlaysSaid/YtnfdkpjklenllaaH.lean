/- pages: all pages of a plate, as a list of slices. -/
import Derived.Test.YtnfdkpjklenllaaG
namespace Go.Proofs.Ytnfdkpjklenllaa
open Go.RowKit

/-- a slice of n pages, f's, in blocks of B -/
def Pgs (B : Nat → Prop) (w : World) (v : Value) (f : Int → List Int) (n : Nat) : Prop :=
  ∃ ps, Own w 23 1 v n ps ∧ (∀ g, v.ownBlock = some g → B g) ∧ ∀ k : Nat, k < n → ∃ nb, ps[k]? = some (.slice (some ⟨nb, 0, none⟩) 64 64) ∧ B nb ∧ w.heap[nb]? = some (.cells (u8s (f k)).toArray 69 (0, 0))
theorem Pgs.kept {B : Nat → Prop} {G : Nat → Prop} {w w' : World} {v : Value} {f : Int → List Int} {n : Nat} (h : Pgs B w v f n) (k : Kept G w w') (hg : ∀ g, B g → g < w.heap.size → ¬ G g) : Pgs B w' v f n := by
  obtain ⟨ps, h1, h2, h3⟩ := h
  refine ⟨ps, h1.kept k (fun g hg' => hg g (h2 g hg') (h1.lt hg')), h2, fun j hj => ?_⟩
  obtain ⟨nb, q1, q2, q3⟩ := h3 j hj
  exact ⟨nb, q1, q2, (k.block _ (row_lt q3) (hg nb q2 (row_lt q3))).trans q3⟩
theorem Pgs.same {B : Nat → Prop} {w w' : World} {v : Value} {f : Int → List Int} {n : Nat} (h : Pgs B w v f n) (k : Kept (fun _ => False) w w') : Pgs B w' v f n := h.kept k (fun _ _ _ h => h)
theorem pgByt {w : World} {nb : Nat} {l : List Int} (h : w.heap[nb]? = some (.cells (u8s l).toArray 69 (0, 0))) (hl : l.length = 64) (o : Nat) (m c : Nat) (hm : o + m ≤ 64) (hc : m ≤ c) (hcm : c ≤ 64) : Byt w (.slice (some ⟨nb, o, none⟩) m c) ((l.drop o).take m) := by
  have hlen : ((l.drop o).take m).length = m := by simp; omega
  refine ⟨some ⟨nb, o, none⟩, c, by rw [hlen], ⟨by omega, by unfold maxLen; omega⟩, (fun h => nomatch h), fun j x hj => ⟨nb, o, rfl, ?_⟩⟩
  rw [row_cell h]
  rw [List.getElem?_take] at hj
  split at hj
  · rw [List.getElem?_drop] at hj
    simp [u8s, hj]
  · cases hj
/-- the k-th page of such a slice -/
theorem Pgs.at {B : Nat → Prop} {w : World} {v : Value} {f : Int → List Int} {n : Nat} (h : Pgs B w v f n) (hf : ∀ k, (f k).length = 64) (k : Nat) (hk : k < n) : ∃ g c nb, v = .slice (some ⟨g, 0, none⟩) n c ∧ n ≤ c ∧ c ≤ maxLen ∧ w.cell? ⟨g, k, none⟩ = some (.slice (some ⟨nb, 0, none⟩) 64 64) ∧ w.heap[nb]? = some (.cells (u8s (f k)).toArray 69 (0, 0)) ∧ Byt w (.slice (some ⟨nb, 0, none⟩) 64 64) (f k) := by
  obtain ⟨ps, h1, h2, h3⟩ := h
  obtain ⟨g, c, rfl, hc, hm⟩ := h1.some_of_pos (by omega)
  obtain ⟨nb, q1, q2, q3⟩ := h3 k hk
  obtain ⟨hl, e⟩ := List.getElem?_eq_some_iff.1 q1
  refine ⟨g, c, nb, rfl, hc, hm, by rw [h1.cells rfl k hl, e], q3, ?_⟩
  have := pgByt q3 (hf k) 0 64 64 (by omega) (by omega) (by omega)
  rw [List.drop_zero, List.take_of_length_le (by rw [hf k]; omega)] at this
  exact this

theorem Pgs.bound {B : Nat → Prop} {w : World} {v : Value} {f : Int → List Int} {n : Nat} (h : Pgs B w v f n) : Pgs (fun g => B g ∧ g < w.heap.size) w v f n := by
  obtain ⟨ps, h1, h2, h3⟩ := h
  refine ⟨ps, h1, fun g hg => ⟨h2 g hg, h1.lt hg⟩, fun j hj => ?_⟩
  obtain ⟨nb, q1, q2, q3⟩ := h3 j hj
  exact ⟨nb, q1, ⟨q2, row_lt q3⟩, q3⟩
set_option maxRecDepth 100000 in
set_option maxHeartbeats 2000000 in
theorem pages_ok {F : Nat → Prop} {w : World} {b mb cap : Nat} {ao : Option Addr} {S : Plt} (h : PlIn F w b mb ao cap S) (hoff : S.off = false) (hn : S.since.length ≤ 10000) (N : Nat) (hN : S.n = N) (hN8 : N ≤ 1000) :
    Calls Try.prog 16 #[.pointer (some ⟨b, 0, none⟩)] w fun e w' => ∃ a c, e = .returned (.tuple #[.slice a N c, .bool true]) ∧ Pgs (fun g => w.heap.size ≤ g ∧ g < w'.heap.size) w' (.slice a N c) S.page N ∧ Kept (fun _ => False) w w' := by
  have H := hid h; clear h
  have HO := hid hoff; clear hoff
  have HN := hid hn; clear hn
  have HNN := hid hN; clear hN
  go_enter Try.func16, Try.ntmps16
  go_wp2_with fail
  refine (len_any ⟨_, _, _, H.out⟩).mono ?_
  rintro e w1 ⟨rfl, rfl⟩
  rw [HNN.out]
  go_wp2_with fail
  go_loopw [4, 10] (fun o i wr => ∃ (k : Nat) (a : Option Addr) (c : Nat), k ≤ N ∧ i = .int .i64 k ∧ o = .slice a k c ∧ Pgs (fun g => w1.heap.size ≤ g) wr o S.page k ∧ Kept (fun _ => False) w1 wr) (fun _ i _ => N - (intOf i).toNat)
  case atStart => exact ⟨0, none, 0, Nat.zero_le _, rfl, rfl, ⟨[], Own.nil _ _ _, by simp [Value.ownBlock], fun k hk => by omega⟩, Kept.refl _ _⟩
  case round =>
    obtain ⟨k, a, c, hk, rfl, rfl, hp, hkp⟩ := hrel
    have HP := hid hp; have HK := hid hkp; clear hp hkp
    by_cases hlt : k < N
    · go_wp2_with fail
      refine (read_ok (H.out.kept HK.out (fun _ _ _ h => h)) HO.out HN.out k (by omega) (by rw [HNN.out]; omega)).mono ?_
      rintro e w2 ⟨nb, rfl, hb, hle, hk2⟩
      have HB := hid hb; have HLE := hid hle; have HK2 := hid hk2; clear hb hle hk2
      have HP2 := hid (HP.out.same HK2.out)
      have HS := HK.out.size
      obtain ⟨ps, hps⟩ : ∃ ps, Own w2 23 1 (.slice a k c) k ps ∧ (∀ g, (Value.slice a k c).ownBlock = some g → w1.heap.size ≤ g) ∧ ∀ j : Nat, j < k → ∃ nb, ps[j]? = some (.slice (some ⟨nb, 0, none⟩) 64 64) ∧ w1.heap.size ≤ nb ∧ w2.heap[nb]? = some (.cells (u8s (S.page j)).toArray 69 (0, 0)) := HP2.out
      have HPS := hid hps; clear hps
      go_wp2_with (at_builtin; refine wpList_app rfl (.tmp 21) (.tmp 23) 40 rfl 23 (.slice none 0 0) 1 24 Try.underlying40 infoBytes rfl (by decide) (.slice a k c) k ps rfl (by exact HPS.out.1.alloc _) _ rfl 1 [.slice (some ⟨nb, 0, none⟩) 64 64] (by exact src_one _ rfl) (by simp only [maxLen]; omega) (by omega) ?_)
      intro a' c' w3 ho hk3 hf _
      have HO3 := hid ho; have HK3 := hid hk3; have HF3 := hid hf; clear ho hk3 hf
      have hk23 : Kept (fun g => (Value.slice a k c).ownBlock = some g) w2 w3 := ((Kept.refl _ _).alloc _).trans HK3.out
      go_wp2
      go_roundw
      case rel =>
        have hpl : ps.length = k := by have := HPS.out.1.len; omega
        refine ⟨k + 1, a', c', by omega, by go_num, rfl, ⟨ps ++ [.slice (some ⟨nb, 0, none⟩) 64 64], HO3.out, fun g hg => ?_, fun j hj => ?_⟩, ?_⟩
        · rcases HF3.out g hg with h' | h'
          · exact HPS.out.2.1 g h'
          · have := HK2.out.size; (try simp at h'); omega
        · by_cases hjk : j < k
          · obtain ⟨nb', q1, q2, q3⟩ := HPS.out.2.2 j hjk
            refine ⟨nb', ?_, q2, (hk23.block _ (row_lt q3) (fun hb => ?_)).trans q3⟩
            · rw [List.getElem?_append_left (by omega)]; exact q1
            · exact HPS.out.1.ne_block q3 (by decide) hb
          · obtain rfl : j = k := by omega
            refine ⟨nb, by rw [List.getElem?_append_right (by omega)]; simp [hpl], by have := HLE.out; omega, (hk23.block _ (row_lt HB.out) (fun hb => HPS.out.1.ne_block HB.out (by decide) hb)).trans HB.out⟩
        · exact (HK.out.trans HK2.out).trans' hk23 (fun g hg => .inr (HPS.out.2.1 g hg))
      case measure => simp [intOf]; omega
    · obtain rfl : k = N := by omega
      go_wp2
      go_returns
      exact ⟨_, _, rfl, HP.out.bound, HK.out⟩
end Go.Proofs.Ytnfdkpjklenllaa
