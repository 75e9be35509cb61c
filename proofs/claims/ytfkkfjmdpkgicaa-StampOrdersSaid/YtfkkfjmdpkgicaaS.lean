/- Prefixes of lists in memory; what stamps leaves. -/
import Derived.Test.YtfkkfjmdpkgicaaQ
namespace Go.Proofs.Ytfkkfjmdpkgicaa
open Go.RowKit Go.Shelf
theorem enc4_take (L : List Sp) (n : Nat) : (L.take n).flatMap encS = (L.flatMap encS).take (n * 4) := by
  induction L generalizing n with
  | nil => simp
  | cons x L ih =>
    cases n with
    | zero => simp
    | succ n =>
      rw [List.take_succ_cons, List.flatMap_cons, List.flatMap_cons, ih, show (n + 1) * 4 = (encS x).length + n * 4 from by simp [encS]; omega, List.take_length_add_append]
theorem enc_len4 : ∀ L : List Sp, (L.flatMap encS).length = L.length * 4
  | [] => by simp
  | x :: L => by rw [List.flatMap_cons, List.length_append, enc_len4 L, List.length_cons]; simp [encS]; omega
theorem Lies.pre {F : Nat → Prop} {w : World} {a : Option Addr} {N c : Nat} {L : List Sp} (h : Lies F w 4 (.slice a N c) N (L.flatMap encS)) (hL : L.length = N) {n : Nat} (hn : n ≤ N) : Lies F w 4 (.slice a n c) n ((L.take n).flatMap encS) := by
  obtain ⟨ao, c', e, h2, h3, h4, h5, h6, h7⟩ := h
  simp only [Value.slice.injEq] at e
  obtain ⟨rfl, _, rfl⟩ := e
  refine ⟨a, c, rfl, Nat.le_trans hn h2, h3, ?_, fun ha => ?_, fun hm => ?_, fun u hu => ?_⟩
  · rw [enc4_take, List.length_take, h4]; omega
  · have := h5 ha; omega
  · obtain ⟨g, o, e, hF, hg, hc⟩ := h6 (by omega)
    refine ⟨g, o, e, hF, hg, fun j u hu => hc j u ?_⟩
    rw [enc4_take, List.getElem?_take] at hu
    split at hu
    · exact hu
    · cases hu
  · rw [enc4_take] at hu
    exact h7 u (List.mem_of_mem_take hu)
/-- stamps, as a list that is read -/
theorem stamps_lies {F : Nat → Prop} {w : World} {a : Option Addr} {N c : Nat} {L : List Sp} (h : Lies F w 4 (.slice a N c) N (L.flatMap encS)) (hLN : L.length = N) (hN : N ≤ 1000000) :
    Calls Try.prog 16 #[.slice a N c] w fun e w' => ∃ (a' : Option Addr) (c' : Nat), e = .returned (.slice a' N c') ∧ Lies (fun _ => False) w' 4 (.slice a' N c') N (L.flatMap encS) ∧ Kept (fun _ => False) w w' :=
  (stamps_any h hLN hN).mono fun e w' ⟨a', c', he, _, ho, _, hk⟩ => by
    refine ⟨a', c', he, ?_, hk⟩
    have e1 : L.flatMap encS ++ encS (77, 0, 0, 0) = (L ++ [(77, 0, 0, 0)]).flatMap encS := by simp
    have h1 := ho.lies (F := fun _ => False) (by rw [e1]; exact encS_one _) (fun _ _ => id)
    rw [e1] at h1
    have h2 := h1.pre (L := L ++ [(77, 0, 0, 0)]) (by simp [hLN]) (Nat.le_succ N)
    rwa [List.take_append_of_le_length (by omega), List.take_of_length_le (by omega)] at h2
/-- a sorted slice, as a list that is read -/
theorem SlS.lies {B : Nat} {w : World} {a : Option Addr} {N c : Nat} {D : List Sp} (h : SlS B w a N c D) : Lies (fun _ => False) w 4 (.slice a N c) N (D.flatMap encS) := by
  obtain ⟨h1, h2, h3, h4⟩ := h
  refine ⟨a, c, rfl, h2, h3, ?_, fun ha => ?_, fun hm => ?_, encS_one D⟩
  · rw [enc_len4, h1]
  · rcases h4 with ⟨h, _, h'⟩ | ⟨g, e, _⟩
    · exact ⟨h, h'⟩
    · rw [e] at ha; cases ha
  · rcases h4 with ⟨h, _⟩ | ⟨g, e, _, hg, hH⟩
    · omega
    · refine ⟨g, 0, e, id, hg, fun j u hu => ?_⟩
      have hj : j < D.length * 4 := by
        have h := (List.getElem?_eq_some_iff.1 hu).1
        have hl : (D.flatMap encS).length = D.length * 4 := enc_len4 D
        omega
      rw [flat_get hj] at hu
      have h := (hH j (by simpa using hj)).1
      rw [Go.Sort.get_flatK _ _ _ _ (by simpa using hj)] at h
      rw [h]; exact hu
end Go.Proofs.Ytfkkfjmdpkgicaa
