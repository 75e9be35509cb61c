/- The plate's Written. -/
import Derived.Test.YtnfdkpjklenllaaDj
namespace Go.Proofs.Ytnfdkpjklenllaa
open Go.RowKit
theorem nodup_le : ∀ {l Z : List Int}, l.Nodup → (∀ x ∈ l, x ∈ Z) → l.length ≤ Z.length
  | [], _, _, _ => Nat.zero_le _
  | x :: l, Z, hn, hs => by
    rw [List.nodup_cons] at hn
    have hx := hs x (by simp)
    have h1 := nodup_le (l := l) (Z := Z.erase x) hn.2 (fun y hy => (List.mem_erase_of_ne (fun e => by subst e; exact hn.1 hy)).2 (hs y (by simp [hy])))
    rw [List.length_erase_of_mem hx] at h1
    have : 0 < Z.length := List.length_pos_of_mem hx
    simp; omega
def Tl (L : List (Int × Value)) (f : Int → List Int) : Prop := ∀ k, look L k = some (pv (f k)) ∨ (look L k = none ∧ f k = zpg)
theorem Tells.tl {L : List (Int × Value)} {f : Int → List Int} (h : Tells L f) : Tl L f := fun k => (h k).imp And.left id
theorem Tl.lay {L : List (Int × Value)} {f : Int → List Int} (h : Tl L f) (i : Int) (p : List Int) : Tl (lay L i (pv p)) (upd f i p) := fun k => by
  rw [look_lay]
  unfold upd
  split
  · exact .inl rfl
  · exact h k
set_option maxRecDepth 100000 in
set_option maxHeartbeats 1000000 in
theorem written_down {F : Nat → Prop} {w : World} {b : Nat} {S : Plt} (h : PlAt F w b S) (hoff : S.off = true) : Calls Try.prog 36 #[.pointer (some ⟨b, 0, none⟩)] w fun e w' => e = .returned (.slice none 0 0) ∧ Kept (fun _ => False) w w' := by
  go_enter Try.func36, Try.ntmps36
  go_wp2_with fail
  refine (check_any h).mono ?_
  rintro e w1 ⟨rfl, hk1⟩
  have he : S.err = 11 := by simp [Plt.err, hoff]
  rw [he]
  have K1 := hid hk1
  clear hk1
  go_wp2
  go_ret
  exact ⟨rfl, K1.out⟩
/-- what Written answers: the pages that are not zero -/
def WrP (f : Int → List Int) (w : World) (e : Ending) (w' : World) : Prop := ∃ a c ss, e = .returned (.slice a (ordI ss).length c) ∧ ss.Nodup ∧ (∀ k, k ∈ ss ↔ f k ≠ zpg) ∧ Own w' 3 1 (.slice a (ordI ss).length c) (ordI ss).length (ints (ordI ss)) ∧ Kept (fun _ => False) w w'
set_option maxRecDepth 100000 in
set_option maxHeartbeats 4000000 in
theorem written_ok {F : Nat → Prop} {w : World} {b mb cap : Nat} {ao : Option Addr} {S : Plt} (h : PlIn F w b mb ao cap S) (hoff : S.off = false) (hn : S.since.length ≤ 10000) (hZ : ∃ Z : List Int, Z.length ≤ 1000000 ∧ ∀ k, S.page k ≠ zpg → k ∈ Z) :
    Calls Try.prog 36 #[.pointer (some ⟨b, 0, none⟩)] w (WrP S.page w) := by
  have H := hid h; have HN := hid hn; have HZ := hid hZ
  clear h hn hZ
  go_enter Try.func36, Try.ntmps36
  go_wp2_with fail
  refine (check_any ⟨_, _, _, H.out⟩).mono ?_
  rintro e w1 ⟨rfl, hk1⟩
  have he : S.err = 0 := by simp [Plt.err, hoff]
  rw [he]
  have H1 := hid (H.out.kept hk1 (fun _ _ _ h => h))
  have K1 := hid hk1
  clear hk1 he hoff
  obtain ⟨c0, c1, c2, c3, c4, c5⟩ := cells6 H1.out.r
  clear c0 c3 c4 c5 c2
  obtain ⟨L, q1, q2⟩ := H1.out.q
  have Q2 := hid q2
  go_wp2_with fail
  refine (clone_any q1).mono ?_
  rintro e w2 ⟨rfl, hm2, hk2⟩
  obtain ⟨nb, hnb⟩ : ∃ nb, w1.heap.size = nb := ⟨_, rfl⟩
  rw [hnb] at hm2 ⊢
  have HNB := hid hnb
  have M2 := hid hm2
  have K2 := hid (K1.out.trans hk2)
  have H2 := hid (H1.out.kept hk2 (fun _ _ _ h => h))
  clear q1 q2 hm2 hk2 c1 hnb
  obtain ⟨c0, c1, c2, c3, c4, c5⟩ := cells6 H2.out.r
  clear c0 c1 c3 c4 c5
  have hns := HN.out
  go_wp2_with fail
  go_loopw [19] (fun j wr => ∃ (k : Nat) (Lk : List (Int × Value)), k ≤ S.since.length ∧ j = .int .i64 k ∧ MapIs wr nb .i64 Lk ∧ Tl Lk (lastAll S.last (S.since.take k)) ∧ Kept (fun g => g = nb) w2 wr) (fun j _ => S.since.length - (intOf j).toNat)
  case atStart => exact ⟨0, L, Nat.zero_le _, rfl, M2.out, by simpa [lastAll] using Q2.out.tl, Kept.refl _ _⟩
  case round =>
    rename World => wr
    obtain ⟨k, Lk, hk, rfl, hml, htl, hkp⟩ := hrel
    have ML := hid hml; have TL := hid htl; have KR := hid hkp
    clear hml htl hkp
    have lnb := HNB.out
    have hsz2 := K1.out.size
    by_cases hlt : k < S.since.length
    · have hltI : (k : Int) < (S.since.length : Int) := by omega
      obtain ⟨x, hx⟩ : ∃ x, S.since[k]? = some x := ⟨_, List.getElem?_eq_getElem hlt⟩
      have hOR := H2.out.o.kept KR.out (fun g hg e => by
        have h1 := H1.out.o.lt hg
        omega)
      obtain ⟨g, rfl, hr, hgl⟩ := hOR.pend H.out.s hx hlt
      have HR := hid hr; have HX := hid hx
      have HPL := hid (pcell_len x (H.out.s x (List.mem_of_getElem? hx)))
      have HXL := hid (H.out.s x (List.mem_of_getElem? hx))
      have HN3 := hid (row_new wr (.cells (pcell (0, zpg)).toArray 71))
      clear hr hx hgl hOR lnb hsz2
      go_wp2_with (first
        | (refine wpList_load_mid rfl 71 (.tmp 21) rfl g (k * 65) rfl (pcell x) _ HR.out Try.underlying71 rfl (by rw [infoPd, HPL.out]) ?_)
        | (refine wpList_store_row rfl 71 (.tmp 5) (.tmp 22) rfl (pcell x).toArray (pcell (0, zpg)).toArray (by rfl) (by rfl) (by exact HN3.out) (by simp [HPL.out, pcell_len, zpg_len]) (by rw [infoPd]; simp [HPL.out]) (all_oneCell_toArray (pcell_one _)) ?_; intro w3 hb3 hk3; have HB3 := hid hb3; have HK3 := hid (((Kept.refl (fun _ => False) wr).alloc (.cells (pcell (0, zpg)).toArray 71)).trans' hk3 (fun g hg => .inr (by rw [hg]; exact Nat.le_refl _))); have M3 := hid (ML.out.of_block (HK3.out.block nb ML.out.lt (fun h => h))); have hc0 : w3.cell? ⟨wr.heap.size, 0, none⟩ = some (.int .i64 x.1) := (by rw [row_cell HB3.out]; rfl); clear hb3 hk3)
        | (refine wpList_load_mid rfl 69 (.tmp 26) rfl wr.heap.size 1 rfl (u8s x.2) _ (fun j u hj => by rw [row_cell HB3.out, Nat.add_comm]; simpa [pcell] using hj) Try.underlying69 rfl (by rw [infoPg, u8s_len, HXL.out]) ?_)
        | (refine wpList_lay rfl 65 3 69 (.tmp 23) (.tmp 25) (.tmp 27) rfl nb .i64 x.1 (.agg (u8s x.2).toArray) rfl rfl rfl Try.underlying65 Try.underlying3 Lk M3.out ?_; intro w4 hM hk4; have M4 := hid hM; have K4 := hid hk4; clear hM hk4))
      go_roundw
      case rel => exact ⟨k + 1, _, by omega, by go_num, M4.out, by rw [lastAll_take HX.out]; exact TL.out.lay x.1 x.2, (KR.out.trans (HK3.out.mono (fun _ _ h => h.elim))).trans K4.out⟩
      case measure => (simp only [intOf]; omega)
    · obtain rfl : k = S.since.length := by omega
      rw [List.take_length] at TL
      have hP : ∀ k v, look Lk k = some v → ∃ p, p.length = 64 ∧ v = pv p := fun k v hkv => by
        rcases TL.out k with h | h
        · rw [h] at hkv; cases hkv
          exact ⟨_, lastAll_len H.out.l S.since H.out.s k, rfl⟩
        · rw [h.1] at hkv; cases hkv
      go_wp2_with fail
      refine (delete_any ML.out hP).mono ?_
      rintro e w5 ⟨rfl, ⟨L', hm5, hl5⟩, hk5⟩
      have M5 := hid hm5; have L5 := hid hl5
      have K5 := hid (K2.out.trans' (KR.out.trans hk5) (fun g hg => .inr (by omega)))
      clear hm5 hl5 hk5 hP c2
      go_wp2_with fail
      refine (keys_any (some nb) _).mono ?_
      rintro e w6 ⟨rfl, rfl⟩
      have HPG := hid (fun k => show look L' k = some (pv (S.page k)) ∧ S.page k ≠ zpg ∨ (look L' k = none ∧ S.page k = zpg) from by
        have hpg : S.page k = lastAll S.last S.since k := rfl
        rw [hpg]
        by_cases hz : lastAll S.last S.since k = zpg
        · right
          refine ⟨?_, hz⟩
          cases hl : look L' k with
          | none => rfl
          | some v =>
            have := (L5.out k v).1 hl
            rcases TL.out k with h | h
            · rw [h] at this; exact absurd (by rw [← Option.some.inj this.1, hz]) this.2
            · rw [h.1] at this; cases this.1
        · left
          refine ⟨(L5.out k _).2 ⟨?_, fun e => hz (pv_inj e)⟩, hz⟩
          rcases TL.out k with h | h
          · exact h
          · exact absurd h.2 hz)
      have HND := hid (show (L'.map (·.1)).Nodup by obtain ⟨_, _, _, _, h, _⟩ := M5.out; exact h)
      have HMK := hid (fun k => show k ∈ L'.map (·.1) ↔ S.page k ≠ zpg from by
        rw [← look_mem]
        rcases HPG.out k with h | h
        · rw [h.1]; exact ⟨fun _ => h.2, fun _ => rfl⟩
        · rw [h.1]; exact ⟨fun e => by simp at e, fun e => absurd h.2 e⟩)
      have HLL := hid (show L'.length ≤ 1000000 by
        obtain ⟨Z, hz1, hz2⟩ := HZ.out
        have := nodup_le (Z := Z) HND.out (fun k hk => hz2 k ((HMK.out k).1 hk))
        rw [List.length_map] at this
        omega)
      have HC6 := hid (row_new w5 (.cells #[.map (some nb)] 65))
      have M6 := hid (M5.out.mapOf.of_block (w' := w5.alloc (.cells #[.map (some nb)] 65)) (Below.heap_alloc _ _ _ M5.out.lt))
      have HCC := hid (show (w5.alloc (.cells #[.map (some nb)] 65)).cell? ⟨w5.heap.size, 0, none⟩ = some (.map (some nb)) by rw [row_cell HC6.out]; rfl)
      have K6 := hid (K5.out.alloc (.cells #[.map (some nb)] 65))
      go_wp2_with fail
      refine (sorted_all HCC.out M6.out HLL.out).mono ?_
      rintro e w7 ⟨a7, c7, ss, rfl, hp7, ho7, hg7, hk7⟩
      have HO7 := hid ho7; have K7 := hid (K6.out.trans hk7); have HP7 := hid hp7
      clear hp7 ho7 hg7 hk7
      go_wp2
      go_ret
      exact ⟨a7, c7, ss, rfl, HP7.out.nodup_iff.2 HND.out, fun k => (HP7.out.mem_iff).trans (HMK.out k), HO7.out, K7.out⟩
end Go.Proofs.Ytnfdkpjklenllaa
