/- Read. -/
import Derived.Test.YtnfdkpjklenllaaD

namespace Go.Proofs.Ytnfdkpjklenllaa
open Go.RowKit

/-- a page as it is read -/
def Plt.page (S : Plt) (i : Int) : List Int := lastAll S.last S.since i
theorem zeroPg (w : World) : (zeroValue 69).run Try.prog w = .ok (.agg (u8s zpg).toArray) w := by kernel_rfl

set_option maxRecDepth 100000 in
set_option maxHeartbeats 2000000 in
theorem read_ok {F : Nat → Prop} {w : World} {b mb cap : Nat} {ao : Option Addr} {S : Plt} (h : PlIn F w b mb ao cap S) (hoff : S.off = false) (hn : S.since.length ≤ 10000) (i : Int) (i0 : 0 ≤ i) (i1 : i < S.n) :
    Calls Try.prog 24 #[.pointer (some ⟨b, 0, none⟩), .int .i64 i] w fun e w' => ∃ nb, e = .returned (.tuple #[.slice (some ⟨nb, 0, none⟩) 64 64, .int .i64 0]) ∧ w'.heap[nb]? = some (.cells (u8s (S.page i)).toArray 69 (0, 0)) ∧ w.heap.size ≤ nb ∧ Kept (fun _ => False) w w' := by
  obtain ⟨c0, c1, c2, c3, c4, c5⟩ := cells6 h.r
  have H := hid h; clear h
  have HO := hid hoff; clear hoff
  have HN := hid hn; clear hn
  clear c1 c2 c3 c4 c5
  have i0' : ¬ i < 0 := by omega
  have i1' : ¬ S.n ≤ i := by omega
  go_enter Try.func24, Try.ntmps24
  go_wp2_with fail
  refine (check_any ⟨_, _, _, H.out⟩).mono ?_
  rintro e w1 ⟨rfl, hk1⟩
  have he : S.err = 0 := by simp [Plt.err, HO.out]
  rw [he]
  have H1 := hid (H.out.kept hk1 (fun _ _ _ h => h))
  have HK1 := hid hk1
  clear hk1 he c0
  obtain ⟨c0, c1, c2, c3, c4, c5⟩ := cells6 H1.out.r
  clear c0 c3 c4 c5
  obtain ⟨L, q1, q2⟩ := H1.out.q
  have HL := hid q1
  have HQ := hid (show look L i = some (.agg (u8s (S.last i)).toArray) ∨ look L i = none ∧ (Value.agg (u8s (S.last i)).toArray) = .agg (u8s zpg).toArray from (q2 i).imp And.left (fun ⟨h1, h2⟩ => ⟨h1, by rw [h2]⟩))
  clear q1 q2
  have HN1 := hid (row_new w1 (.cells (u8s zpg).toArray 69))
  go_wp2_with (first
    | (refine wpList_look rfl 65 3 69 (.tmp 32) (.tmp 33) rfl mb .i64 i rfl rfl Try.underlying65 Try.underlying3 _ (zeroPg _) L HL.out _ HQ.out ?_)
    | (refine wpList_store_row rfl 69 (.tmp 7) (.tmp 34) rfl (u8s (S.last i)).toArray (u8s zpg).toArray (by rfl) (by rfl) (by exact HN1.out) (by simp [u8s_len, zpg_len, H.out.l]) (by rw [infoPg]; simp [u8s_len, H.out.l]) (all_oneCell_toArray (u8s_one _)) ?_; intro w2 hb2 hk2; have HB2 := hid hb2; have HK2 := hid (((Kept.refl (fun _ => False) w1).alloc _).trans' hk2 (fun g hg => .inr (by omega))); have c2 := HK2.out.cell c2 (fun h => h); clear hb2 hk2))
  have HZ := hid (row_lt HB2.out)
  have HP0 := hid (H1.out.kept HK2.out (fun _ _ _ h => h))
  have i0 := hid i0; have i1 := hid i1
  clear c1 c2 HN1 HL HQ i0' i1'
  go_loopw [40] (fun j wr => ∃ k : Nat, k ≤ S.since.length ∧ j = .int .i64 k ∧ wr.heap[w1.heap.size]? = some (.cells (u8s (lastAll S.last (S.since.take k) i)).toArray 69 (0, 0)) ∧ Kept (fun _ => False) w1 wr) (fun j _ => S.since.length - (intOf j).toNat)
  case atStart => exact ⟨0, Nat.zero_le _, rfl, HB2.out, HK2.out⟩
  case round =>
    obtain ⟨k, hk, rfl, hb, hkp⟩ := hrel
    have HB := hid hb; have HK := hid hkp; clear hb hkp
    have hN2 := HN.out
    by_cases hlt : k < S.since.length
    · have HP := hid (H1.out.kept HK.out (fun _ _ _ h => h))
      obtain ⟨x, hx⟩ : ∃ x, S.since[k]? = some x := ⟨S.since[k], by simp [hlt]⟩
      obtain ⟨g, rfl, hr, hgl⟩ := HP.out.o.pend HP.out.s hx hlt
      have HR := hid hr; have HX := hid hx; clear hr hx hgl
      have HPL := hid (pcell_len x (HP.out.s x (List.mem_of_getElem? HX.out)))
      have HN3 := hid (row_new wr (.cells (pcell (0, zpg)).toArray 71))
      have HLL := hid (lastAll_len H.out.l (S.since.take k) (fun y hy => H.out.s y (List.mem_of_mem_take hy)) i)
      have HXL := hid (H.out.s x (List.mem_of_getElem? HX.out))
      by_cases hxi : x.1 = i
      · have hxi' : (x.1 == i) = true := by simp [hxi]
        have HXI := hid hxi; clear hxi
        go_wp2_with (first
          | (refine wpList_load_mid rfl 71 (.tmp 42) rfl g (k * 65) rfl (pcell x) _ HR.out Try.underlying71 rfl (by rw [infoPd, HPL.out]) ?_)
          | (refine wpList_store_row rfl 71 (.tmp 9) (.tmp 43) rfl (pcell x).toArray (pcell (0, zpg)).toArray (by rfl) (by rfl) (by exact HN3.out) (by simp [HPL.out, pcell_len, zpg_len]) (by rw [infoPd]; simp [HPL.out]) (all_oneCell_toArray (pcell_one _)) ?_; intro w3 hb3 hk3; have HB3 := hid hb3; have HK3 := hid (((Kept.refl (fun _ => False) wr).alloc _).trans' hk3 (fun g hg => .inr (by omega))); have HB4 := hid ((HK3.out.block _ (row_lt HB.out) (fun h => h)).trans HB.out); have d0 : w3.cell? ⟨wr.heap.size, 0, none⟩ = some (.int .i64 x.1) := row_cell hb3 0; clear hb3 hk3)
          | (refine wpList_load_mid rfl 69 (.tmp 48) rfl wr.heap.size 1 rfl (u8s x.2) _ (fun j u hj => by rw [row_cell HB3.out, Nat.add_comm]; simpa [pcell] using hj) Try.underlying69 rfl (by rw [infoPg, u8s_len, HXL.out]) ?_)
          | (refine wpList_store_row rfl 69 (.tmp 7) (.tmp 49) rfl (u8s x.2).toArray (u8s (lastAll S.last (S.since.take k) i)).toArray (by rfl) (by rfl) (by exact HB4.out) (by simp [u8s_len, HXL.out, HLL.out]) (by rw [infoPg]; simp [u8s_len, HXL.out]) (all_oneCell_toArray (u8s_one _)) ?_; intro w4 hb4 hk4; have HB5 := hid hb4; have HK4 := hid hk4; clear hb4 hk4))
        go_roundw
        case rel => exact ⟨k + 1, by omega, by go_num, by rw [lastAll_take HX.out, upd, if_pos HXI.out.symm]; exact HB5.out, (HK.out.trans HK3.out).trans' HK4.out (fun g hg => .inr (by omega))⟩
        case measure => simp [intOf]; omega
      · have hxi' : (x.1 == i) = false := by simp [hxi]
        have HXI := hid hxi; clear hxi
        go_wp2_with (first
          | (refine wpList_load_mid rfl 71 (.tmp 42) rfl g (k * 65) rfl (pcell x) _ HR.out Try.underlying71 rfl (by rw [infoPd, HPL.out]) ?_)
          | (refine wpList_store_row rfl 71 (.tmp 9) (.tmp 43) rfl (pcell x).toArray (pcell (0, zpg)).toArray (by rfl) (by rfl) (by exact HN3.out) (by simp [HPL.out, pcell_len, zpg_len]) (by rw [infoPd]; simp [HPL.out]) (all_oneCell_toArray (pcell_one _)) ?_; intro w3 hb3 hk3; have HB3 := hid hb3; have HK3 := hid (((Kept.refl (fun _ => False) wr).alloc _).trans' hk3 (fun g hg => .inr (by omega))); have HB4 := hid ((HK3.out.block _ (row_lt HB.out) (fun h => h)).trans HB.out); have d0 : w3.cell? ⟨wr.heap.size, 0, none⟩ = some (.int .i64 x.1) := row_cell hb3 0; clear hb3 hk3))
        go_roundw
        case rel => exact ⟨k + 1, by omega, by go_num, by rw [lastAll_take HX.out, upd, if_neg (Ne.symm HXI.out)]; exact HB4.out, HK.out.trans HK3.out⟩
        case measure => simp [intOf]; omega
    · have hkn : k = S.since.length := by omega
      subst hkn
      have HB5 := hid (show wr.heap[w1.heap.size]? = some (.cells (u8s (S.page i)).toArray 69 (0, 0)) by have := HB.out; rw [List.take_length] at this; exact this)
      go_wp2
      go_returns
      exact ⟨_, rfl, HB5.out, HK1.out.size, HK1.out.trans HK.out⟩
end Go.Proofs.Ytnfdkpjklenllaa
