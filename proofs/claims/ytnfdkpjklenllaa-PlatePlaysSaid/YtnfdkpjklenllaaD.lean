/- Flush, Read. -/
import Derived.Test.YtnfdkpjklenllaaC

namespace Go.Proofs.Ytnfdkpjklenllaa
open Go.RowKit

def lastAll (f : Int → List Int) (l : List Pend) : Int → List Int := l.foldl (fun f x => upd f x.1 x.2) f
theorem lastAll_snoc (f : Int → List Int) (l : List Pend) (x : Pend) : lastAll f (l ++ [x]) = upd (lastAll f l) x.1 x.2 := by simp [lastAll]
theorem lastAll_len {f : Int → List Int} (h : ∀ k, (f k).length = 64) : ∀ (l : List Pend), (∀ x ∈ l, x.2.length = 64) → ∀ k, (lastAll f l k).length = 64
  | [], _ => h
  | x :: l, hl => lastAll_len (upd_len h x.1 (hl x (by simp))) l (fun y hy => hl y (by simp [hy]))
theorem lastAll_take {f : Int → List Int} {l : List Pend} {k : Nat} {x : Pend} (h : l[k]? = some x) : lastAll f (l.take (k + 1)) = upd (lastAll f (l.take k)) x.1 x.2 := by
  rw [List.take_add_one, h]; exact lastAll_snoc _ _ _
/-- the cells of one write -/
theorem Own.pend {w : World} {l : List Pend} {n cap : Nat} {ao : Option Addr} (h : Own w 71 65 (.slice ao n cap) n (pcells l)) (hl : ∀ x ∈ l, x.2.length = 64) {k : Nat} {x : Pend} (hx : l[k]? = some x) (hk : k < n) :
    ∃ g, ao = some ⟨g, 0, none⟩ ∧ w.rangeAt g (k * 65) (pcell x) ∧ g < w.heap.size := by
  obtain ⟨g, cap', e, _⟩ := h.some_of_pos (by omega)
  simp only [Value.slice.injEq] at e
  obtain ⟨rfl, _, rfl⟩ := e
  refine ⟨g, rfl, fun j u hj => ?_, h.lt rfl⟩
  have := pcells_at l hl k x j u hx hj
  obtain ⟨hj', e⟩ := List.getElem?_eq_some_iff.1 this
  rw [h.cells (g := g) rfl _ hj', e]
def Plt.flushed (S : Plt) : Plt := { S with last := lastAll S.last S.since, since := [] }

set_option maxRecDepth 100000 in
set_option maxHeartbeats 2000000 in
theorem flush_ok {F : Nat → Prop} {w : World} {b mb cap : Nat} {ao : Option Addr} {S : Plt} (h : PlIn F w b mb ao cap S) (hs : Small S) (hoff : S.off = false) (hn : S.since.length ≤ 10000) (hg : (tick S).off = false) :
    Calls Try.prog 13 #[.pointer (some ⟨b, 0, none⟩)] w fun e w' => e = .returned (.int .i64 0) ∧ PlAt F w' b (tick S).flushed ∧ Kept F w w' := by
  have H := hid h; clear h
  have HO := hid hoff; clear hoff
  have HG := hid hg; clear hg
  have HN := hid hn; clear hn
  have HS := hid hs; clear hs
  go_enter Try.func13, Try.ntmps13
  go_wp2_with fail
  refine (check_any ⟨_, _, _, H.out⟩).mono ?_
  rintro e w1 ⟨rfl, hk1⟩
  have he : S.err = 0 := by simp [Plt.err, HO.out]
  rw [he]
  have H1 := hid (H.out.kept hk1 (fun _ _ _ h => h))
  have HK1 := hid hk1
  clear hk1 he
  go_wp2_with fail
  refine (goes_any H1.out HS.out).mono ?_
  rintro e w2 ⟨rfl, h2, hk2⟩
  rw [HG.out]
  have H2 := hid h2; have HK2 := hid ((HK1.out.mono (fun _ _ h => h.elim)).trans (hk2.mono (fun g _ e => by subst e; exact H.out.m)))
  clear h2 hk2
  have hN2 : (tick S).since.length ≤ 10000 := HN.out
  have HN2 := hid hN2; clear hN2 HG HS HO
  obtain ⟨T, hT⟩ : ∃ T, tick S = T := ⟨_, rfl⟩
  rw [hT] at H2 HN2
  try rw [hT]
  have HT := hid hT; clear hT
  obtain ⟨c0, c1, c2, c3, c4, c5⟩ := cells6 H2.out.r
  clear c0 c1 c3 c4 c5
  go_wp2_with fail
  go_loopw [18] (fun i wr => ∃ k : Nat, k ≤ T.since.length ∧ i = .int .i64 k ∧ PlIn F wr b mb ao cap { T with last := lastAll T.last (T.since.take k) } ∧ Kept F w wr) (fun i _ => T.since.length - (intOf i).toNat)
  case atStart => exact ⟨0, Nat.zero_le _, rfl, H2.out, HK2.out⟩
  case round =>
    obtain ⟨k, hk, rfl, hp, hkp⟩ := hrel
    have HP := hid hp; have HK := hid hkp; clear hp hkp
    have hN2 := HN2.out
    by_cases hlt : k < T.since.length
    · obtain ⟨x, hx⟩ : ∃ x, T.since[k]? = some x := ⟨T.since[k], by simp [hlt]⟩
      obtain ⟨g, rfl, hr, hgl⟩ := HP.out.o.pend HP.out.s hx hlt
      have HR := hid hr; have HX := hid hx; have HGL := hid hgl; clear hr hx hgl
      have HPL := hid (pcell_len x (HP.out.s x (List.mem_of_getElem? HX.out)))
      have HN3 := hid (row_new wr (.cells (pcell (0, zpg)).toArray 71))
      go_wp2_with (first
        | (refine wpList_load_mid rfl 71 (.tmp 20) rfl g (k * 65) rfl (pcell x) _ HR.out Try.underlying71 rfl (by rw [infoPd, HPL.out]) ?_)
        | (refine wpList_store_row rfl 71 (.tmp 5) (.tmp 21) rfl (pcell x).toArray (pcell (0, zpg)).toArray (by rfl) (by rfl) (by exact HN3.out) (by simp [HPL.out, pcell_len, zpg_len]) (by rw [infoPd]; simp [HPL.out]) (all_oneCell_toArray (pcell_one _)) ?_; intro w3 hb3 hk3; have HB3 := hid hb3; have HK3 := hid (((Kept.refl (fun _ => False) wr).alloc _).trans' hk3 (fun g hg => .inr (by omega))); have d0 : w3.cell? ⟨wr.heap.size, 0, none⟩ = some (.int .i64 x.1) := row_cell hb3 0; clear hb3 hk3)
        | (refine wpList_load_mid rfl 69 (.tmp 25) rfl wr.heap.size 1 rfl (u8s x.2) _ (fun j u hj => by rw [row_cell HB3.out, Nat.add_comm]; simpa [pcell] using hj) Try.underlying69 rfl (by rw [infoPg, u8s_len, HP.out.s x (List.mem_of_getElem? HX.out)]) ?_))
      refine (put_any (HP.out.kept HK3.out (fun _ _ _ h => h)) x.1 x.2 (HP.out.s x (List.mem_of_getElem? HX.out))).mono ?_
      rintro e w4 ⟨rfl, h4, hk4⟩
      have H4 := hid h4; have HK4 := hid hk4; clear h4 hk4
      go_wp2
      go_roundw
      case rel => exact ⟨k + 1, by omega, by go_num, by rw [lastAll_take HX.out]; exact H4.out, (HK.out.trans (HK3.out.mono (fun _ _ h => h.elim))).trans (HK4.out.mono (fun g _ e => by subst e; exact H.out.f))⟩
      case measure => simp [intOf]; omega
    · have hkn : k = T.since.length := by omega
      subst hkn
      obtain ⟨c0, c1, c2, c3, c4, c5⟩ := cells6 HP.out.r
      have f2 := row_free HP.out.r 2
      clear c0 c1 c3 c4 c5
      go_wp2
      go_ret
      have hp := HP.out
      rw [List.take_length] at hp
      refine ⟨rfl, ⟨mb, none, 0, ?_⟩, HK.out.setCell (.inl H.out.m) _⟩
      rw [HT.out]
      have hr := row_set hp.r 2 (.slice none 0 0)
      refine ⟨hr, ?_, Own.nil _ _ _, hp.m, hp.f, by simp [Value.ownBlock, Plt.flushed], hp.l, by simp [Plt.flushed]⟩
      obtain ⟨L, q1, q2⟩ := hp.q
      exact ⟨L, q1.of_block (Below.heap_setCell _ _ _ _ (by exact Ne.symm hp.ne.1)), q2⟩


set_option maxRecDepth 100000 in
set_option maxHeartbeats 2000000 in
theorem flush_dead {F : Nat → Prop} {w : World} {b mb cap : Nat} {ao : Option Addr} {S : Plt} (h : PlIn F w b mb ao cap S) (hs : Small S) (hoff : S.off = false) (hg : (tick S).off = true) :
    Calls Try.prog 13 #[.pointer (some ⟨b, 0, none⟩)] w fun e w' => e = .returned (.int .i64 11) ∧ PlAt F w' b (tick S) ∧ Kept F w w' := by
  have H := hid h; clear h
  have HO := hid hoff; clear hoff
  have HG := hid hg; clear hg
  have HS := hid hs; clear hs
  go_enter Try.func13, Try.ntmps13
  go_wp2_with fail
  refine (check_any ⟨_, _, _, H.out⟩).mono ?_
  rintro e w1 ⟨rfl, hk1⟩
  have he : S.err = 0 := by simp [Plt.err, HO.out]
  rw [he]
  have H1 := hid (H.out.kept hk1 (fun _ _ _ h => h))
  have HK1 := hid hk1
  clear hk1 he
  go_wp2_with fail
  refine (goes_any H1.out HS.out).mono ?_
  rintro e w2 ⟨rfl, h2, hk2⟩
  rw [HG.out]
  have H2 := hid h2; have HK2 := hid ((HK1.out.mono (fun _ _ h => h.elim)).trans (hk2.mono (fun g _ e => by subst e; exact H.out.m)))
  clear h2 hk2
  go_wp2
  go_ret
  exact ⟨rfl, ⟨_, _, _, H2.out⟩, HK2.out⟩
set_option maxHeartbeats 1000000 in
theorem flush_off {F : Nat → Prop} {w : World} {b : Nat} {S : Plt} (h : PlAt F w b S) (hoff : S.off = true) :
    Calls Try.prog 13 #[.pointer (some ⟨b, 0, none⟩)] w fun e w' => e = .returned (.int .i64 11) ∧ Kept (fun _ => False) w w' := by
  have H := hid h; clear h
  have HO := hid hoff; clear hoff
  go_enter Try.func13, Try.ntmps13
  go_wp2_with fail
  refine (check_any H.out).mono ?_
  rintro e w1 ⟨rfl, hk1⟩
  have he : S.err = 11 := by simp [Plt.err, HO.out]
  rw [he]
  have HK1 := hid hk1
  clear hk1 he
  go_wp2
  go_ret
  exact ⟨rfl, HK1.out⟩
end Go.Proofs.Ytnfdkpjklenllaa
