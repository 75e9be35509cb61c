/- goes, put. -/
import Derived.Test.YtnfdkpjklenllaaA
import Derived.Test.YtnfdkpjklenllaaMop
namespace Go.Proofs.Ytnfdkpjklenllaa
open Go.RowKit

/-- an operation is counted -/
def tick (S : Plt) : Plt := { S with ops := S.ops + 1, off := if 0 < S.armed then decide (S.armed = 1) else S.off, armed := if 0 < S.armed then S.armed - 1 else S.armed }
structure Small (S : Plt) : Prop where
  o : 0 ≤ S.ops ∧ S.ops ≤ 1000000
  a : 0 ≤ S.armed ∧ S.armed ≤ 9223372036854775807

set_option maxHeartbeats 1000000 in
theorem goes_any {F : Nat → Prop} {w : World} {b mb cap : Nat} {ao : Option Addr} {S : Plt} (h : PlIn F w b mb ao cap S) (hs : Small S) :
    Calls Try.prog 26 #[.pointer (some ⟨b, 0, none⟩)] w fun e w' => e = .returned (.bool (tick S).off) ∧ PlIn F w' b mb ao cap (tick S) ∧ Kept (fun g => g = b) w w' := by
  obtain ⟨c0, c1, c2, c3, c4, c5⟩ := cells6 h.r
  have H := hid h; clear h
  obtain ⟨⟨o1, o2⟩, a1, a2⟩ := hs
  have fz := fun j => row_free H.out.r j
  have r1 := row_set H.out.r 5 (.int .i64 (S.ops + 1))
  have k1 := (Kept.refl (fun g => g = b) w).setCell (p := ⟨b, 5, none⟩) (.inl rfl) (.int .i64 (S.ops + 1))
  have z1 : IntKind.i64.wrap (S.ops + 1) = S.ops + 1 := IntWalk.i64_in _ (by omega)
  have R1 := hid r1; have K1 := hid k1; clear r1 k1
  by_cases ha : 0 < S.armed
  · have z2 : IntKind.i64.wrap (S.armed - 1) = S.armed - 1 := IntWalk.i64_in _ (by omega)
    have r2 := row_set R1.out 4 (.int .i64 (S.armed - 1))
    have k2 := K1.out.setCell (p := ⟨b, 4, none⟩) (.inl rfl) (.int .i64 (S.armed - 1))
    have r3 := row_set r2 3 (.bool (S.armed - 1 == 0))
    have k3 := k2.setCell (p := ⟨b, 3, none⟩) (.inl rfl) (.bool (S.armed - 1 == 0))
    have hp := H.out.set k3 (tick S) (by rw [r3]; simp only [plRow, tick, if_pos ha]; have : (S.armed - 1 == 0) = decide (S.armed = 1) := (by rw [Bool.eq_iff_iff]; simp; omega); rw [this]; rfl) rfl rfl
    have HP := hid hp; have K3 := hid k3; clear hp k3 r2 k2 r3
    have he : (tick S).off = (S.armed - 1 == 0) := by simp only [tick, if_pos ha]; rw [Bool.eq_iff_iff]; simp; omega
    rw [he]
    go_enter Try.func26, Try.ntmps26
    go_wp2
    go_ret
    exact ⟨rfl, HP.out, K3.out⟩
  · have hp := H.out.set K1.out (tick S) (by rw [R1.out]; simp only [plRow, tick, if_neg ha]; rfl) rfl rfl
    have HP := hid hp; clear hp
    have he : (tick S).off = S.off := by simp only [tick, if_neg ha]
    rw [he]
    go_enter Try.func26, Try.ntmps26
    go_wp2
    go_ret
    exact ⟨rfl, HP.out, K1.out⟩

theorem infoPg : (Try.prog.info? 69).map (·.size) = some 64 := by kernel_rfl
theorem infoPd : (Try.prog.info? 71).map (·.size) = some 65 := by kernel_rfl

theorem PlIn.ne {F : Nat → Prop} {w : World} {b mb cap : Nat} {ao : Option Addr} {S : Plt} (h : PlIn F w b mb ao cap S) : b ≠ mb ∧ ∀ g, (Value.slice ao S.since.length cap).ownBlock = some g → g ≠ mb := by
  obtain ⟨L, ⟨es, cl, e1, _⟩, _⟩ := h.q
  refine ⟨?_, fun g hg => ?_⟩
  · rintro rfl
    have := h.r.symm.trans e1
    simp at this
  · rintro rfl
    obtain ⟨c, e2⟩ := h.o.block hg
    have := e2.symm.trans e1
    simp at this
/-- the map alone is written -/
theorem PlIn.setMap {F : Nat → Prop} {w w' : World} {b mb cap : Nat} {ao : Option Addr} {S : Plt} (h : PlIn F w b mb ao cap S) (k : Kept (fun g => g = mb) w w') (f : Int → List Int) (hM : ∃ L, MapIs w' mb .i64 L ∧ Tells L f) (hf : ∀ k, (f k).length = 64) : PlIn F w' b mb ao cap { S with last := f } :=
  ⟨(k.block _ (row_lt h.r) h.ne.1).trans h.r, hM, h.o.kept k (fun g hg e => h.ne.2 g hg e), h.m, h.f, h.g, hf, h.s⟩
theorem upd_len {f : Int → List Int} (h : ∀ k, (f k).length = 64) (i : Int) {p : List Int} (hp : p.length = 64) : ∀ k, (upd f i p k).length = 64 := fun k => by
  unfold upd; split
  · exact hp
  · exact h k
theorem zpg_u8s : #[Value.int .u8 0, .int .u8 0, .int .u8 0, .int .u8 0, .int .u8 0, .int .u8 0, .int .u8 0, .int .u8 0, .int .u8 0, .int .u8 0, .int .u8 0, .int .u8 0, .int .u8 0, .int .u8 0, .int .u8 0, .int .u8 0, .int .u8 0, .int .u8 0, .int .u8 0, .int .u8 0, .int .u8 0, .int .u8 0, .int .u8 0, .int .u8 0, .int .u8 0, .int .u8 0, .int .u8 0, .int .u8 0, .int .u8 0, .int .u8 0, .int .u8 0, .int .u8 0, .int .u8 0, .int .u8 0, .int .u8 0, .int .u8 0, .int .u8 0, .int .u8 0, .int .u8 0, .int .u8 0, .int .u8 0, .int .u8 0, .int .u8 0, .int .u8 0, .int .u8 0, .int .u8 0, .int .u8 0, .int .u8 0, .int .u8 0, .int .u8 0, .int .u8 0, .int .u8 0, .int .u8 0, .int .u8 0, .int .u8 0, .int .u8 0, .int .u8 0, .int .u8 0, .int .u8 0, .int .u8 0, .int .u8 0, .int .u8 0, .int .u8 0, .int .u8 0] = (u8s zpg).toArray := by rfl
set_option maxRecDepth 100000 in
set_option maxHeartbeats 2000000 in
theorem put_any {F : Nat → Prop} {w : World} {b mb cap : Nat} {ao : Option Addr} {S : Plt} (h : PlIn F w b mb ao cap S) (i : Int) (p : List Int) (hp : p.length = 64) :
    Calls Try.prog 27 #[.pointer (some ⟨b, 0, none⟩), .int .i64 i, .agg (u8s p).toArray] w fun e w' => e = .returned (.tuple #[]) ∧ PlIn F w' b mb ao cap { S with last := upd S.last i p } ∧ Kept (fun g => g = mb) w w' := by
  obtain ⟨c0, c1, c2, c3, c4, c5⟩ := cells6 h.r
  have H := hid h; clear h
  have HP := hid hp; clear hp
  clear c0 c2 c3 c4 c5
  have HL := hid (show ∃ L, MapIs (w.alloc (.cells (u8s p).toArray 69)).drew mb .i64 L ∧ Tells L S.last by
    obtain ⟨L, h1, h2⟩ := H.out.q
    exact ⟨L, h1.of_block (Below.heap_alloc _ _ _ h1.lt), h2⟩)
  have HM0 := hid (show mb < w.heap.size by obtain ⟨L, h1, h2⟩ := H.out.q; exact h1.lt)
  have HN := hid (row_new w (.cells (u8s p).toArray 69))
  have HC := hid (((Kept.refl (fun _ => False) w).alloc (.cells (u8s p).toArray 69)).cell c1 (fun h => h))
  have HNE := hid H.out.ne.1
  clear c1
  go_enter Try.func27, Try.ntmps27
  go_wp2_with fail
  refine wp_region_till (fun w' => w'.cell? ⟨b, 1, none⟩ = some (.map (some mb)) ∧ w'.rangeAt w.heap.size 0 (u8s p)) 6 (by kernel_rfl) ?s0 (fun hHeld => ?_)
  case s0 => exact ⟨HC.out, by simpa using range_of HN.out⟩
  refine till_pure 0 (some 6) (v := ?v100) (by decide) rfl (by kernel_rfl) (by kernel_rfl) (by kernel_rfl) (by kernel_rfl) (by decide) (fun _ _ _ h => h) (Or.inl ⟨by rfl, ?y100⟩) (by assumption) ?r100
  case y100 => (intro w hSw; clear hSw; go_simp; (try with_reducible rfl))
  simp only [Act.put, List.setIfInBounds_toArray, List.set_cons_zero, List.set_cons_succ]
  refine till_pure 1 (some 7) (v := ?v101) (by decide) rfl (by kernel_rfl) (by kernel_rfl) (by kernel_rfl) (by kernel_rfl) (by decide) (fun _ _ _ h => h) (Or.inl ⟨by rfl, ?y101⟩) (by assumption) ?r101
  case y101 => (intro w hSw; clear hSw; go_simp; (try with_reducible rfl))
  simp only [Act.put, List.setIfInBounds_toArray, List.set_cons_zero, List.set_cons_succ]
  refine till_pure 2 (some 8) (v := ?v102) (by decide) rfl (by kernel_rfl) (by kernel_rfl) (by kernel_rfl) (by kernel_rfl) (by decide) (fun _ _ _ h => h) (Or.inl ⟨by rfl, ?y102⟩) (by assumption) ?r102
  case y102 => (intro w hSw; clear hSw; go_simp; (try with_reducible rfl))
  simp only [Act.put, List.setIfInBounds_toArray, List.set_cons_zero, List.set_cons_succ]
  refine till_load 3 (some 9) [] (v := ?v103) (by decide) rfl (by kernel_rfl) (by kernel_rfl) (by kernel_rfl) (by kernel_rfl) (by kernel_rfl) (by decide) (by decide) (fun _ _ _ h => h) (Or.inl ⟨by rfl, ?y103⟩) (by assumption) ?r103
  case y103 => (intro w hSw; (try dsimp only at hSw); go_simp; (try with_reducible rfl))
  simp only [Act.put, List.setIfInBounds_toArray, List.set_cons_zero, List.set_cons_succ]
  refine till_pure 4 (some 10) (v := ?v104) (by decide) rfl (by kernel_rfl) (by kernel_rfl) (by kernel_rfl) (by kernel_rfl) (by decide) (fun _ _ _ h => h) (Or.inl ⟨by rfl, ?y104⟩) (by assumption) ?r104
  case y104 => (intro w hSw; clear hSw; go_simp; (try with_reducible rfl))
  simp only [Act.put, List.setIfInBounds_toArray, List.set_cons_zero, List.set_cons_succ]
  refine till_load 5 (some 11) [] (v := .agg (u8s p).toArray) (by decide) rfl (by kernel_rfl) (by kernel_rfl) (by kernel_rfl) (by kernel_rfl) (by kernel_rfl) (by decide) (by decide) (fun _ _ _ h => h) (yieldsIf_load_mid (by rfl) 69 (.tmp 5) rfl w.heap.size 0 rfl (u8s p) _ (fun _ h => h.2) Try.underlying69 rfl (by rw [infoPg, u8s_len, HP.out])) (by assumption) ?_
  simp only [Act.put, List.setIfInBounds_toArray, List.set_cons_zero, List.set_cons_succ]
  refine till_list [] (by kernel_rfl) (by kernel_rfl) (by decide) (by decide) ?_
  simp only [pickOps, List.getElem?_toArray, List.getElem?_cons_zero, List.getElem?_cons_succ]
  clear hHeld
  obtain ⟨L, h1, h2⟩ := HL.out
  refine wpList_lay rfl 65 3 69 (.tmp 9) (.tmp 10) (.tmp 11) rfl mb .i64 i (.agg (u8s p).toArray) rfl rfl rfl Try.underlying65 Try.underlying3 L h1 ?_
  intro w' hM hk
  have HM := hid hM; have HK := hid ((((Kept.refl (fun g => g = mb) w).alloc _).drew).trans hk); have HT := hid h2
  have HN2 := hid ((hk.block _ (row_lt HN.out) (fun e => by have := HM0.out; omega)).trans HN.out)
  have hc2 := hk.cell HC.out (fun e => HNE.out e)
  clear h1 h2 hM hk
  simp only [Act.put, List.setIfInBounds_toArray, List.set_cons_zero, List.set_cons_succ]
  by_cases hz : p = zpg
  · have HZ' := hid (show decide (p = zpg) = true by simp [hz])
    have HZ := hid hz; clear hz
    go_wp2_with (first
      | (refine wpList_load_row rfl 69 (.tmp 5) rfl _ rfl HN2.out Try.underlying69 rfl (by rw [infoPg]; simp [u8s_len, HP.out]) ?_)
      | (refine wpList_eqpage rfl 69 5 _ 64 (.tmp 12) (.tmp 13) rfl Try.underlying69 (by kernel_rfl) Try.underlying5 (by kernel_rfl) (by kernel_rfl) (by kernel_rfl) p zpg HP.out zpg_len rfl (by rw [← zpg_u8s]; rfl) true HZ'.out ?_)
      | (refine wpList_wipe rfl 65 3 69 _ (.tmp 18) (.tmp 19) rfl rfl mb .i64 i rfl rfl Try.underlying65 Try.underlying3 _ HM.out ?_; intro w2 hM2 hk2; have HM2 := hid hM2; have HK2 := hid hk2; clear hM2 hk2))
    go_returns
    refine ⟨rfl, H.out.setMap (HK.out.trans HK2.out) (upd S.last i p) ⟨_, HM2.out, by rw [HZ.out]; exact tells_out HT.out i _⟩ (upd_len H.out.l i HP.out), HK.out.trans HK2.out⟩
  · have HZ := hid (show decide (p = zpg) = false by simp [hz])
    have HNZ := hid hz
    clear hz
    go_wp2_with (first
      | (refine wpList_load_row rfl 69 (.tmp 5) rfl _ rfl HN2.out Try.underlying69 rfl (by rw [infoPg]; simp [u8s_len, HP.out]) ?_)
      | (refine wpList_eqpage rfl 69 5 _ 64 (.tmp 12) (.tmp 13) rfl Try.underlying69 (by kernel_rfl) Try.underlying5 (by kernel_rfl) (by kernel_rfl) (by kernel_rfl) p zpg HP.out zpg_len rfl (by rw [← zpg_u8s]; rfl) false HZ.out ?_))
    go_returns
    refine ⟨rfl, H.out.setMap HK.out (upd S.last i p) ⟨_, HM.out, tells_lay HT.out i HNZ.out⟩ (upd_len H.out.l i HP.out), HK.out⟩
end Go.Proofs.Ytnfdkpjklenllaa
