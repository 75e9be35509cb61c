/- Restart. -/
import Derived.Test.YtnfdkpjklenllaaE

namespace Go.Proofs.Ytnfdkpjklenllaa
open Go.RowKit

/-- what is left of a page -/
def keepB (k : Int) (old new : List Int) : List Int := if k = 1 then new else if k = 2 then new.take 32 ++ old.drop 32 else if k = 3 then old.take 32 ++ new.drop 32 else old
def keepOf (K : List Int) (j : Nat) : Int := match K[j]? with | some c => c % 4 | none => 0
def keepAll (f : Int → List Int) (K : List Int) (l : List Pend) : Int → List Int := l.zipIdx.foldl (fun f p => upd f p.1.1 (keepB (keepOf K p.2) (f p.1.1) p.1.2)) f
theorem szPg {l : List Int} (h : l.length = 64) : (Try.prog.info? 69).map (·.size) = some (u8s l).toArray.size := by rw [infoPg]; simp [u8s_len, h]
theorem szPg' {l : List Int} (h : l.length = 64) : (Try.prog.info? 69).map (·.size) = some (u8s l).length := by rw [infoPg, u8s_len, h]
theorem szEq {l m : List Int} (h : l.length = 64) (h' : m.length = 64) : (u8s l).toArray.size = (u8s m).toArray.size := by simp [u8s_len, h, h']
theorem pgMid {w : World} {b : Nat} {x : Pend} {T : TypeId} (h : w.heap[b]? = some (.cells (pcell x).toArray T (0, 0))) : w.rangeAt b 1 (u8s x.2) := fun j u hj => by rw [row_cell h, Nat.add_comm]; simpa [pcell] using hj
theorem pgTake {w : World} {b : Nat} {x : Pend} {T : TypeId} (h : w.heap[b]? = some (.cells (pcell x).toArray T (0, 0))) : ∀ j v, (u8s (x.2.take 32))[j]? = some v → w.cell? ((⟨b, 1, none⟩ : Addr).add j) = some v := fun j v hj => by
  rw [Addr.add_mid]
  refine pgMid h j v ?_
  obtain ⟨hl, e⟩ := List.getElem?_eq_some_iff.1 hj
  simp [u8s] at hl e ⊢
  exact ⟨_, by rw [List.getElem?_eq_getElem (by omega)], e⟩
theorem pgDrop {w : World} {b : Nat} {x : Pend} {T : TypeId} (h : w.heap[b]? = some (.cells (pcell x).toArray T (0, 0))) : ∀ j v, (u8s (x.2.drop 32))[j]? = some v → w.cell? ((⟨b, 33, none⟩ : Addr).add j) = some v := fun j v hj => by
  rw [Addr.add_mid]
  have := pgMid h (32 + j) v (by simpa [u8s] using hj)
  rw [← Nat.add_assoc] at this
  exact this
theorem keepB_len {k : Int} {o n : List Int} (ho : o.length = 64) (hn : n.length = 64) : (keepB k o n).length = 64 := by
  unfold keepB
  split
  · exact hn
  · split
    · simp [ho, hn]
    · split
      · simp [ho, hn]
      · exact ho
theorem keepAll_take {f : Int → List Int} {K : List Int} {l : List Pend} {k : Nat} {x : Pend} (h : l[k]? = some x) : keepAll f K (l.take (k + 1)) = upd (keepAll f K (l.take k)) x.1 (keepB (keepOf K k) (keepAll f K (l.take k) x.1) x.2) := by
  have hk := (List.getElem?_eq_some_iff.1 h).1
  have : (l.take (k + 1)).zipIdx = (l.take k).zipIdx ++ [(x, k)] := by
    rw [List.take_add_one, h, List.zipIdx_append]
    simp; omega
  unfold keepAll
  rw [this]
  simp
theorem keepAll_len {f : Int → List Int} {K : List Int} {l : List Pend} (h : ∀ k, (f k).length = 64) (hl : ∀ x ∈ l, x.2.length = 64) : ∀ n, n ≤ l.length → ∀ k, (keepAll f K (l.take n) k).length = 64
  | 0, _ => by simpa [keepAll] using h
  | n + 1, hn => by
    have hx : l[n]? = some l[n] := by simp
    have ih := keepAll_len (K := K) h hl n (by omega)
    rw [keepAll_take hx]
    exact upd_len ih _ (keepB_len (ih _) (hl _ (by simp)))
def Plt.restart (S : Plt) (K : List Int) : Plt := { S with last := keepAll S.last K S.since, since := [], off := false, armed := 0 }

set_option maxRecDepth 100000 in
set_option maxHeartbeats 4000000 in
theorem restart_ok {F : Nat → Prop} {w : World} {b mb cap : Nat} {ao : Option Addr} {S : Plt} (h : PlIn F w b mb ao cap S) (hoff : S.off = true) (hn : S.since.length ≤ 10000) {v : Value} {KB : List Int} (hv : Byt w v KB) (hK : ∀ x ∈ KB, 0 ≤ x ∧ x ≤ 255) (hF : ∀ g, v.ownBlock = some g → ¬ F g) (hlt : ∀ g, F g → g < w.heap.size) :
    Calls Try.prog 14 #[.pointer (some ⟨b, 0, none⟩), .agg #[v]] w fun e w' => e = .returned (.int .i64 0) ∧ PlAt F w' b (S.restart KB) ∧ Kept F w w' := by
  obtain ⟨c0, c1, c2, c3, c4, c5⟩ := cells6 h.r
  have H := hid h; clear h
  rw [hoff] at c3
  have HN := hid hn; clear hn
  have HV := hid hv; have HK := hid hK; have HF := hid hF; have HLT := hid hlt
  obtain ⟨vo, vc, rfl, ⟨vl, vm⟩, _⟩ := hv
  unfold maxLen at vm
  have hkl : KB.length ≤ 9223372036854775807 := by omega
  have c2 := ((Kept.refl (fun _ => False) w).alloc (.cells #[.slice vo KB.length vc] 38)).cell c2 (fun h => h)
  have c3 := ((Kept.refl (fun _ => False) w).alloc (.cells #[.slice vo KB.length vc] 38)).cell c3 (fun h => h)
  clear c0 c1 c4 c5 hK hF vl vm hoff hlt
  have HB0 := hid (row_new w (.cells #[.slice vo KB.length vc] 38))
  go_enter Try.func14, Try.ntmps14
  go_wp2_with fail
  go_loopw [23] (fun j wr => ∃ k : Nat, k ≤ S.since.length ∧ j = .int .i64 k ∧ PlIn F wr b mb ao cap { S with last := keepAll S.last KB (S.since.take k) } ∧ Kept F (w.alloc (.cells #[.slice vo KB.length vc] 38)) wr) (fun j _ => S.since.length - (intOf j).toNat)
  case atStart => exact ⟨0, Nat.zero_le _, rfl, H.out.kept (G := fun _ => False) ((Kept.refl _ _).alloc _) (fun _ _ _ h => h), Kept.refl _ _⟩
  case round =>
    obtain ⟨k, hk, rfl, hp, hkp⟩ := hrel
    have HP := hid hp; have HKP := hid hkp; clear hp hkp
    have hN2 := HN.out
    by_cases hlt : k < S.since.length
    · obtain ⟨x, hx⟩ : ∃ x, S.since[k]? = some x := ⟨S.since[k], by simp [hlt]⟩
      obtain ⟨g, rfl, hr, hgl⟩ := HP.out.o.pend HP.out.s hx hlt
      have HR := hid hr; have HX := hid hx; clear hr hx hgl
      have HPL := hid (pcell_len x (HP.out.s x (List.mem_of_getElem? HX.out)))
      have HXL := hid (HP.out.s x (List.mem_of_getElem? HX.out))
      have HN3 := hid (row_new wr (.cells (pcell (0, zpg)).toArray 71))
      have HLL := hid (HP.out.l x.1)
      have HBF := hid ((HKP.out.block _ (row_lt HB0.out) (fun hf => by have := HLT.out _ hf; omega)).trans HB0.out)
      have b0 : wr.cell? ⟨w.heap.size, 0, none⟩ = some (.slice vo KB.length vc) := row_cell HBF.out 0
      by_cases hkk : k < KB.length
      · have hKk : KB[k]? = some KB[k] := by simp
        obtain ⟨c, hc⟩ : ∃ c, KB[k] = c := ⟨_, rfl⟩
        rw [hc] at hKk
        have hrng := HK.out c (List.mem_of_getElem? hKk)
        obtain ⟨vo', vc', ev, ⟨vl, vm⟩, _, hcell⟩ := HV.out
        simp only [Value.slice.injEq] at ev
        obtain ⟨rfl, _, rfl⟩ := ev
        obtain ⟨kb, koff, rfl, hcc⟩ := hcell k c hKk
        have hcc := HKP.out.cell (((Kept.refl (fun _ => False) w).alloc _).cell hcc (fun h => h)) (HF.out _ rfl)
        have HCC := hid (show ∀ w3 : World, Kept (fun _ => False) wr w3 → w3.cell? ⟨kb, koff + k, none⟩ = some (.int .u8 c) from fun w3 hk => hk.cell hcc (fun h => h))
        have hq : c % 4 = 0 ∨ c % 4 = 1 ∨ c % 4 = 2 ∨ c % 4 = 3 := by omega
        have htm : c.tmod 4 = c % 4 := Int.tmod_eq_emod_of_nonneg hrng.1
        have hko : keepOf KB k = c % 4 := by simp [keepOf, hKk]
        clear hc hrng hcell hKk hcc vl vm
        rcases hq with hq | hq | hq | hq
        · rw [hq] at htm hko
          have HQ := hid hko; clear hko hq
          go_wp2_with (first
            | (refine wpList_load_mid rfl 71 (.tmp 26) rfl g (k * 65) rfl (pcell x) _ HR.out Try.underlying71 rfl (by rw [infoPd, HPL.out]) ?_)
            | (refine wpList_store_row rfl 71 (.tmp 6) (.tmp 27) rfl (pcell x).toArray (pcell (0, zpg)).toArray (by rfl) (by rfl) (by exact HN3.out) (by simp [HPL.out, pcell_len, zpg_len]) (by rw [infoPd]; simp [HPL.out]) (all_oneCell_toArray (pcell_one _)) ?_; intro w3 hb3 hk3; have HB3 := hid hb3; have HK3 := hid (((Kept.refl (fun _ => False) wr).alloc _).trans' hk3 (fun g hg => .inr (by omega))); have b0 := HK3.out.cell b0 (fun h => h); have bc := HCC.out _ HK3.out; clear hb3 hk3))
          have HP3 := hid (HP.out.kept HK3.out (fun _ _ _ h => h))
          obtain ⟨c0, c1, c2', c3', c4, c5⟩ := cells6 HP3.out.r
          have d0 : w3.cell? ⟨wr.heap.size, 0, none⟩ = some (.int .i64 x.1) := row_cell HB3.out 0
          have HMM := hid (show ∃ L, MapIs w3 mb .i64 L ∧ (look L x.1 = some (.agg (u8s (keepAll S.last KB (S.since.take k) x.1)).toArray) ∨ look L x.1 = none ∧ (Value.agg (u8s (keepAll S.last KB (S.since.take k) x.1)).toArray) = .agg (u8s zpg).toArray) by
            obtain ⟨L, q1, q2⟩ := HP3.out.q
            exact ⟨L, q1, (q2 x.1).imp And.left (fun ⟨h1, h2⟩ => ⟨h1, by have h2 : keepAll S.last KB (S.since.take k) x.1 = zpg := h2; rw [h2]⟩)⟩)
          have L3 := hid (row_lt HP3.out.r)
          have LM3 := hid (show mb < w3.heap.size by obtain ⟨L, q1, _⟩ := HMM.out; exact q1.lt)
          have LW3 := hid (row_lt HB3.out)
          clear c0 c2' c3' c4 c5 b0 bc
          refine wp_region_till (fun w' => w'.cell? ⟨b, 1, none⟩ = some (.map (some mb)) ∧ w'.cell? ⟨wr.heap.size, 0, none⟩ = some (.int .i64 x.1) ∧ ∃ L, MapIs w' mb .i64 L ∧ (look L x.1 = some (.agg (u8s (keepAll S.last KB (S.since.take k) x.1)).toArray) ∨ look L x.1 = none ∧ (Value.agg (u8s (keepAll S.last KB (S.since.take k) x.1)).toArray) = .agg (u8s zpg).toArray)) 8 (by kernel_rfl) (by exact ⟨c1, d0, HMM.out⟩) (fun hHeld => ?_)
          refine till_pure 0 (some 39) (v := ?v200) (by decide) rfl (by kernel_rfl) (by kernel_rfl) (by kernel_rfl) (by kernel_rfl) (by decide) (fun _ _ _ h => h) (Or.inl ⟨by rfl, ?y200⟩) (by assumption) ?r200
          case y200 => (intro w hSw; clear hSw; go_simp; (try with_reducible rfl))
          simp only [Act.put, List.setIfInBounds_toArray, List.set_cons_zero, List.set_cons_succ]
          refine till_pure 1 (some 40) (v := ?v201) (by decide) rfl (by kernel_rfl) (by kernel_rfl) (by kernel_rfl) (by kernel_rfl) (by decide) (fun _ _ _ h => h) (Or.inl ⟨by rfl, ?y201⟩) (by assumption) ?r201
          case y201 => (intro w hSw; clear hSw; go_simp; (try with_reducible rfl))
          simp only [Act.put, List.setIfInBounds_toArray, List.set_cons_zero, List.set_cons_succ]
          refine till_pure 2 (some 41) (v := ?v202) (by decide) rfl (by kernel_rfl) (by kernel_rfl) (by kernel_rfl) (by kernel_rfl) (by decide) (fun _ _ _ h => h) (Or.inl ⟨by rfl, ?y202⟩) (by assumption) ?r202
          case y202 => (intro w hSw; clear hSw; go_simp; (try with_reducible rfl))
          simp only [Act.put, List.setIfInBounds_toArray, List.set_cons_zero, List.set_cons_succ]
          refine till_load 3 (some 42) [] (v := ?v203) (by decide) rfl (by kernel_rfl) (by kernel_rfl) (by kernel_rfl) (by kernel_rfl) (by kernel_rfl) (by decide) (by decide) (fun _ _ _ h => h) (Or.inl ⟨by rfl, ?y203⟩) (by assumption) ?r203
          case y203 => (intro w hSw; (try dsimp only at hSw); go_simp; (try with_reducible rfl))
          simp only [Act.put, List.setIfInBounds_toArray, List.set_cons_zero, List.set_cons_succ]
          refine till_pure 4 (some 43) (v := ?v204) (by decide) rfl (by kernel_rfl) (by kernel_rfl) (by kernel_rfl) (by kernel_rfl) (by decide) (fun _ _ _ h => h) (Or.inl ⟨by rfl, ?y204⟩) (by assumption) ?r204
          case y204 => (intro w hSw; clear hSw; go_simp; (try with_reducible rfl))
          simp only [Act.put, List.setIfInBounds_toArray, List.set_cons_zero, List.set_cons_succ]
          refine till_load 5 (some 44) [] (v := ?v205) (by decide) rfl (by kernel_rfl) (by kernel_rfl) (by kernel_rfl) (by kernel_rfl) (by kernel_rfl) (by decide) (by decide) (fun _ _ _ h => h) (Or.inl ⟨by rfl, ?y205⟩) (by assumption) ?r205
          case y205 => (intro w hSw; (try dsimp only at hSw); go_simp; (try with_reducible rfl))
          simp only [Act.put, List.setIfInBounds_toArray, List.set_cons_zero, List.set_cons_succ]
          refine till_load 6 (some 45) [] (v := .agg (u8s (keepAll S.last KB (S.since.take k) x.1)).toArray) (by decide) rfl (by kernel_rfl) (by kernel_rfl) (by kernel_rfl) (by kernel_rfl) (by kernel_rfl) (by decide) (by decide) (fun _ _ _ h => h) (yieldsIf_look (by rfl) 65 3 69 (.tmp 42) (.tmp 44) rfl mb .i64 x.1 rfl rfl Try.underlying65 Try.underlying3 _ zeroPg _ (fun _ h => h.2.2)) (by assumption) ?_
          simp only [Act.put, List.setIfInBounds_toArray, List.set_cons_zero, List.set_cons_succ]
          refine till_call 7 (by kernel_rfl) rfl (fun K hK => ?_)
          go_simp
          have hk4 := (Kept.refl (fun _ => False) w3).drew.alloc (.cells (u8s zpg).toArray 69)
          have hq4 : ∃ L, MapIs (w3.drew.alloc (.cells (u8s zpg).toArray 69)) mb .i64 L ∧ (look L x.1 = some (.agg (u8s (keepAll S.last KB (S.since.take k) x.1)).toArray) ∨ look L x.1 = none ∧ (Value.agg (u8s (keepAll S.last KB (S.since.take k) x.1)).toArray) = .agg (u8s zpg).toArray) := by
            obtain ⟨L, q1, q2⟩ := HMM.out
            exact ⟨L, q1.of_block (hk4.block _ LM3.out (fun h => h)), q2⟩
          have HN5 := hid (show (w3.drew.alloc (.cells (u8s zpg).toArray 69)).heap[w3.heap.size]? = some (.cells (u8s zpg).toArray 69 (0, 0)) from row_new w3.drew _)
          have HB4 := hid ((hk4.block _ LW3.out (fun h => h)).trans HB3.out)
          have HK4 := hid hk4
          try dsimp only []
          refine hK.out _ _ (by exact ⟨hk4.cell c1 (fun h => h), hk4.cell d0 (fun h => h), hq4⟩) (fun hHeld => ?_)
          clear hK K
          try simp only [Act.put, List.setIfInBounds_toArray, List.set_cons_zero, List.set_cons_succ]
          refine till_list [] (by kernel_rfl) (by kernel_rfl) (by decide) (by decide) ?_
          simp only [pickOps, List.getElem?_toArray, List.getElem?_cons_zero, List.getElem?_cons_succ]
          clear hk4 hq4 hHeld c1 d0
          go_wp2_with (first
            | (refine wpList_load_row rfl 69 (.tmp 8) rfl _ rfl (by exact HB5.out) Try.underlying69 rfl (by exact szPg HLL.out) ?_)
            | (refine wpList_store_row rfl 69 (.tmp 8) (.tmp 45) rfl (u8s (keepAll S.last KB (S.since.take k) x.1)).toArray (u8s zpg).toArray (by rfl) (by rfl) (by exact HN5.out) (by simp [u8s_len, zpg_len, HLL.out]) (by rw [infoPg]; simp [u8s_len, HLL.out]) (all_oneCell_toArray (u8s_one _)) ?_; intro w5 hb5 hk5; have HB5 := hid hb5; have HK5 := hid (HK4.out.trans' hk5 (fun g hg => .inr (by omega))); have HB6 := hid ((hk5.block _ (row_lt HB4.out) (by have := LW3.out; omega)).trans HB4.out); have d0 : w5.cell? ⟨wr.heap.size, 0, none⟩ = some (.int .i64 x.1) := row_cell HB6.out 0; clear hb5 hk5))
          have HK6 := hid HK5.out
          refine (put_any (HP.out.kept (HK3.out.trans HK6.out) (fun _ _ _ h => h)) x.1 (keepAll S.last KB (S.since.take k) x.1) (by exact keepB_len (k := 0) HLL.out HXL.out)).mono ?_
          rintro e w7 ⟨rfl, h7, hk7⟩
          have H7 := hid h7; have HK7 := hid hk7; clear h7 hk7
          go_wp2
          go_roundw
          case rel => exact ⟨k + 1, by omega, by go_num, by rw [keepAll_take HX.out, HQ.out]; exact H7.out, (HKP.out.trans ((HK3.out.trans HK6.out).mono (fun _ _ h => h.elim))).trans (HK7.out.mono (fun g _ e => by subst e; exact H.out.f))⟩
          case measure => simp [intOf]; omega
        · rw [hq] at htm hko
          have HQ := hid hko; clear hko hq
          go_wp2_with (first
            | (refine wpList_load_mid rfl 71 (.tmp 26) rfl g (k * 65) rfl (pcell x) _ HR.out Try.underlying71 rfl (by rw [infoPd, HPL.out]) ?_)
            | (refine wpList_store_row rfl 71 (.tmp 6) (.tmp 27) rfl (pcell x).toArray (pcell (0, zpg)).toArray (by rfl) (by rfl) (by exact HN3.out) (by simp [HPL.out, pcell_len, zpg_len]) (by rw [infoPd]; simp [HPL.out]) (all_oneCell_toArray (pcell_one _)) ?_; intro w3 hb3 hk3; have HB3 := hid hb3; have HK3 := hid (((Kept.refl (fun _ => False) wr).alloc _).trans' hk3 (fun g hg => .inr (by omega))); have b0 := HK3.out.cell b0 (fun h => h); have bc := HCC.out _ HK3.out; clear hb3 hk3))
          have HP3 := hid (HP.out.kept HK3.out (fun _ _ _ h => h))
          obtain ⟨c0, c1, c2', c3', c4, c5⟩ := cells6 HP3.out.r
          have d0 : w3.cell? ⟨wr.heap.size, 0, none⟩ = some (.int .i64 x.1) := row_cell HB3.out 0
          have HMM := hid (show ∃ L, MapIs w3 mb .i64 L ∧ (look L x.1 = some (.agg (u8s (keepAll S.last KB (S.since.take k) x.1)).toArray) ∨ look L x.1 = none ∧ (Value.agg (u8s (keepAll S.last KB (S.since.take k) x.1)).toArray) = .agg (u8s zpg).toArray) by
            obtain ⟨L, q1, q2⟩ := HP3.out.q
            exact ⟨L, q1, (q2 x.1).imp And.left (fun ⟨h1, h2⟩ => ⟨h1, by have h2 : keepAll S.last KB (S.since.take k) x.1 = zpg := h2; rw [h2]⟩)⟩)
          have L3 := hid (row_lt HP3.out.r)
          have LM3 := hid (show mb < w3.heap.size by obtain ⟨L, q1, _⟩ := HMM.out; exact q1.lt)
          have LW3 := hid (row_lt HB3.out)
          clear c0 c2' c3' c4 c5 b0 bc
          refine wp_region_till (fun w' => w'.cell? ⟨b, 1, none⟩ = some (.map (some mb)) ∧ w'.cell? ⟨wr.heap.size, 0, none⟩ = some (.int .i64 x.1) ∧ ∃ L, MapIs w' mb .i64 L ∧ (look L x.1 = some (.agg (u8s (keepAll S.last KB (S.since.take k) x.1)).toArray) ∨ look L x.1 = none ∧ (Value.agg (u8s (keepAll S.last KB (S.since.take k) x.1)).toArray) = .agg (u8s zpg).toArray)) 8 (by kernel_rfl) (by exact ⟨c1, d0, HMM.out⟩) (fun hHeld => ?_)
          refine till_pure 0 (some 39) (v := ?v300) (by decide) rfl (by kernel_rfl) (by kernel_rfl) (by kernel_rfl) (by kernel_rfl) (by decide) (fun _ _ _ h => h) (Or.inl ⟨by rfl, ?y300⟩) (by assumption) ?r300
          case y300 => (intro w hSw; clear hSw; go_simp; (try with_reducible rfl))
          simp only [Act.put, List.setIfInBounds_toArray, List.set_cons_zero, List.set_cons_succ]
          refine till_pure 1 (some 40) (v := ?v301) (by decide) rfl (by kernel_rfl) (by kernel_rfl) (by kernel_rfl) (by kernel_rfl) (by decide) (fun _ _ _ h => h) (Or.inl ⟨by rfl, ?y301⟩) (by assumption) ?r301
          case y301 => (intro w hSw; clear hSw; go_simp; (try with_reducible rfl))
          simp only [Act.put, List.setIfInBounds_toArray, List.set_cons_zero, List.set_cons_succ]
          refine till_pure 2 (some 41) (v := ?v302) (by decide) rfl (by kernel_rfl) (by kernel_rfl) (by kernel_rfl) (by kernel_rfl) (by decide) (fun _ _ _ h => h) (Or.inl ⟨by rfl, ?y302⟩) (by assumption) ?r302
          case y302 => (intro w hSw; clear hSw; go_simp; (try with_reducible rfl))
          simp only [Act.put, List.setIfInBounds_toArray, List.set_cons_zero, List.set_cons_succ]
          refine till_load 3 (some 42) [] (v := ?v303) (by decide) rfl (by kernel_rfl) (by kernel_rfl) (by kernel_rfl) (by kernel_rfl) (by kernel_rfl) (by decide) (by decide) (fun _ _ _ h => h) (Or.inl ⟨by rfl, ?y303⟩) (by assumption) ?r303
          case y303 => (intro w hSw; (try dsimp only at hSw); go_simp; (try with_reducible rfl))
          simp only [Act.put, List.setIfInBounds_toArray, List.set_cons_zero, List.set_cons_succ]
          refine till_pure 4 (some 43) (v := ?v304) (by decide) rfl (by kernel_rfl) (by kernel_rfl) (by kernel_rfl) (by kernel_rfl) (by decide) (fun _ _ _ h => h) (Or.inl ⟨by rfl, ?y304⟩) (by assumption) ?r304
          case y304 => (intro w hSw; clear hSw; go_simp; (try with_reducible rfl))
          simp only [Act.put, List.setIfInBounds_toArray, List.set_cons_zero, List.set_cons_succ]
          refine till_load 5 (some 44) [] (v := ?v305) (by decide) rfl (by kernel_rfl) (by kernel_rfl) (by kernel_rfl) (by kernel_rfl) (by kernel_rfl) (by decide) (by decide) (fun _ _ _ h => h) (Or.inl ⟨by rfl, ?y305⟩) (by assumption) ?r305
          case y305 => (intro w hSw; (try dsimp only at hSw); go_simp; (try with_reducible rfl))
          simp only [Act.put, List.setIfInBounds_toArray, List.set_cons_zero, List.set_cons_succ]
          refine till_load 6 (some 45) [] (v := .agg (u8s (keepAll S.last KB (S.since.take k) x.1)).toArray) (by decide) rfl (by kernel_rfl) (by kernel_rfl) (by kernel_rfl) (by kernel_rfl) (by kernel_rfl) (by decide) (by decide) (fun _ _ _ h => h) (yieldsIf_look (by rfl) 65 3 69 (.tmp 42) (.tmp 44) rfl mb .i64 x.1 rfl rfl Try.underlying65 Try.underlying3 _ zeroPg _ (fun _ h => h.2.2)) (by assumption) ?_
          simp only [Act.put, List.setIfInBounds_toArray, List.set_cons_zero, List.set_cons_succ]
          refine till_call 7 (by kernel_rfl) rfl (fun K hK => ?_)
          go_simp
          have hk4 := (Kept.refl (fun _ => False) w3).drew.alloc (.cells (u8s zpg).toArray 69)
          have hq4 : ∃ L, MapIs (w3.drew.alloc (.cells (u8s zpg).toArray 69)) mb .i64 L ∧ (look L x.1 = some (.agg (u8s (keepAll S.last KB (S.since.take k) x.1)).toArray) ∨ look L x.1 = none ∧ (Value.agg (u8s (keepAll S.last KB (S.since.take k) x.1)).toArray) = .agg (u8s zpg).toArray) := by
            obtain ⟨L, q1, q2⟩ := HMM.out
            exact ⟨L, q1.of_block (hk4.block _ LM3.out (fun h => h)), q2⟩
          have HN5 := hid (show (w3.drew.alloc (.cells (u8s zpg).toArray 69)).heap[w3.heap.size]? = some (.cells (u8s zpg).toArray 69 (0, 0)) from row_new w3.drew _)
          have HB4 := hid ((hk4.block _ LW3.out (fun h => h)).trans HB3.out)
          have HK4 := hid hk4
          try dsimp only []
          refine hK.out _ _ (by exact ⟨hk4.cell c1 (fun h => h), hk4.cell d0 (fun h => h), hq4⟩) (fun hHeld => ?_)
          clear hK K
          try simp only [Act.put, List.setIfInBounds_toArray, List.set_cons_zero, List.set_cons_succ]
          refine till_list [] (by kernel_rfl) (by kernel_rfl) (by decide) (by decide) ?_
          simp only [pickOps, List.getElem?_toArray, List.getElem?_cons_zero, List.getElem?_cons_succ]
          clear hk4 hq4 hHeld c1 d0
          go_wp2_with (first
            | (first | (refine wpList_load_mid rfl 69 (.tmp 49) rfl wr.heap.size 1 rfl (u8s x.2) _ (by exact pgMid HB6.out) Try.underlying69 rfl (by exact szPg' HXL.out) ?_) | (refine wpList_store_row rfl 69 (.tmp 8) (.tmp 50) rfl (u8s x.2).toArray (u8s (keepAll S.last KB (S.since.take k) x.1)).toArray (by rfl) (by rfl) (by exact HB5.out) (by exact szEq HLL.out HXL.out) (by exact szPg HXL.out) (all_oneCell_toArray (u8s_one _)) ?_; intro w6 hb6 hk6; have HB7 := hid hb6; have d0 := hk6.cell d0 (by have := LW3.out; simp; omega); have HK6 := hid (HK5.out.trans' hk6 (fun g hg => .inr (by omega))); clear hb6 hk6) | (refine wpList_load_row rfl 69 (.tmp 8) rfl _ rfl (by exact HB7.out) Try.underlying69 rfl (by exact szPg HXL.out) ?_))
            | (refine wpList_store_row rfl 69 (.tmp 8) (.tmp 45) rfl (u8s (keepAll S.last KB (S.since.take k) x.1)).toArray (u8s zpg).toArray (by rfl) (by rfl) (by exact HN5.out) (by simp [u8s_len, zpg_len, HLL.out]) (by rw [infoPg]; simp [u8s_len, HLL.out]) (all_oneCell_toArray (u8s_one _)) ?_; intro w5 hb5 hk5; have HB5 := hid hb5; have HK5 := hid (HK4.out.trans' hk5 (fun g hg => .inr (by omega))); have HB6 := hid ((hk5.block _ (row_lt HB4.out) (by have := LW3.out; omega)).trans HB4.out); have d0 : w5.cell? ⟨wr.heap.size, 0, none⟩ = some (.int .i64 x.1) := row_cell HB6.out 0; clear hb5 hk5))
          refine (put_any (HP.out.kept (HK3.out.trans HK6.out) (fun _ _ _ h => h)) x.1 (x.2) (by exact keepB_len (k := 1) HLL.out HXL.out)).mono ?_
          rintro e w7 ⟨rfl, h7, hk7⟩
          have H7 := hid h7; have HK7 := hid hk7; clear h7 hk7
          go_wp2
          go_roundw
          case rel => exact ⟨k + 1, by omega, by go_num, by rw [keepAll_take HX.out, HQ.out]; exact H7.out, (HKP.out.trans ((HK3.out.trans HK6.out).mono (fun _ _ h => h.elim))).trans (HK7.out.mono (fun g _ e => by subst e; exact H.out.f))⟩
          case measure => simp [intOf]; omega
        · rw [hq] at htm hko
          have HQ := hid hko; clear hko hq
          go_wp2_with (first
            | (refine wpList_load_mid rfl 71 (.tmp 26) rfl g (k * 65) rfl (pcell x) _ HR.out Try.underlying71 rfl (by rw [infoPd, HPL.out]) ?_)
            | (refine wpList_store_row rfl 71 (.tmp 6) (.tmp 27) rfl (pcell x).toArray (pcell (0, zpg)).toArray (by rfl) (by rfl) (by exact HN3.out) (by simp [HPL.out, pcell_len, zpg_len]) (by rw [infoPd]; simp [HPL.out]) (all_oneCell_toArray (pcell_one _)) ?_; intro w3 hb3 hk3; have HB3 := hid hb3; have HK3 := hid (((Kept.refl (fun _ => False) wr).alloc _).trans' hk3 (fun g hg => .inr (by omega))); have b0 := HK3.out.cell b0 (fun h => h); have bc := HCC.out _ HK3.out; clear hb3 hk3))
          have HP3 := hid (HP.out.kept HK3.out (fun _ _ _ h => h))
          obtain ⟨c0, c1, c2', c3', c4, c5⟩ := cells6 HP3.out.r
          have d0 : w3.cell? ⟨wr.heap.size, 0, none⟩ = some (.int .i64 x.1) := row_cell HB3.out 0
          have HMM := hid (show ∃ L, MapIs w3 mb .i64 L ∧ (look L x.1 = some (.agg (u8s (keepAll S.last KB (S.since.take k) x.1)).toArray) ∨ look L x.1 = none ∧ (Value.agg (u8s (keepAll S.last KB (S.since.take k) x.1)).toArray) = .agg (u8s zpg).toArray) by
            obtain ⟨L, q1, q2⟩ := HP3.out.q
            exact ⟨L, q1, (q2 x.1).imp And.left (fun ⟨h1, h2⟩ => ⟨h1, by have h2 : keepAll S.last KB (S.since.take k) x.1 = zpg := h2; rw [h2]⟩)⟩)
          have L3 := hid (row_lt HP3.out.r)
          have LM3 := hid (show mb < w3.heap.size by obtain ⟨L, q1, _⟩ := HMM.out; exact q1.lt)
          have LW3 := hid (row_lt HB3.out)
          clear c0 c2' c3' c4 c5 b0 bc
          refine wp_region_till (fun w' => w'.cell? ⟨b, 1, none⟩ = some (.map (some mb)) ∧ w'.cell? ⟨wr.heap.size, 0, none⟩ = some (.int .i64 x.1) ∧ ∃ L, MapIs w' mb .i64 L ∧ (look L x.1 = some (.agg (u8s (keepAll S.last KB (S.since.take k) x.1)).toArray) ∨ look L x.1 = none ∧ (Value.agg (u8s (keepAll S.last KB (S.since.take k) x.1)).toArray) = .agg (u8s zpg).toArray)) 8 (by kernel_rfl) (by exact ⟨c1, d0, HMM.out⟩) (fun hHeld => ?_)
          refine till_pure 0 (some 39) (v := ?v5200) (by decide) rfl (by kernel_rfl) (by kernel_rfl) (by kernel_rfl) (by kernel_rfl) (by decide) (fun _ _ _ h => h) (Or.inl ⟨by rfl, ?y5200⟩) (by assumption) ?r5200
          case y5200 => (intro w hSw; clear hSw; go_simp; (try with_reducible rfl))
          simp only [Act.put, List.setIfInBounds_toArray, List.set_cons_zero, List.set_cons_succ]
          refine till_pure 1 (some 40) (v := ?v5201) (by decide) rfl (by kernel_rfl) (by kernel_rfl) (by kernel_rfl) (by kernel_rfl) (by decide) (fun _ _ _ h => h) (Or.inl ⟨by rfl, ?y5201⟩) (by assumption) ?r5201
          case y5201 => (intro w hSw; clear hSw; go_simp; (try with_reducible rfl))
          simp only [Act.put, List.setIfInBounds_toArray, List.set_cons_zero, List.set_cons_succ]
          refine till_pure 2 (some 41) (v := ?v5202) (by decide) rfl (by kernel_rfl) (by kernel_rfl) (by kernel_rfl) (by kernel_rfl) (by decide) (fun _ _ _ h => h) (Or.inl ⟨by rfl, ?y5202⟩) (by assumption) ?r5202
          case y5202 => (intro w hSw; clear hSw; go_simp; (try with_reducible rfl))
          simp only [Act.put, List.setIfInBounds_toArray, List.set_cons_zero, List.set_cons_succ]
          refine till_load 3 (some 42) [] (v := ?v5203) (by decide) rfl (by kernel_rfl) (by kernel_rfl) (by kernel_rfl) (by kernel_rfl) (by kernel_rfl) (by decide) (by decide) (fun _ _ _ h => h) (Or.inl ⟨by rfl, ?y5203⟩) (by assumption) ?r5203
          case y5203 => (intro w hSw; (try dsimp only at hSw); go_simp; (try with_reducible rfl))
          simp only [Act.put, List.setIfInBounds_toArray, List.set_cons_zero, List.set_cons_succ]
          refine till_pure 4 (some 43) (v := ?v5204) (by decide) rfl (by kernel_rfl) (by kernel_rfl) (by kernel_rfl) (by kernel_rfl) (by decide) (fun _ _ _ h => h) (Or.inl ⟨by rfl, ?y5204⟩) (by assumption) ?r5204
          case y5204 => (intro w hSw; clear hSw; go_simp; (try with_reducible rfl))
          simp only [Act.put, List.setIfInBounds_toArray, List.set_cons_zero, List.set_cons_succ]
          refine till_load 5 (some 44) [] (v := ?v5205) (by decide) rfl (by kernel_rfl) (by kernel_rfl) (by kernel_rfl) (by kernel_rfl) (by kernel_rfl) (by decide) (by decide) (fun _ _ _ h => h) (Or.inl ⟨by rfl, ?y5205⟩) (by assumption) ?r5205
          case y5205 => (intro w hSw; (try dsimp only at hSw); go_simp; (try with_reducible rfl))
          simp only [Act.put, List.setIfInBounds_toArray, List.set_cons_zero, List.set_cons_succ]
          refine till_load 6 (some 45) [] (v := .agg (u8s (keepAll S.last KB (S.since.take k) x.1)).toArray) (by decide) rfl (by kernel_rfl) (by kernel_rfl) (by kernel_rfl) (by kernel_rfl) (by kernel_rfl) (by decide) (by decide) (fun _ _ _ h => h) (yieldsIf_look (by rfl) 65 3 69 (.tmp 42) (.tmp 44) rfl mb .i64 x.1 rfl rfl Try.underlying65 Try.underlying3 _ zeroPg _ (fun _ h => h.2.2)) (by assumption) ?_
          simp only [Act.put, List.setIfInBounds_toArray, List.set_cons_zero, List.set_cons_succ]
          refine till_call 7 (by kernel_rfl) rfl (fun K hK => ?_)
          go_simp
          have hk4 := (Kept.refl (fun _ => False) w3).drew.alloc (.cells (u8s zpg).toArray 69)
          have hq4 : ∃ L, MapIs (w3.drew.alloc (.cells (u8s zpg).toArray 69)) mb .i64 L ∧ (look L x.1 = some (.agg (u8s (keepAll S.last KB (S.since.take k) x.1)).toArray) ∨ look L x.1 = none ∧ (Value.agg (u8s (keepAll S.last KB (S.since.take k) x.1)).toArray) = .agg (u8s zpg).toArray) := by
            obtain ⟨L, q1, q2⟩ := HMM.out
            exact ⟨L, q1.of_block (hk4.block _ LM3.out (fun h => h)), q2⟩
          have HN5 := hid (show (w3.drew.alloc (.cells (u8s zpg).toArray 69)).heap[w3.heap.size]? = some (.cells (u8s zpg).toArray 69 (0, 0)) from row_new w3.drew _)
          have HB4 := hid ((hk4.block _ LW3.out (fun h => h)).trans HB3.out)
          have HK4 := hid hk4
          try dsimp only []
          refine hK.out _ _ (by exact ⟨hk4.cell c1 (fun h => h), hk4.cell d0 (fun h => h), hq4⟩) (fun hHeld => ?_)
          clear hK K
          try simp only [Act.put, List.setIfInBounds_toArray, List.set_cons_zero, List.set_cons_succ]
          refine till_list [] (by kernel_rfl) (by kernel_rfl) (by decide) (by decide) ?_
          simp only [pickOps, List.getElem?_toArray, List.getElem?_cons_zero, List.getElem?_cons_succ]
          clear hk4 hq4 hHeld c1 d0
          go_wp2_with (first
            | fail
            | (refine wpList_store_row rfl 69 (.tmp 8) (.tmp 45) rfl (u8s (keepAll S.last KB (S.since.take k) x.1)).toArray (u8s zpg).toArray (by rfl) (by rfl) (by exact HN5.out) (by simp [u8s_len, zpg_len, HLL.out]) (by rw [infoPg]; simp [u8s_len, HLL.out]) (all_oneCell_toArray (u8s_one _)) ?_; intro w5 hb5 hk5; have HB5 := hid hb5; have HK5 := hid (HK4.out.trans' hk5 (fun g hg => .inr (by omega))); have HB6 := hid ((hk5.block _ (row_lt HB4.out) (by have := LW3.out; omega)).trans HB4.out); have d0 : w5.cell? ⟨wr.heap.size, 0, none⟩ = some (.int .i64 x.1) := row_cell HB6.out 0; clear hb5 hk5))
          refine wp_region_till (fun _ => True) 3 (by kernel_rfl) trivial (fun hHeld => ?_)
          refine till_pure 0 (some 53) (v := ?v6210) (by decide) rfl (by kernel_rfl) (by kernel_rfl) (by kernel_rfl) (by kernel_rfl) (by decide) (fun _ _ _ h => h) (Or.inl ⟨by rfl, ?y6210⟩) (by assumption) ?r6210
          case y6210 => (intro w hSw; clear hSw; go_simp; (try with_reducible rfl))
          simp only [Act.put, List.setIfInBounds_toArray, List.set_cons_zero, List.set_cons_succ]
          refine till_pure 1 (some 54) (v := ?v6211) (by decide) rfl (by kernel_rfl) (by kernel_rfl) (by kernel_rfl) (by kernel_rfl) (by decide) (fun _ _ _ h => h) (Or.inl ⟨by rfl, ?y6211⟩) (by assumption) ?r6211
          case y6211 => (intro w hSw; clear hSw; go_simp; (try with_reducible rfl))
          simp only [Act.put, List.setIfInBounds_toArray, List.set_cons_zero, List.set_cons_succ]
          refine till_pure 2 (some 55) (v := ?v6212) (by decide) rfl (by kernel_rfl) (by kernel_rfl) (by kernel_rfl) (by kernel_rfl) (by decide) (fun _ _ _ h => h) (Or.inl ⟨by rfl, ?y6212⟩) (by assumption) ?r6212
          case y6212 => (intro w hSw; clear hSw; go_simp; (try with_reducible rfl))
          simp only [Act.put, List.setIfInBounds_toArray, List.set_cons_zero, List.set_cons_succ]
          refine till_list [] (by kernel_rfl) (by kernel_rfl) (by decide) (by decide) ?_
          simp only [pickOps, List.getElem?_toArray, List.getElem?_cons_zero, List.getElem?_cons_succ]
          clear hHeld
          have e1 : (⟨wr.heap.size, 1, none⟩ : Addr) = ⟨wr.heap.size, 1, none⟩ := rfl
          have HSR := hid (pgTake HB6.out)
          refine wpList_copy_some rfl (.tmp 53) (.tmp 55) 23 23 rfl 5 1 Try.underlying23 (by kernel_rfl) w3.heap.size 0 32 64 ⟨wr.heap.size, 1, none⟩ 32 64 (by rfl) (by rfl) (u8s (keepAll S.last KB (S.since.take k) x.1)).toArray 69 (by exact HB5.out) (u8s (x.2.take 32)) 32 rfl (by simp [u8s_len, HXL.out]) (by exact HSR.out) (by simp [u8s_len, HXL.out, HLL.out]) (u8s_one _) ?_
          intro w6 cur6 hb6 hc6 hk6
          obtain rfl : cur6 = (u8s (keepB 2 (keepAll S.last KB (S.since.take k) x.1) x.2)).toArray := by
            apply Array.toList_inj.1
            rw [hc6.out]
            simp [u8s, keepB, HXL.out, HLL.out]
          have HB7 := hb6
          have HK6 := hid (HK5.out.drew.trans' hk6.out (fun g hg => .inr (by omega)))
          have d0 : w6.cell? ⟨wr.heap.size, 0, none⟩ = some (.int .i64 x.1) := hk6.out.cell (by simpa using d0) (by have := LW3.out; simp; omega)
          clear hb6 hc6 hk6 e1
          simp only [Act.put, List.setIfInBounds_toArray, List.set_cons_zero, List.set_cons_succ]
          go_wp2_with (refine wpList_load_row rfl 69 (.tmp 8) rfl _ rfl (by exact HB7.out) Try.underlying69 rfl (by exact szPg (keepB_len (k := 2) HLL.out HXL.out)) ?_)
          refine (put_any (HP.out.kept (HK3.out.trans HK6.out) (fun _ _ _ h => h)) x.1 (keepB 2 (keepAll S.last KB (S.since.take k) x.1) x.2) (by exact keepB_len (k := 2) HLL.out HXL.out)).mono ?_
          rintro e w7 ⟨rfl, h7, hk7⟩
          have H7 := hid h7; have HK7 := hid hk7; clear h7 hk7
          go_wp2
          go_roundw
          case rel => exact ⟨k + 1, by omega, by go_num, by rw [keepAll_take HX.out, HQ.out]; exact H7.out, (HKP.out.trans ((HK3.out.trans HK6.out).mono (fun _ _ h => h.elim))).trans (HK7.out.mono (fun g _ e => by subst e; exact H.out.f))⟩
          case measure => simp [intOf]; omega
        · rw [hq] at htm hko
          have HQ := hid hko; clear hko hq
          go_wp2_with (first
            | (refine wpList_load_mid rfl 71 (.tmp 26) rfl g (k * 65) rfl (pcell x) _ HR.out Try.underlying71 rfl (by rw [infoPd, HPL.out]) ?_)
            | (refine wpList_store_row rfl 71 (.tmp 6) (.tmp 27) rfl (pcell x).toArray (pcell (0, zpg)).toArray (by rfl) (by rfl) (by exact HN3.out) (by simp [HPL.out, pcell_len, zpg_len]) (by rw [infoPd]; simp [HPL.out]) (all_oneCell_toArray (pcell_one _)) ?_; intro w3 hb3 hk3; have HB3 := hid hb3; have HK3 := hid (((Kept.refl (fun _ => False) wr).alloc _).trans' hk3 (fun g hg => .inr (by omega))); have b0 := HK3.out.cell b0 (fun h => h); have bc := HCC.out _ HK3.out; clear hb3 hk3))
          have HP3 := hid (HP.out.kept HK3.out (fun _ _ _ h => h))
          obtain ⟨c0, c1, c2', c3', c4, c5⟩ := cells6 HP3.out.r
          have d0 : w3.cell? ⟨wr.heap.size, 0, none⟩ = some (.int .i64 x.1) := row_cell HB3.out 0
          have HMM := hid (show ∃ L, MapIs w3 mb .i64 L ∧ (look L x.1 = some (.agg (u8s (keepAll S.last KB (S.since.take k) x.1)).toArray) ∨ look L x.1 = none ∧ (Value.agg (u8s (keepAll S.last KB (S.since.take k) x.1)).toArray) = .agg (u8s zpg).toArray) by
            obtain ⟨L, q1, q2⟩ := HP3.out.q
            exact ⟨L, q1, (q2 x.1).imp And.left (fun ⟨h1, h2⟩ => ⟨h1, by have h2 : keepAll S.last KB (S.since.take k) x.1 = zpg := h2; rw [h2]⟩)⟩)
          have L3 := hid (row_lt HP3.out.r)
          have LM3 := hid (show mb < w3.heap.size by obtain ⟨L, q1, _⟩ := HMM.out; exact q1.lt)
          have LW3 := hid (row_lt HB3.out)
          clear c0 c2' c3' c4 c5 b0 bc
          refine wp_region_till (fun w' => w'.cell? ⟨b, 1, none⟩ = some (.map (some mb)) ∧ w'.cell? ⟨wr.heap.size, 0, none⟩ = some (.int .i64 x.1) ∧ ∃ L, MapIs w' mb .i64 L ∧ (look L x.1 = some (.agg (u8s (keepAll S.last KB (S.since.take k) x.1)).toArray) ∨ look L x.1 = none ∧ (Value.agg (u8s (keepAll S.last KB (S.since.take k) x.1)).toArray) = .agg (u8s zpg).toArray)) 8 (by kernel_rfl) (by exact ⟨c1, d0, HMM.out⟩) (fun hHeld => ?_)
          refine till_pure 0 (some 39) (v := ?v5300) (by decide) rfl (by kernel_rfl) (by kernel_rfl) (by kernel_rfl) (by kernel_rfl) (by decide) (fun _ _ _ h => h) (Or.inl ⟨by rfl, ?y5300⟩) (by assumption) ?r5300
          case y5300 => (intro w hSw; clear hSw; go_simp; (try with_reducible rfl))
          simp only [Act.put, List.setIfInBounds_toArray, List.set_cons_zero, List.set_cons_succ]
          refine till_pure 1 (some 40) (v := ?v5301) (by decide) rfl (by kernel_rfl) (by kernel_rfl) (by kernel_rfl) (by kernel_rfl) (by decide) (fun _ _ _ h => h) (Or.inl ⟨by rfl, ?y5301⟩) (by assumption) ?r5301
          case y5301 => (intro w hSw; clear hSw; go_simp; (try with_reducible rfl))
          simp only [Act.put, List.setIfInBounds_toArray, List.set_cons_zero, List.set_cons_succ]
          refine till_pure 2 (some 41) (v := ?v5302) (by decide) rfl (by kernel_rfl) (by kernel_rfl) (by kernel_rfl) (by kernel_rfl) (by decide) (fun _ _ _ h => h) (Or.inl ⟨by rfl, ?y5302⟩) (by assumption) ?r5302
          case y5302 => (intro w hSw; clear hSw; go_simp; (try with_reducible rfl))
          simp only [Act.put, List.setIfInBounds_toArray, List.set_cons_zero, List.set_cons_succ]
          refine till_load 3 (some 42) [] (v := ?v5303) (by decide) rfl (by kernel_rfl) (by kernel_rfl) (by kernel_rfl) (by kernel_rfl) (by kernel_rfl) (by decide) (by decide) (fun _ _ _ h => h) (Or.inl ⟨by rfl, ?y5303⟩) (by assumption) ?r5303
          case y5303 => (intro w hSw; (try dsimp only at hSw); go_simp; (try with_reducible rfl))
          simp only [Act.put, List.setIfInBounds_toArray, List.set_cons_zero, List.set_cons_succ]
          refine till_pure 4 (some 43) (v := ?v5304) (by decide) rfl (by kernel_rfl) (by kernel_rfl) (by kernel_rfl) (by kernel_rfl) (by decide) (fun _ _ _ h => h) (Or.inl ⟨by rfl, ?y5304⟩) (by assumption) ?r5304
          case y5304 => (intro w hSw; clear hSw; go_simp; (try with_reducible rfl))
          simp only [Act.put, List.setIfInBounds_toArray, List.set_cons_zero, List.set_cons_succ]
          refine till_load 5 (some 44) [] (v := ?v5305) (by decide) rfl (by kernel_rfl) (by kernel_rfl) (by kernel_rfl) (by kernel_rfl) (by kernel_rfl) (by decide) (by decide) (fun _ _ _ h => h) (Or.inl ⟨by rfl, ?y5305⟩) (by assumption) ?r5305
          case y5305 => (intro w hSw; (try dsimp only at hSw); go_simp; (try with_reducible rfl))
          simp only [Act.put, List.setIfInBounds_toArray, List.set_cons_zero, List.set_cons_succ]
          refine till_load 6 (some 45) [] (v := .agg (u8s (keepAll S.last KB (S.since.take k) x.1)).toArray) (by decide) rfl (by kernel_rfl) (by kernel_rfl) (by kernel_rfl) (by kernel_rfl) (by kernel_rfl) (by decide) (by decide) (fun _ _ _ h => h) (yieldsIf_look (by rfl) 65 3 69 (.tmp 42) (.tmp 44) rfl mb .i64 x.1 rfl rfl Try.underlying65 Try.underlying3 _ zeroPg _ (fun _ h => h.2.2)) (by assumption) ?_
          simp only [Act.put, List.setIfInBounds_toArray, List.set_cons_zero, List.set_cons_succ]
          refine till_call 7 (by kernel_rfl) rfl (fun K hK => ?_)
          go_simp
          have hk4 := (Kept.refl (fun _ => False) w3).drew.alloc (.cells (u8s zpg).toArray 69)
          have hq4 : ∃ L, MapIs (w3.drew.alloc (.cells (u8s zpg).toArray 69)) mb .i64 L ∧ (look L x.1 = some (.agg (u8s (keepAll S.last KB (S.since.take k) x.1)).toArray) ∨ look L x.1 = none ∧ (Value.agg (u8s (keepAll S.last KB (S.since.take k) x.1)).toArray) = .agg (u8s zpg).toArray) := by
            obtain ⟨L, q1, q2⟩ := HMM.out
            exact ⟨L, q1.of_block (hk4.block _ LM3.out (fun h => h)), q2⟩
          have HN5 := hid (show (w3.drew.alloc (.cells (u8s zpg).toArray 69)).heap[w3.heap.size]? = some (.cells (u8s zpg).toArray 69 (0, 0)) from row_new w3.drew _)
          have HB4 := hid ((hk4.block _ LW3.out (fun h => h)).trans HB3.out)
          have HK4 := hid hk4
          try dsimp only []
          refine hK.out _ _ (by exact ⟨hk4.cell c1 (fun h => h), hk4.cell d0 (fun h => h), hq4⟩) (fun hHeld => ?_)
          clear hK K
          try simp only [Act.put, List.setIfInBounds_toArray, List.set_cons_zero, List.set_cons_succ]
          refine till_list [] (by kernel_rfl) (by kernel_rfl) (by decide) (by decide) ?_
          simp only [pickOps, List.getElem?_toArray, List.getElem?_cons_zero, List.getElem?_cons_succ]
          clear hk4 hq4 hHeld c1 d0
          go_wp2_with (first
            | fail
            | (refine wpList_store_row rfl 69 (.tmp 8) (.tmp 45) rfl (u8s (keepAll S.last KB (S.since.take k) x.1)).toArray (u8s zpg).toArray (by rfl) (by rfl) (by exact HN5.out) (by simp [u8s_len, zpg_len, HLL.out]) (by rw [infoPg]; simp [u8s_len, HLL.out]) (all_oneCell_toArray (u8s_one _)) ?_; intro w5 hb5 hk5; have HB5 := hid hb5; have HK5 := hid (HK4.out.trans' hk5 (fun g hg => .inr (by omega))); have HB6 := hid ((hk5.block _ (row_lt HB4.out) (by have := LW3.out; omega)).trans HB4.out); have d0 : w5.cell? ⟨wr.heap.size, 0, none⟩ = some (.int .i64 x.1) := row_cell HB6.out 0; clear hb5 hk5))
          refine wp_region_till (fun _ => True) 3 (by kernel_rfl) trivial (fun hHeld => ?_)
          refine till_pure 0 (some 59) (v := ?v6310) (by decide) rfl (by kernel_rfl) (by kernel_rfl) (by kernel_rfl) (by kernel_rfl) (by decide) (fun _ _ _ h => h) (Or.inl ⟨by rfl, ?y6310⟩) (by assumption) ?r6310
          case y6310 => (intro w hSw; clear hSw; go_simp; (try with_reducible rfl))
          simp only [Act.put, List.setIfInBounds_toArray, List.set_cons_zero, List.set_cons_succ]
          refine till_pure 1 (some 60) (v := ?v6311) (by decide) rfl (by kernel_rfl) (by kernel_rfl) (by kernel_rfl) (by kernel_rfl) (by decide) (fun _ _ _ h => h) (Or.inl ⟨by rfl, ?y6311⟩) (by assumption) ?r6311
          case y6311 => (intro w hSw; clear hSw; go_simp; (try with_reducible rfl))
          simp only [Act.put, List.setIfInBounds_toArray, List.set_cons_zero, List.set_cons_succ]
          refine till_pure 2 (some 61) (v := ?v6312) (by decide) rfl (by kernel_rfl) (by kernel_rfl) (by kernel_rfl) (by kernel_rfl) (by decide) (fun _ _ _ h => h) (Or.inl ⟨by rfl, ?y6312⟩) (by assumption) ?r6312
          case y6312 => (intro w hSw; clear hSw; go_simp; (try with_reducible rfl))
          simp only [Act.put, List.setIfInBounds_toArray, List.set_cons_zero, List.set_cons_succ]
          refine till_list [] (by kernel_rfl) (by kernel_rfl) (by decide) (by decide) ?_
          simp only [pickOps, List.getElem?_toArray, List.getElem?_cons_zero, List.getElem?_cons_succ]
          clear hHeld
          have e1 : (⟨wr.heap.size, 33, none⟩ : Addr) = ⟨wr.heap.size, 33, none⟩ := rfl
          have HSR := hid (pgDrop HB6.out)
          refine wpList_copy_some rfl (.tmp 59) (.tmp 61) 23 23 rfl 5 1 Try.underlying23 (by kernel_rfl) w3.heap.size 32 32 32 ⟨wr.heap.size, 33, none⟩ 32 32 (by rfl) (by rfl) (u8s (keepAll S.last KB (S.since.take k) x.1)).toArray 69 (by exact HB5.out) (u8s (x.2.drop 32)) 32 rfl (by simp [u8s_len, HXL.out]) (by exact HSR.out) (by simp [u8s_len, HXL.out, HLL.out]) (u8s_one _) ?_
          intro w6 cur6 hb6 hc6 hk6
          obtain rfl : cur6 = (u8s (keepB 3 (keepAll S.last KB (S.since.take k) x.1) x.2)).toArray := by
            apply Array.toList_inj.1
            rw [hc6.out]
            simp [u8s, keepB, HXL.out, HLL.out]
          have HB7 := hb6
          have HK6 := hid (HK5.out.drew.trans' hk6.out (fun g hg => .inr (by omega)))
          have d0 : w6.cell? ⟨wr.heap.size, 0, none⟩ = some (.int .i64 x.1) := hk6.out.cell (by simpa using d0) (by have := LW3.out; simp; omega)
          clear hb6 hc6 hk6 e1
          simp only [Act.put, List.setIfInBounds_toArray, List.set_cons_zero, List.set_cons_succ]
          go_wp2_with (refine wpList_load_row rfl 69 (.tmp 8) rfl _ rfl (by exact HB7.out) Try.underlying69 rfl (by exact szPg (keepB_len (k := 3) HLL.out HXL.out)) ?_)
          refine (put_any (HP.out.kept (HK3.out.trans HK6.out) (fun _ _ _ h => h)) x.1 (keepB 3 (keepAll S.last KB (S.since.take k) x.1) x.2) (by exact keepB_len (k := 3) HLL.out HXL.out)).mono ?_
          rintro e w7 ⟨rfl, h7, hk7⟩
          have H7 := hid h7; have HK7 := hid hk7; clear h7 hk7
          go_wp2
          go_roundw
          case rel => exact ⟨k + 1, by omega, by go_num, by rw [keepAll_take HX.out, HQ.out]; exact H7.out, (HKP.out.trans ((HK3.out.trans HK6.out).mono (fun _ _ h => h.elim))).trans (HK7.out.mono (fun g _ e => by subst e; exact H.out.f))⟩
          case measure => simp [intOf]; omega
      · have HCC := hid (show ∀ w3 : World, Kept (fun _ => False) wr w3 → True from fun _ _ => trivial)
        have HQ := hid (show keepOf KB k = 0 by simp [keepOf, hkk])
        go_wp2_with (first
          | (refine wpList_load_mid rfl 71 (.tmp 26) rfl g (k * 65) rfl (pcell x) _ HR.out Try.underlying71 rfl (by rw [infoPd, HPL.out]) ?_)
          | (refine wpList_store_row rfl 71 (.tmp 6) (.tmp 27) rfl (pcell x).toArray (pcell (0, zpg)).toArray (by rfl) (by rfl) (by exact HN3.out) (by simp [HPL.out, pcell_len, zpg_len]) (by rw [infoPd]; simp [HPL.out]) (all_oneCell_toArray (pcell_one _)) ?_; intro w3 hb3 hk3; have HB3 := hid hb3; have HK3 := hid (((Kept.refl (fun _ => False) wr).alloc _).trans' hk3 (fun g hg => .inr (by omega))); have b0 := HK3.out.cell b0 (fun h => h); have bc := HCC.out _ HK3.out; clear hb3 hk3))
        have HP3 := hid (HP.out.kept HK3.out (fun _ _ _ h => h))
        obtain ⟨c0, c1, c2', c3', c4, c5⟩ := cells6 HP3.out.r
        have d0 : w3.cell? ⟨wr.heap.size, 0, none⟩ = some (.int .i64 x.1) := row_cell HB3.out 0
        have HMM := hid (show ∃ L, MapIs w3 mb .i64 L ∧ (look L x.1 = some (.agg (u8s (keepAll S.last KB (S.since.take k) x.1)).toArray) ∨ look L x.1 = none ∧ (Value.agg (u8s (keepAll S.last KB (S.since.take k) x.1)).toArray) = .agg (u8s zpg).toArray) by
          obtain ⟨L, q1, q2⟩ := HP3.out.q
          exact ⟨L, q1, (q2 x.1).imp And.left (fun ⟨h1, h2⟩ => ⟨h1, by have h2 : keepAll S.last KB (S.since.take k) x.1 = zpg := h2; rw [h2]⟩)⟩)
        have L3 := hid (row_lt HP3.out.r)
        have LM3 := hid (show mb < w3.heap.size by obtain ⟨L, q1, _⟩ := HMM.out; exact q1.lt)
        have LW3 := hid (row_lt HB3.out)
        clear c0 c2' c3' c4 c5 b0 bc
        refine wp_region_till (fun w' => w'.cell? ⟨b, 1, none⟩ = some (.map (some mb)) ∧ w'.cell? ⟨wr.heap.size, 0, none⟩ = some (.int .i64 x.1) ∧ ∃ L, MapIs w' mb .i64 L ∧ (look L x.1 = some (.agg (u8s (keepAll S.last KB (S.since.take k) x.1)).toArray) ∨ look L x.1 = none ∧ (Value.agg (u8s (keepAll S.last KB (S.since.take k) x.1)).toArray) = .agg (u8s zpg).toArray)) 8 (by kernel_rfl) (by exact ⟨c1, d0, HMM.out⟩) (fun hHeld => ?_)
        refine till_pure 0 (some 39) (v := ?v100) (by decide) rfl (by kernel_rfl) (by kernel_rfl) (by kernel_rfl) (by kernel_rfl) (by decide) (fun _ _ _ h => h) (Or.inl ⟨by rfl, ?y100⟩) (by assumption) ?r100
        case y100 => (intro w hSw; clear hSw; go_simp; (try with_reducible rfl))
        simp only [Act.put, List.setIfInBounds_toArray, List.set_cons_zero, List.set_cons_succ]
        refine till_pure 1 (some 40) (v := ?v101) (by decide) rfl (by kernel_rfl) (by kernel_rfl) (by kernel_rfl) (by kernel_rfl) (by decide) (fun _ _ _ h => h) (Or.inl ⟨by rfl, ?y101⟩) (by assumption) ?r101
        case y101 => (intro w hSw; clear hSw; go_simp; (try with_reducible rfl))
        simp only [Act.put, List.setIfInBounds_toArray, List.set_cons_zero, List.set_cons_succ]
        refine till_pure 2 (some 41) (v := ?v102) (by decide) rfl (by kernel_rfl) (by kernel_rfl) (by kernel_rfl) (by kernel_rfl) (by decide) (fun _ _ _ h => h) (Or.inl ⟨by rfl, ?y102⟩) (by assumption) ?r102
        case y102 => (intro w hSw; clear hSw; go_simp; (try with_reducible rfl))
        simp only [Act.put, List.setIfInBounds_toArray, List.set_cons_zero, List.set_cons_succ]
        refine till_load 3 (some 42) [] (v := ?v103) (by decide) rfl (by kernel_rfl) (by kernel_rfl) (by kernel_rfl) (by kernel_rfl) (by kernel_rfl) (by decide) (by decide) (fun _ _ _ h => h) (Or.inl ⟨by rfl, ?y103⟩) (by assumption) ?r103
        case y103 => (intro w hSw; (try dsimp only at hSw); go_simp; (try with_reducible rfl))
        simp only [Act.put, List.setIfInBounds_toArray, List.set_cons_zero, List.set_cons_succ]
        refine till_pure 4 (some 43) (v := ?v104) (by decide) rfl (by kernel_rfl) (by kernel_rfl) (by kernel_rfl) (by kernel_rfl) (by decide) (fun _ _ _ h => h) (Or.inl ⟨by rfl, ?y104⟩) (by assumption) ?r104
        case y104 => (intro w hSw; clear hSw; go_simp; (try with_reducible rfl))
        simp only [Act.put, List.setIfInBounds_toArray, List.set_cons_zero, List.set_cons_succ]
        refine till_load 5 (some 44) [] (v := ?v105) (by decide) rfl (by kernel_rfl) (by kernel_rfl) (by kernel_rfl) (by kernel_rfl) (by kernel_rfl) (by decide) (by decide) (fun _ _ _ h => h) (Or.inl ⟨by rfl, ?y105⟩) (by assumption) ?r105
        case y105 => (intro w hSw; (try dsimp only at hSw); go_simp; (try with_reducible rfl))
        simp only [Act.put, List.setIfInBounds_toArray, List.set_cons_zero, List.set_cons_succ]
        refine till_load 6 (some 45) [] (v := .agg (u8s (keepAll S.last KB (S.since.take k) x.1)).toArray) (by decide) rfl (by kernel_rfl) (by kernel_rfl) (by kernel_rfl) (by kernel_rfl) (by kernel_rfl) (by decide) (by decide) (fun _ _ _ h => h) (yieldsIf_look (by rfl) 65 3 69 (.tmp 42) (.tmp 44) rfl mb .i64 x.1 rfl rfl Try.underlying65 Try.underlying3 _ zeroPg _ (fun _ h => h.2.2)) (by assumption) ?_
        simp only [Act.put, List.setIfInBounds_toArray, List.set_cons_zero, List.set_cons_succ]
        refine till_call 7 (by kernel_rfl) rfl (fun K hK => ?_)
        go_simp
        have hk4 := (Kept.refl (fun _ => False) w3).drew.alloc (.cells (u8s zpg).toArray 69)
        have hq4 : ∃ L, MapIs (w3.drew.alloc (.cells (u8s zpg).toArray 69)) mb .i64 L ∧ (look L x.1 = some (.agg (u8s (keepAll S.last KB (S.since.take k) x.1)).toArray) ∨ look L x.1 = none ∧ (Value.agg (u8s (keepAll S.last KB (S.since.take k) x.1)).toArray) = .agg (u8s zpg).toArray) := by
          obtain ⟨L, q1, q2⟩ := HMM.out
          exact ⟨L, q1.of_block (hk4.block _ LM3.out (fun h => h)), q2⟩
        have HN5 := hid (show (w3.drew.alloc (.cells (u8s zpg).toArray 69)).heap[w3.heap.size]? = some (.cells (u8s zpg).toArray 69 (0, 0)) from row_new w3.drew _)
        have HB4 := hid ((hk4.block _ LW3.out (fun h => h)).trans HB3.out)
        have HK4 := hid hk4
        try dsimp only []
        refine hK.out _ _ (by exact ⟨hk4.cell c1 (fun h => h), hk4.cell d0 (fun h => h), hq4⟩) (fun hHeld => ?_)
        clear hK K
        try simp only [Act.put, List.setIfInBounds_toArray, List.set_cons_zero, List.set_cons_succ]
        refine till_list [] (by kernel_rfl) (by kernel_rfl) (by decide) (by decide) ?_
        simp only [pickOps, List.getElem?_toArray, List.getElem?_cons_zero, List.getElem?_cons_succ]
        clear hk4 hq4 hHeld c1 d0
        go_wp2_with (first
          | (refine wpList_load_row rfl 69 (.tmp 8) rfl _ rfl (by exact HB5.out) Try.underlying69 rfl (by exact szPg HLL.out) ?_)
          | (refine wpList_store_row rfl 69 (.tmp 8) (.tmp 45) rfl (u8s (keepAll S.last KB (S.since.take k) x.1)).toArray (u8s zpg).toArray (by rfl) (by rfl) (by exact HN5.out) (by simp [u8s_len, zpg_len, HLL.out]) (by rw [infoPg]; simp [u8s_len, HLL.out]) (all_oneCell_toArray (u8s_one _)) ?_; intro w5 hb5 hk5; have HB5 := hid hb5; have HK5 := hid (HK4.out.trans' hk5 (fun g hg => .inr (by omega))); have HB6 := hid ((hk5.block _ (row_lt HB4.out) (by have := LW3.out; omega)).trans HB4.out); have d0 : w5.cell? ⟨wr.heap.size, 0, none⟩ = some (.int .i64 x.1) := row_cell HB6.out 0; clear hb5 hk5))
        have HK6 := hid HK5.out
        refine (put_any (HP.out.kept (HK3.out.trans HK6.out) (fun _ _ _ h => h)) x.1 (keepAll S.last KB (S.since.take k) x.1) (by exact keepB_len (k := 0) HLL.out HXL.out)).mono ?_
        rintro e w7 ⟨rfl, h7, hk7⟩
        have H7 := hid h7; have HK7 := hid hk7; clear h7 hk7
        go_wp2
        go_roundw
        case rel => exact ⟨k + 1, by omega, by go_num, by rw [keepAll_take HX.out, HQ.out]; exact H7.out, (HKP.out.trans ((HK3.out.trans HK6.out).mono (fun _ _ h => h.elim))).trans (HK7.out.mono (fun g _ e => by subst e; exact H.out.f))⟩
        case measure => simp [intOf]; omega
    · have hkn : k = S.since.length := by omega
      subst hkn
      obtain ⟨c0, c1, c2, c3, c4, c5⟩ := cells6 HP.out.r
      have f2 := row_free HP.out.r 2
      have f3 := row_free HP.out.r 3
      have f4 := row_free HP.out.r 4
      have h2 := row_set HP.out.r 2 (.slice none 0 0)
      have h3 := row_set h2 3 (.bool false)
      have h4 := row_set h3 4 (.int .i64 0)
      have H4 := hid h4
      clear c0 c1 c5 h2 h3 h4
      go_wp2
      go_ret
      have hp := HP.out
      rw [List.take_length] at hp
      refine ⟨rfl, ⟨mb, none, 0, ?_⟩, ?_⟩
      · refine ⟨H4.out, ?_, Own.nil _ _ _, hp.m, hp.f, by simp [Value.ownBlock, Plt.restart], hp.l, by simp [Plt.restart]⟩
        obtain ⟨L, q1, q2⟩ := hp.q
        refine ⟨L, q1.of_block ?_, q2⟩
        have k0 := (((Kept.refl (fun g => g = b) wr).setCell (p := ⟨b, 2, none⟩) (.inl rfl) (.slice none 0 0)).setCell (p := ⟨b, 3, none⟩) (.inl rfl) (.bool false)).setCell (p := ⟨b, 4, none⟩) (.inl rfl) (.int .i64 0)
        exact k0.block _ q1.lt (fun e => hp.ne.1 e.symm)
      · exact (((((Kept.refl F w).alloc _).trans HKP.out).setCell (.inl H.out.m) _).setCell (.inl H.out.m) _).setCell (.inl H.out.m) _
end Go.Proofs.Ytnfdkpjklenllaa
