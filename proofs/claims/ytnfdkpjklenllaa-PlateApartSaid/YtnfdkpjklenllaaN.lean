/- PlateApart's walk. -/
import Derived.Test.YtnfdkpjklenllaaM
namespace Go.Proofs.Ytnfdkpjklenllaa
open Go.RowKit

set_option maxRecDepth 100000 in
set_option maxHeartbeats 8000000 in
theorem apart_walk (W : World) (args : Array Value) (h : RdAll Try.prog W Try.f4.params.toList args.toList) :
    Calls Try.prog 4 args W fun e W' => e = .returned (.bool true) ∧ Below W.heap.size W W' := by
  rw [Try.params4] at h
  obtain ⟨v0, v1, v2, v3, rfl⟩ : ∃ v0 v1 v2 v3, args = #[v0, v1, v2, v3] := by
    rcases args with ⟨_ | ⟨v0, _ | ⟨v1, _ | ⟨v2, _ | ⟨v3, _ | ⟨v4, l⟩⟩⟩⟩⟩⟩ <;> simp [RdAll] at h
    exact ⟨v0, v1, v2, v3, rfl⟩
  obtain ⟨r0, r1, r2, r3, _⟩ := h
  obtain ⟨sa, sl, sc, rfl, h0⟩ := r0.slice Try.underlying22
  obtain ⟨ops, rfl, hscr⟩ := scr_read h0
  obtain ⟨ii, rfl, wi⟩ := r1.int Try.underlying3
  obtain ⟨aa, al, ac, rfl, ha⟩ := r2.slice Try.underlying23
  obtain ⟨ba, bl, bc, rfl, hb⟩ := r3.slice Try.underlying23
  obtain ⟨la, rfl, hla, _, _⟩ := ha.bytes
  obtain ⟨lb, rfl, hlb, _, _⟩ := hb.bytes
  obtain ⟨la', cuta⟩ := cut_of hla
  obtain ⟨lb', cutb⟩ := cut_of hlb
  have HSC := hid hscr; have HCA := hid cuta; have HCB := hid cutb
  obtain ⟨j, hj⟩ : ∃ j, j = ii % 8 := ⟨_, rfl⟩
  obtain ⟨j0, j8, u1, u2, u3⟩ := eight hj
  have a1 := cuta.le; have a2 := cuta.cap; have a3 := cuta.mi; have a4 := cuta.b1; have a5 := cuta.b2
  have b1 := cutb.le; have b2 := cutb.cap; have b3 := cutb.mi; have b4 := cutb.b1; have b5 := cutb.b2
  clear r0 r1 r2 r3 h0 ha hb hla hlb hscr wi cuta cutb hj
  go_enter Try.func4, Try.ntmps4
  go_wp2_with fail
  refine (awake_any _).mono ?_; rintro e w1 ⟨rfl, hk1⟩
  have K1 := hid hk1; clear hk1
  go_wp2_with fail
  refine (some_ok (HSC.out.same K1.out)).mono ?_
  rintro e w2 ⟨b, rfl, hp, hk⟩
  have K2 := hid (K1.out.trans hk); have P2 := hid (show PlAt (fun g => W.heap.size ≤ g ∧ g < w2.heap.size) w2 b (someS ops) from hp.bound.mono (fun g hg => ⟨Nat.le_trans K1.out.size hg.1, hg.2⟩))
  clear hp hk K1
  obtain ⟨S, hS⟩ : ∃ S, someS ops = S := ⟨_, rfl⟩
  have HC := hid (show Calm S 61 from hS ▸ calm_some ops); have HS0 := hid (show S.since = [] from hS ▸ some_since ops)
  rw [hS] at P2
  clear hS
  go_wp2_with fail
  obtain ⟨mb, ao, cap, hpl⟩ := P2.out
  refine (pages_ok hpl HC.out.off (by have := HC.out.since; omega) 8 HC.out.n (by decide)).mono ?_
  rintro e w3 ⟨pa, pc, rfl, hg3, hk3⟩
  have G3 := hid hg3; have K3 := hid (K2.out.trans hk3); have P3 := hid (hpl.kept hk3 (fun _ _ _ h => h)); have Z3 := hid hk3.size
  have SPL := hid (show ∀ i, (S.page i).length = 64 from fun i => by rw [page_nil HS0.out]; exact hpl.l i)
  clear hpl hg3 hk3
  go_wp2_with fail
  refine wp_region_till (fun _ => True) 100 (by kernel_rfl) trivial (fun hHeld => ?_)
  refine till_pure 0 (some 33) (v := ?v100) (by decide) rfl (by kernel_rfl) (by kernel_rfl) (by kernel_rfl) (by kernel_rfl) (by decide) (fun _ _ _ h => h) (Or.inl ⟨by rfl, ?y100⟩) (by assumption) ?r100
  case y100 => (intro w hSw; clear hSw; go_simp; (try with_reducible rfl))
  simp only [Act.put, List.setIfInBounds_toArray, List.set_cons_zero, List.set_cons_succ]
  refine till_pure 1 (some 34) (v := ?v101) (by decide) rfl (by kernel_rfl) (by kernel_rfl) (by kernel_rfl) (by kernel_rfl) (by decide) (fun _ _ _ h => h) (Or.inl ⟨by rfl, ?y101⟩) (by assumption) ?r101
  case y101 => (intro w hSw; clear hSw; go_simp; (try with_reducible rfl))
  simp only [Act.put, List.setIfInBounds_toArray, List.set_cons_zero, List.set_cons_succ]
  refine till_pure 2 (some 35) (v := ?v102) (by decide) rfl (by kernel_rfl) (by kernel_rfl) (by kernel_rfl) (by kernel_rfl) (by decide) (fun _ _ _ h => h) (Or.inl ⟨by rfl, ?y102⟩) (by assumption) ?r102
  case y102 => (intro w hSw; clear hSw; go_simp; (try with_reducible rfl))
  simp only [Act.put, List.setIfInBounds_toArray, List.set_cons_zero, List.set_cons_succ]
  refine till_pure 3 (some 36) (v := ?v103) (by decide) rfl (by kernel_rfl) (by kernel_rfl) (by kernel_rfl) (by kernel_rfl) (by decide) (fun _ _ _ h => h) (Or.inl ⟨by rfl, ?y103⟩) (by assumption) ?r103
  case y103 => (intro w hSw; clear hSw; go_simp; (try with_reducible rfl))
  simp only [Act.put, List.setIfInBounds_toArray, List.set_cons_zero, List.set_cons_succ]
  refine till_pure 4 (some 37) (v := ?v104) (by decide) rfl (by kernel_rfl) (by kernel_rfl) (by kernel_rfl) (by kernel_rfl) (by decide) (fun _ _ _ h => h) (Or.inl ⟨by rfl, ?y104⟩) (by assumption) ?r104
  case y104 => (intro w hSw; clear hSw; go_simp; (try with_reducible rfl))
  simp only [Act.put, List.setIfInBounds_toArray, List.set_cons_zero, List.set_cons_succ]
  refine till_pure 5 (some 38) (v := ?v105) (by decide) rfl (by kernel_rfl) (by kernel_rfl) (by kernel_rfl) (by kernel_rfl) (by decide) (fun _ _ _ h => h) (Or.inl ⟨by rfl, ?y105⟩) (by assumption) ?r105
  case y105 => (intro w hSw; clear hSw; go_simp; (try with_reducible rfl))
  simp only [Act.put, List.setIfInBounds_toArray, List.set_cons_zero, List.set_cons_succ]
  refine till_pure 6 (some 39) (v := ?v106) (by decide) rfl (by kernel_rfl) (by kernel_rfl) (by kernel_rfl) (by kernel_rfl) (by decide) (fun _ _ _ h => h) (Or.inl ⟨by rfl, ?y106⟩) (by assumption) ?r106
  case y106 => (intro w hSw; clear hSw; go_simp; (try with_reducible rfl))
  simp only [Act.put, List.setIfInBounds_toArray, List.set_cons_zero, List.set_cons_succ]
  refine till_pure 7 (some 40) (v := ?v107) (by decide) rfl (by kernel_rfl) (by kernel_rfl) (by kernel_rfl) (by kernel_rfl) (by decide) (fun _ _ _ h => h) (Or.inl ⟨by rfl, ?y107⟩) (by assumption) ?r107
  case y107 => (intro w hSw; clear hSw; go_simp; (try with_reducible rfl))
  simp only [Act.put, List.setIfInBounds_toArray, List.set_cons_zero, List.set_cons_succ]
  refine till_pure 8 (some 41) (v := ?v108) (by decide) rfl (by kernel_rfl) (by kernel_rfl) (by kernel_rfl) (by kernel_rfl) (by decide) (fun _ _ _ h => h) (Or.inl ⟨by rfl, ?y108⟩) (by assumption) ?r108
  case y108 => (intro w hSw; clear hSw; go_simp; (try with_reducible rfl))
  simp only [Act.put, List.setIfInBounds_toArray, List.set_cons_zero, List.set_cons_succ]
  refine till_pure 9 (some 42) (v := ?v109) (by decide) rfl (by kernel_rfl) (by kernel_rfl) (by kernel_rfl) (by kernel_rfl) (by decide) (fun _ _ _ h => h) (Or.inl ⟨by rfl, ?y109⟩) (by assumption) ?r109
  case y109 => (intro w hSw; clear hSw; go_simp; (try with_reducible rfl))
  simp only [Act.put, List.setIfInBounds_toArray, List.set_cons_zero, List.set_cons_succ]
  refine till_pure 10 (some 2) (v := ?v110) (by decide) rfl (by kernel_rfl) (by kernel_rfl) (by kernel_rfl) (by kernel_rfl) (by decide) (fun _ _ _ h => h) (Or.inl ⟨by rfl, ?y110⟩) (by assumption) ?r110
  case y110 => (intro w hSw; clear hSw; go_simp; (try with_reducible rfl))
  simp only [Act.put, List.setIfInBounds_toArray, List.set_cons_zero, List.set_cons_succ]
  refine till_pure 11 (some 3) (v := ?v111) (by decide) rfl (by kernel_rfl) (by kernel_rfl) (by kernel_rfl) (by kernel_rfl) (by decide) (fun _ _ _ h => h) (Or.inl ⟨by rfl, ?y111⟩) (by assumption) ?r111
  case y111 => (intro w hSw; clear hSw; go_simp; (try with_reducible rfl))
  simp only [Act.put, List.setIfInBounds_toArray, List.set_cons_zero, List.set_cons_succ]
  refine till_done (by kernel_rfl) ?_ _
  clear hHeld a1 a2 a3 a4 a5 b1 b2 b3 b4 b5 u1 u2 u3
  go_wp2_with fail
  refine (twin_any (by exact (HCA.out.byt.kept K3.out.drew (fun _ _ h => h)).bts) (by have := HCA.out.len; omega)).mono ?_
  rintro e w4 ⟨ta, tc, rfl, ho4, _, hk4⟩
  have HO4 := hid ho4; have K4 := hid (Kept.of_drew hk4); clear ho4 hk4
  go_wp2_with fail
  refine (write_ok (P3.out.kept K4.out (fun _ _ _ h => h)) (HC.out.small (by omega)) HC.out.off (by have := HC.out.since; omega) j j0 (by rw [HC.out.n]; exact j8) HO4.out.byt (by have := HCA.out.len; omega)).mono ?_
  rintro e w5 ⟨rfl, ⟨F5, hp5, hf5⟩, hk5⟩
  have C5 := hid (HC.out.add j la').tick
  have hdn : (tick (S.add j la')).down = 0 := by simp only [Plt.down, C5.out.off]; rfl
  rw [hdn]
  have K5 := hid ((K3.out.trans K4.out).trans' hk5 (fun g hg => .inr hg.1))
  have P5 := hid (show PlAt (fun g => (W.heap.size ≤ g ∧ (g < w2.heap.size ∨ w3.heap.size ≤ g)) ∧ g < w5.heap.size) w5 b (tick (S.add j la')) from hp5.bound.mono (fun g hg => ⟨by rcases hf5 g hg.1 with h | h; exact ⟨h.1, .inl h.2⟩; have := K3.out.size; have := K4.out.size; omega, hg.2⟩))
  have G5 := hid ((G3.out.same K4.out).kept hk5 (fun g h1 _ h2 => by have := h1.1; have := h2.2; omega))
  have Z5 := hid (show w3.heap.size ≤ w5.heap.size from Nat.le_trans K4.out.size hk5.size)
  clear hp5 hf5 hk5 hdn
  go_wp2_with fail
  refine (twin_any (by exact (HCB.out.byt.kept K5.out (fun _ _ h => h)).bts) (by have := HCB.out.len; omega)).mono ?_
  rintro e w6 ⟨tb, td, rfl, ho6, _, hk6⟩
  have HO6 := hid ho6; have K6 := hid hk6; clear ho6 hk6
  go_wp2_with fail
  obtain ⟨mb, ao, cap, hpl⟩ := P5.out
  refine (write_ok (hpl.kept K6.out (fun _ _ _ h => h)) (C5.out.small (by omega)) C5.out.off (by have := C5.out.since; omega) j j0 (by rw [C5.out.n]; exact j8) HO6.out.byt (by have := HCB.out.len; omega)).mono ?_
  rintro e w7 ⟨rfl, ⟨F7, hp7, hf7⟩, hk7⟩
  have C7 := hid (C5.out.add j lb').tick
  have hdn : (tick ((tick (S.add j la')).add j lb')).down = 0 := by simp only [Plt.down, C7.out.off]; rfl
  rw [hdn]
  have K7 := hid ((K5.out.trans K6.out).trans' hk7 (fun g hg => .inr hg.1.1))
  have P7 := hid (show PlAt (fun g => (W.heap.size ≤ g ∧ (g < w2.heap.size ∨ w3.heap.size ≤ g)) ∧ g < w7.heap.size) w7 b (tick ((tick (S.add j la')).add j lb')) from hp7.bound.mono (fun g hg => ⟨by rcases hf7 g hg.1 with h | h; exact h.1; have := K3.out.size; have := Z5.out; have := K6.out.size; omega, hg.2⟩))
  have G7 := hid ((G5.out.same K6.out).kept hk7 (fun g h1 _ h2 => by have := h1.1; have := h1.2; have := h2.1.2; omega))
  have Z7 := hid (show w3.heap.size ≤ w7.heap.size from Nat.le_trans Z5.out (Nat.le_trans K6.out.size hk7.size))
  clear hpl hp7 hf7 hk7 hdn
  go_wp2_with fail
  obtain ⟨mb, ao, cap, hpl⟩ := P7.out
  refine (flush_ok hpl (C7.out.small (by omega)) C7.out.off (by have := C7.out.since; omega) C7.out.tick.off).mono ?_
  rintro e w8 ⟨rfl, hp8, hk8⟩
  have C8 := hid C7.out.tick.flushed
  have K8 := hid (K7.out.trans' hk8 (fun g hg => .inr hg.1.1))
  have P8 := hid hp8
  have G8 := hid (G7.out.kept hk8 (fun g h1 _ h2 => by have := h1.1; have := h1.2; have := h2.1.2; omega))
  clear hpl hp8 hk8
  have hpg : ∀ i, (tick (tick ((tick (S.add j la')).add j lb'))).flushed.page i = if i = j then pad lb' else S.page i := fun i => by
    rw [page_flushed, page_nil HS0.out]
    show lastAll S.last ((S.since ++ [(j, pad la')]) ++ [(j, pad lb')]) i = _
    rw [HS0.out]
    simp only [lastAll, List.nil_append, List.singleton_append, List.foldl_cons, List.foldl_nil, upd]
    by_cases hij : i = j <;> simp [hij]
  generalize (tick (tick ((tick (S.add j la')).add j lb'))).flushed = T at P8 C8 hpg
  have HPG := hid hpg; clear hpg
  go_wp2_with fail
  obtain ⟨mb, ao, cap, hpl⟩ := P8.out
  have TL := hid hpl.l; have TS := hid hpl.s
  refine (pages_ok hpl C8.out.off (by have := C8.out.since; omega) 8 C8.out.n (by decide)).mono ?_
  rintro e w9 ⟨qa, qc, rfl, hg9, hk9⟩
  have H9 := hid hg9; have G9 := hid (G8.out.same hk9); have K9 := hid (K8.out.trans hk9)
  have TPL := hid (show ∀ i, (T.page i).length = 64 from fun i => lastAll_len TL.out T.since TS.out i)
  clear hpl hg9 hk9
  obtain ⟨J, hJ⟩ : ∃ J : Nat, j = (J : Int) := ⟨j.toNat, by omega⟩
  subst hJ
  have hJ8 : J < 8 := by omega
  obtain ⟨qg, qc', nb, e9, q1, q2, q3, q4, q5⟩ := H9.out.at TPL.out J hJ8
  simp only [Value.slice.injEq] at e9
  obtain ⟨rfl, _, rfl⟩ := e9
  unfold maxLen at q2
  have Q5 := hid q5; clear q4 q5
  obtain ⟨m, hm⟩ : ∃ m : Nat, m = 64 - lb'.length := ⟨_, rfl⟩
  have hz1 : 64 - (lb'.length : Int) = (m : Int) := by have := HCB.out.len; omega
  have hz2 : IntKind.i64.wrap (m : Int) = (m : Int) := IntWalk.i64_in _ (by omega)
  have hm64 : lb'.length + m = 64 := by have := HCB.out.len; omega
  have hpad : pad lb' = lb' ++ List.replicate m 0 := by rw [hm]; rfl
  have HPA := hid hpad
  clear hm hpad
  go_wp2_with fail
  refine wp_region_till (fun w' => w'.cell? ⟨qg, J, none⟩ = some (.slice (some ⟨nb, 0, none⟩) 64 64)) 13 (by kernel_rfl) (by exact q3) (fun hHeld => ?_)
  refine till_pure 0 (some 71) (v := ?v200) (by decide) rfl (by kernel_rfl) (by kernel_rfl) (by kernel_rfl) (by kernel_rfl) (by decide) (fun _ _ _ h => h) (Or.inl ⟨by rfl, ?y200⟩) (by assumption) ?r200
  case y200 => (intro w hSw; clear hSw; go_simp; (try with_reducible rfl))
  simp only [Act.put, List.setIfInBounds_toArray, List.set_cons_zero, List.set_cons_succ]
  refine till_pure 1 (some 72) (v := ?v201) (by decide) rfl (by kernel_rfl) (by kernel_rfl) (by kernel_rfl) (by kernel_rfl) (by decide) (fun _ _ _ h => h) (Or.inl ⟨by rfl, ?y201⟩) (by assumption) ?r201
  case y201 => (intro w hSw; clear hSw; go_simp; (try with_reducible rfl))
  simp only [Act.put, List.setIfInBounds_toArray, List.set_cons_zero, List.set_cons_succ]
  refine till_pure 2 (some 73) (v := ?v202) (by decide) rfl (by kernel_rfl) (by kernel_rfl) (by kernel_rfl) (by kernel_rfl) (by decide) (fun _ _ _ h => h) (Or.inl ⟨by rfl, ?y202⟩) (by assumption) ?r202
  case y202 => (intro w hSw; clear hSw; go_simp; (try with_reducible rfl))
  simp only [Act.put, List.setIfInBounds_toArray, List.set_cons_zero, List.set_cons_succ]
  refine till_pure 3 (some 74) (v := ?v203) (by decide) rfl (by kernel_rfl) (by kernel_rfl) (by kernel_rfl) (by kernel_rfl) (by decide) (fun _ _ _ h => h) (Or.inl ⟨by rfl, ?y203⟩) (by assumption) ?r203
  case y203 => (intro w hSw; clear hSw; go_simp; (try with_reducible rfl))
  simp only [Act.put, List.setIfInBounds_toArray, List.set_cons_zero, List.set_cons_succ]
  refine till_pure 4 (some 75) (v := ?v204) (by decide) rfl (by kernel_rfl) (by kernel_rfl) (by kernel_rfl) (by kernel_rfl) (by decide) (fun _ _ _ h => h) (Or.inl ⟨by rfl, ?y204⟩) (by assumption) ?r204
  case y204 => (intro w hSw; clear hSw; go_simp; (try with_reducible rfl))
  simp only [Act.put, List.setIfInBounds_toArray, List.set_cons_zero, List.set_cons_succ]
  refine till_pure 5 (some 76) (v := ?v205) (by decide) rfl (by kernel_rfl) (by kernel_rfl) (by kernel_rfl) (by kernel_rfl) (by decide) (fun _ _ _ h => h) (Or.inl ⟨by rfl, ?y205⟩) (by assumption) ?r205
  case y205 => (intro w hSw; clear hSw; go_simp; (try with_reducible rfl))
  simp only [Act.put, List.setIfInBounds_toArray, List.set_cons_zero, List.set_cons_succ]
  refine till_load 6 (some 77) [] (v := ?v206) (by decide) rfl (by kernel_rfl) (by kernel_rfl) (by kernel_rfl) (by kernel_rfl) (by kernel_rfl) (by decide) (by decide) (fun _ _ _ h => h) (Or.inl ⟨by rfl, ?y206⟩) (by assumption) ?r206
  case y206 => (intro w hSw; (try dsimp only at hSw); go_simp; (try with_reducible rfl))
  simp only [Act.put, List.setIfInBounds_toArray, List.set_cons_zero, List.set_cons_succ]
  refine till_pure 7 (some 78) (v := ?v207) (by decide) rfl (by kernel_rfl) (by kernel_rfl) (by kernel_rfl) (by kernel_rfl) (by decide) (fun _ _ _ h => h) (Or.inl ⟨by rfl, ?y207⟩) (by assumption) ?r207
  case y207 => (intro w hSw; clear hSw; go_simp; (try with_reducible rfl))
  simp only [Act.put, List.setIfInBounds_toArray, List.set_cons_zero, List.set_cons_succ]
  refine till_pure 9 (some 80) (v := ?v209) (by decide) rfl (by kernel_rfl) (by kernel_rfl) (by kernel_rfl) (by kernel_rfl) (by decide) (fun _ _ _ h => h) (Or.inl ⟨by rfl, ?y209⟩) (by assumption) ?r209
  case y209 => (intro w hSw; clear hSw; go_simp; (try with_reducible rfl))
  simp only [Act.put, List.setIfInBounds_toArray, List.set_cons_zero, List.set_cons_succ]
  refine till_pure 10 (some 81) (v := ?v210) (by decide) rfl (by kernel_rfl) (by kernel_rfl) (by kernel_rfl) (by kernel_rfl) (by decide) (fun _ _ _ h => h) (Or.inl ⟨by rfl, ?y210⟩) (by assumption) ?r210
  case y210 => (intro w hSw; clear hSw; go_simp; (try with_reducible rfl))
  simp only [Act.put, List.setIfInBounds_toArray, List.set_cons_zero, List.set_cons_succ]
  refine till_pure 11 (some 82) (v := ?v211) (by decide) rfl (by kernel_rfl) (by kernel_rfl) (by kernel_rfl) (by kernel_rfl) (by decide) (fun _ _ _ h => h) (Or.inl ⟨by rfl, ?y211⟩) (by assumption) ?r211
  case y211 => (intro w hSw; clear hSw; go_simp; (try with_reducible rfl))
  simp only [Act.put, List.setIfInBounds_toArray, List.set_cons_zero, List.set_cons_succ]
  refine till_call 8 (by kernel_rfl) rfl (fun K hK => ?_)
  go_simp
  refine (twin_any (by exact (HCB.out.byt.kept K9.out.drew (fun _ _ h => h)).bts) (by have := HCB.out.len; omega)).mono ?_
  rintro e w10 ⟨tz, te, rfl, ho10, hf10, hk10⟩
  have HO10 := hid ho10; have HF10 := hid hf10; have K10 := hid (Kept.of_drew hk10)
  try dsimp only []
  refine hK.out _ _ (by exact hk10.cell hHeld (fun h => h)) (fun hHeld => ?_)
  clear hK K
  try simp only [Act.put, List.setIfInBounds_toArray, List.set_cons_zero, List.set_cons_succ]
  clear ho10 hf10 hk10
  refine till_call 12 (by kernel_rfl) rfl (fun K hK => ?_)
  refine step_app_zeros1 (some 83) rfl (by rfl) (.tmp 79) (.tmp 82) 23 3 rfl 5 (.int .u8 0) 1 Try.underlying23 Try.underlying3 infoU8 rfl rfl (.slice tz lb'.length te) lb'.length (u8s lb') rfl (by exact HO10.out) m rfl (by rw [hm64]; decide) (by rw [hm64]; decide) ?_
  intro z1 z2 w11 ho11 hk11 hf11
  simp only [Act.put, List.setIfInBounds_toArray, List.set_cons_zero, List.set_cons_succ]
  rw [hm64] at ho11 hf11 ⊢
  have hbz : Byt w11 (.slice z1 64 z2) (pad lb') := by
    refine Own.byt (n := 64) ?_
    rw [HPA.out]
    simpa [u8s] using ho11
  have hqg : qg < w9.heap.size := World.block_lt_of_cell? w9 ⟨qg, J, none⟩ q3
  have hkz : Kept (fun _ => False) w9 w11 := K10.out.trans' hk11 (fun g hg => .inr (HF10.out g hg))
  try dsimp only []
  refine hK.out _ _ (by exact hk11.cell hHeld (fun h => by have := HF10.out _ h; simp at this; omega)) (fun hHeld => ?_)
  clear hK K
  try simp only [Act.put, List.setIfInBounds_toArray, List.set_cons_zero, List.set_cons_succ]
  have HBZ := hid hbz; have K11 := hid hkz
  clear ho11 hk11 hf11 hbz hkz hqg
  refine till_list [14, 15] (by kernel_rfl) (by kernel_rfl) (by decide) (by decide) ?_
  simp only [pickOps, List.getElem?_toArray, List.getElem?_cons_zero, List.getElem?_cons_succ]
  clear hHeld
  go_wp2_with fail
  refine (same_bytes (Q5.out.kept K11.out (fun _ _ h => h)) HBZ.out).mono ?_
  rintro e w12 ⟨rfl, hk12⟩
  have K12 := hid (K11.out.trans hk12); clear hk12
  have hd1 : decide (T.page (J : Int) = pad lb') = true := by rw [HPG.out, if_pos rfl]; simp
  rw [hd1]
  clear hd1
  go_wp2_with fail
  go_loopw [89] (fun i wr => ∃ k : Nat, k ≤ 8 ∧ i = .int .i64 k ∧ Kept (fun _ => False) w9 wr) (fun i _ => 8 - (intOf i).toNat)
  case atStart => exact ⟨0, by decide, rfl, K12.out⟩
  case round =>
    obtain ⟨k, hk, rfl, hkr⟩ := hrel
    have KR := hid hkr; clear hkr
    by_cases hlt : k < 8
    · by_cases hkj : k = J
      · have hkj' : ((k : Int) != (J : Int)) = false := by simp [hkj]
        clear hkj
        go_wp2_with fail
        refine wp_region_till (fun _ => True) 100 (by kernel_rfl) trivial (fun hHeld => ?_)
        refine till_pure 0 (some 92) (v := ?v300) (by decide) rfl (by kernel_rfl) (by kernel_rfl) (by kernel_rfl) (by kernel_rfl) (by decide) (fun _ _ _ h => h) (Or.inl ⟨by rfl, ?y300⟩) (by assumption) ?r300
        case y300 => (intro w hSw; clear hSw; go_simp; (try with_reducible rfl))
        simp only [Act.put, List.setIfInBounds_toArray, List.set_cons_zero, List.set_cons_succ]
        refine till_pure 1 (some 93) (v := ?v301) (by decide) rfl (by kernel_rfl) (by kernel_rfl) (by kernel_rfl) (by kernel_rfl) (by decide) (fun _ _ _ h => h) (Or.inl ⟨by rfl, ?y301⟩) (by assumption) ?r301
        case y301 => (intro w hSw; clear hSw; go_simp; (try with_reducible rfl))
        simp only [Act.put, List.setIfInBounds_toArray, List.set_cons_zero, List.set_cons_succ]
        refine till_pure 2 (some 94) (v := ?v302) (by decide) rfl (by kernel_rfl) (by kernel_rfl) (by kernel_rfl) (by kernel_rfl) (by decide) (fun _ _ _ h => h) (Or.inl ⟨by rfl, ?y302⟩) (by assumption) ?r302
        case y302 => (intro w hSw; clear hSw; go_simp; (try with_reducible rfl))
        simp only [Act.put, List.setIfInBounds_toArray, List.set_cons_zero, List.set_cons_succ]
        refine till_pure 3 (some 95) (v := ?v303) (by decide) rfl (by kernel_rfl) (by kernel_rfl) (by kernel_rfl) (by kernel_rfl) (by decide) (fun _ _ _ h => h) (Or.inl ⟨by rfl, ?y303⟩) (by assumption) ?r303
        case y303 => (intro w hSw; clear hSw; go_simp; (try with_reducible rfl))
        simp only [Act.put, List.setIfInBounds_toArray, List.set_cons_zero, List.set_cons_succ]
        refine till_pure 4 (some 96) (v := undef) (by decide) rfl (by kernel_rfl) (by kernel_rfl) (by kernel_rfl) (by kernel_rfl) (by decide) (fun _ _ _ h => h) (Or.inr ⟨by rfl, rfl⟩) (by assumption) ?_
        simp only [Act.put, List.setIfInBounds_toArray, List.set_cons_zero, List.set_cons_succ]
        refine till_pure 5 (some 97) (v := undef) (by decide) rfl (by kernel_rfl) (by kernel_rfl) (by kernel_rfl) (by kernel_rfl) (by decide) (fun _ _ _ h => h) (Or.inr ⟨by rfl, rfl⟩) (by assumption) ?_
        simp only [Act.put, List.setIfInBounds_toArray, List.set_cons_zero, List.set_cons_succ]
        refine till_pure 6 (some 98) (v := undef) (by decide) rfl (by kernel_rfl) (by kernel_rfl) (by kernel_rfl) (by kernel_rfl) (by decide) (fun _ _ _ h => h) (Or.inr ⟨by rfl, rfl⟩) (by assumption) ?_
        simp only [Act.put, List.setIfInBounds_toArray, List.set_cons_zero, List.set_cons_succ]
        refine till_pure 7 (some 99) (v := undef) (by decide) rfl (by kernel_rfl) (by kernel_rfl) (by kernel_rfl) (by kernel_rfl) (by decide) (fun _ _ _ h => h) (Or.inr ⟨by rfl, rfl⟩) (by assumption) ?_
        simp only [Act.put, List.setIfInBounds_toArray, List.set_cons_zero, List.set_cons_succ]
        refine till_pure 8 (some 100) (v := undef) (by decide) rfl (by kernel_rfl) (by kernel_rfl) (by kernel_rfl) (by kernel_rfl) (by decide) (fun _ _ _ h => h) (Or.inr ⟨by rfl, rfl⟩) (by assumption) ?_
        simp only [Act.put, List.setIfInBounds_toArray, List.set_cons_zero, List.set_cons_succ]
        refine till_pure 9 (some 101) (v := undef) (by decide) rfl (by kernel_rfl) (by kernel_rfl) (by kernel_rfl) (by kernel_rfl) (by decide) (fun _ _ _ h => h) (Or.inr ⟨by rfl, rfl⟩) (by assumption) ?_
        simp only [Act.put, List.setIfInBounds_toArray, List.set_cons_zero, List.set_cons_succ]
        refine till_pure 10 (some 102) (v := undef) (by decide) rfl (by kernel_rfl) (by kernel_rfl) (by kernel_rfl) (by kernel_rfl) (by decide) (fun _ _ _ h => h) (Or.inr ⟨by rfl, rfl⟩) (by assumption) ?_
        simp only [Act.put, List.setIfInBounds_toArray, List.set_cons_zero, List.set_cons_succ]
        refine till_pure 11 (some 103) (v := undef) (by decide) rfl (by kernel_rfl) (by kernel_rfl) (by kernel_rfl) (by kernel_rfl) (by decide) (fun _ _ _ h => h) (Or.inr ⟨by rfl, rfl⟩) (by assumption) ?_
        simp only [Act.put, List.setIfInBounds_toArray, List.set_cons_zero, List.set_cons_succ]
        refine till_pure 12 (some 104) (v := undef) (by decide) rfl (by kernel_rfl) (by kernel_rfl) (by kernel_rfl) (by kernel_rfl) (by decide) (fun _ _ _ h => h) (Or.inr ⟨by rfl, rfl⟩) (by assumption) ?_
        simp only [Act.put, List.setIfInBounds_toArray, List.set_cons_zero, List.set_cons_succ]
        refine till_pure 13 (some 105) (v := undef) (by decide) rfl (by kernel_rfl) (by kernel_rfl) (by kernel_rfl) (by kernel_rfl) (by decide) (fun _ _ _ h => h) (Or.inr ⟨by rfl, rfl⟩) (by assumption) ?_
        simp only [Act.put, List.setIfInBounds_toArray, List.set_cons_zero, List.set_cons_succ]
        refine till_pure 14 (some 106) (v := ?v314) (by decide) rfl (by kernel_rfl) (by kernel_rfl) (by kernel_rfl) (by kernel_rfl) (by decide) (fun _ _ _ h => h) (Or.inl ⟨by rfl, ?y314⟩) (by assumption) ?r314
        case y314 => (intro w hSw; clear hSw; go_simp; (try with_reducible rfl))
        simp only [Act.put, List.setIfInBounds_toArray, List.set_cons_zero, List.set_cons_succ]
        refine till_done (by kernel_rfl) ?_ _
        clear hHeld
        go_wp2
        go_roundw
        case rel => exact ⟨k + 1, by omega, by go_num, KR.out.drew⟩
        case measure => simp [intOf]; omega
      · have hkj' : ((k : Int) != (J : Int)) = true := by simp; omega
        have HKJ := hid hkj; clear hkj
        obtain ⟨ag, ac', an, e10, y1, y2, y3, y4, y5⟩ := (H9.out.same KR.out).at TPL.out k hlt
        simp only [Value.slice.injEq, Option.some.injEq, Addr.mk.injEq] at e10
        obtain ⟨⟨rfl, _, _⟩, _, rfl⟩ := e10
        obtain ⟨bg, bc', bn, e11, x1, x2, x3, x4, x5⟩ := (G9.out.same KR.out).at SPL.out k hlt
        simp only [Value.slice.injEq] at e11
        obtain ⟨rfl, _, rfl⟩ := e11
        unfold maxLen at x2 y2
        have Y5 := hid y5; have X5 := hid x5; clear y4 y5 x4 x5
        go_wp2_with fail
        refine wp_region_till (fun w' => w'.cell? ⟨qg, k, none⟩ = some (.slice (some ⟨an, 0, none⟩) 64 64) ∧ w'.cell? ⟨bg, k, none⟩ = some (.slice (some ⟨bn, 0, none⟩) 64 64)) 12 (by kernel_rfl) (by exact ⟨y3, x3⟩) (fun hHeld => ?_)
        refine till_pure 0 (some 92) (v := ?v400) (by decide) rfl (by kernel_rfl) (by kernel_rfl) (by kernel_rfl) (by kernel_rfl) (by decide) (fun _ _ _ h => h) (Or.inl ⟨by rfl, ?y400⟩) (by assumption) ?r400
        case y400 => (intro w hSw; clear hSw; go_simp; (try with_reducible rfl))
        simp only [Act.put, List.setIfInBounds_toArray, List.set_cons_zero, List.set_cons_succ]
        refine till_pure 1 (some 93) (v := ?v401) (by decide) rfl (by kernel_rfl) (by kernel_rfl) (by kernel_rfl) (by kernel_rfl) (by decide) (fun _ _ _ h => h) (Or.inl ⟨by rfl, ?y401⟩) (by assumption) ?r401
        case y401 => (intro w hSw; clear hSw; go_simp; (try with_reducible rfl))
        simp only [Act.put, List.setIfInBounds_toArray, List.set_cons_zero, List.set_cons_succ]
        refine till_pure 2 (some 94) (v := ?v402) (by decide) rfl (by kernel_rfl) (by kernel_rfl) (by kernel_rfl) (by kernel_rfl) (by decide) (fun _ _ _ h => h) (Or.inl ⟨by rfl, ?y402⟩) (by assumption) ?r402
        case y402 => (intro w hSw; clear hSw; go_simp; (try with_reducible rfl))
        simp only [Act.put, List.setIfInBounds_toArray, List.set_cons_zero, List.set_cons_succ]
        refine till_pure 3 (some 95) (v := ?v403) (by decide) rfl (by kernel_rfl) (by kernel_rfl) (by kernel_rfl) (by kernel_rfl) (by decide) (fun _ _ _ h => h) (Or.inl ⟨by rfl, ?y403⟩) (by assumption) ?r403
        case y403 => (intro w hSw; clear hSw; go_simp; (try with_reducible rfl))
        simp only [Act.put, List.setIfInBounds_toArray, List.set_cons_zero, List.set_cons_succ]
        refine till_pure 4 (some 96) (v := ?v404) (by decide) rfl (by kernel_rfl) (by kernel_rfl) (by kernel_rfl) (by kernel_rfl) (by decide) (fun _ _ _ h => h) (Or.inl ⟨by rfl, ?y404⟩) (by assumption) ?r404
        case y404 => (intro w hSw; clear hSw; go_simp; (try with_reducible rfl))
        simp only [Act.put, List.setIfInBounds_toArray, List.set_cons_zero, List.set_cons_succ]
        refine till_pure 5 (some 97) (v := ?v405) (by decide) rfl (by kernel_rfl) (by kernel_rfl) (by kernel_rfl) (by kernel_rfl) (by decide) (fun _ _ _ h => h) (Or.inl ⟨by rfl, ?y405⟩) (by assumption) ?r405
        case y405 => (intro w hSw; clear hSw; go_simp; (try with_reducible rfl))
        simp only [Act.put, List.setIfInBounds_toArray, List.set_cons_zero, List.set_cons_succ]
        refine till_pure 6 (some 98) (v := ?v406) (by decide) rfl (by kernel_rfl) (by kernel_rfl) (by kernel_rfl) (by kernel_rfl) (by decide) (fun _ _ _ h => h) (Or.inl ⟨by rfl, ?y406⟩) (by assumption) ?r406
        case y406 => (intro w hSw; clear hSw; go_simp; (try with_reducible rfl))
        simp only [Act.put, List.setIfInBounds_toArray, List.set_cons_zero, List.set_cons_succ]
        refine till_load 7 (some 99) [] (v := ?v407) (by decide) rfl (by kernel_rfl) (by kernel_rfl) (by kernel_rfl) (by kernel_rfl) (by kernel_rfl) (by decide) (by decide) (fun _ _ _ h => h) (Or.inl ⟨by rfl, ?y407⟩) (by assumption) ?r407
        case y407 => (intro w hSw; (try dsimp only at hSw); go_simp; (try with_reducible rfl))
        simp only [Act.put, List.setIfInBounds_toArray, List.set_cons_zero, List.set_cons_succ]
        refine till_pure 8 (some 100) (v := ?v408) (by decide) rfl (by kernel_rfl) (by kernel_rfl) (by kernel_rfl) (by kernel_rfl) (by decide) (fun _ _ _ h => h) (Or.inl ⟨by rfl, ?y408⟩) (by assumption) ?r408
        case y408 => (intro w hSw; clear hSw; go_simp; (try with_reducible rfl))
        simp only [Act.put, List.setIfInBounds_toArray, List.set_cons_zero, List.set_cons_succ]
        refine till_pure 9 (some 101) (v := ?v409) (by decide) rfl (by kernel_rfl) (by kernel_rfl) (by kernel_rfl) (by kernel_rfl) (by decide) (fun _ _ _ h => h) (Or.inl ⟨by rfl, ?y409⟩) (by assumption) ?r409
        case y409 => (intro w hSw; clear hSw; go_simp; (try with_reducible rfl))
        simp only [Act.put, List.setIfInBounds_toArray, List.set_cons_zero, List.set_cons_succ]
        refine till_pure 10 (some 102) (v := ?v410) (by decide) rfl (by kernel_rfl) (by kernel_rfl) (by kernel_rfl) (by kernel_rfl) (by decide) (fun _ _ _ h => h) (Or.inl ⟨by rfl, ?y410⟩) (by assumption) ?r410
        case y410 => (intro w hSw; clear hSw; go_simp; (try with_reducible rfl))
        simp only [Act.put, List.setIfInBounds_toArray, List.set_cons_zero, List.set_cons_succ]
        refine till_load 11 (some 103) [] (v := ?v411) (by decide) rfl (by kernel_rfl) (by kernel_rfl) (by kernel_rfl) (by kernel_rfl) (by kernel_rfl) (by decide) (by decide) (fun _ _ _ h => h) (Or.inl ⟨by rfl, ?y411⟩) (by assumption) ?r411
        case y411 => (intro w hSw; (try dsimp only at hSw); go_simp; (try with_reducible rfl))
        simp only [Act.put, List.setIfInBounds_toArray, List.set_cons_zero, List.set_cons_succ]
        refine till_list [13, 14] (by kernel_rfl) (by kernel_rfl) (by decide) (by decide) ?_
        simp only [pickOps, List.getElem?_toArray, List.getElem?_cons_zero, List.getElem?_cons_succ]
        clear hHeld
        go_wp2_with fail
        refine (same_bytes (Y5.out.kept (Kept.refl (fun _ => False) wr).drew (fun _ _ h => h)) (X5.out.kept (Kept.refl (fun _ => False) wr).drew (fun _ _ h => h))).mono ?_
        rintro e w13 ⟨rfl, hk13⟩
        have K13 := hid (KR.out.trans hk13.of_drew); clear hk13
        have hd2 : decide (T.page (k : Int) = S.page (k : Int)) = true := by rw [HPG.out, if_neg (by have := HKJ.out; omega)]; simp
        rw [hd2]
        clear hd2
        go_wp2
        go_roundw
        case rel => exact ⟨k + 1, by omega, by go_num, K13.out⟩
        case measure => simp [intOf]; omega
    · obtain rfl : k = 8 := by omega
      go_wp2
      go_ret
      exact ⟨rfl, (K9.out.trans KR.out).below (Nat.le_refl _) (fun _ h => h.elim)⟩
end Go.Proofs.Ytnfdkpjklenllaa
