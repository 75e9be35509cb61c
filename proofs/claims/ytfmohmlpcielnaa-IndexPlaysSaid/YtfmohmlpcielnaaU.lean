/- join: two pages become one, or share. -/
import Derived.Test.YtfmohmlpcielnaaS
namespace Go.Proofs.Ytfmohmlpcielnaa
open Go.RowKit
theorem Kept.drewN {F : Nat → Prop} {a w : World} (h : Kept F a w) (n : Nat) : Kept F a (w.drewN n) := ⟨h.os, h.tape, h.output, h.size, h.block⟩
def JoinPost (F : Nat → Prop) (w : World) (xb : Nat) (A : List Pg) (a b : Pg) (B : List Pg) (n : Int) (e : Ending) (w' : World) : Prop :=
  e = .returned (.tuple #[]) ∧ ∃ pv' Z, pl Z = split8 (a.2.2 ++ b.2.2) ∧ IxAt F w' xb pv' (A ++ Z ++ B) n ∧ Kept F w w'
/-- the row ahead of an offset -/
theorem Seg.front {w : World} {E size g n cap : Nat} {xs : List Value} (h : Seg w E size (.slice (some ⟨g, 0, none⟩) n cap) n xs) (h1 : ∀ u ∈ xs, u.oneCell' = true) (m : Nat) (hm : m ≤ n) (c : Nat) : Src w size (.slice (some ⟨g, 0, none⟩) m c) m (xs.take (m * size)) := by
  have hl := h.len
  refine ⟨_, _, rfl, by rw [List.length_take, hl]; exact Nat.min_eq_left (Nat.mul_le_mul_right _ hm), by simp, fun ad had j u hu => ?_, fun u hu => h1 u (List.mem_of_mem_take hu)⟩
  cases had
  rw [List.getElem?_take] at hu
  split at hu
  · obtain ⟨ha, e⟩ := List.getElem?_eq_some_iff.1 hu
    rw [← e, Addr.add_mid, Nat.zero_add]
    exact h.cells rfl _ ha
  · cases hu
set_option maxRecDepth 100000 in
set_option maxHeartbeats 1000000 in
theorem join_any {F : Nat → Prop} {w : World} {xb : Nat} {pv : Value} {A B : List Pg} {a b : Pg} {n : Int} (h : IxAt F w xb pv (A ++ [a, b] ++ B) n) (hF : ∀ g, w.heap.size ≤ g → F g)
    (hA0 : 0 < a.2.2.length) (hB0 : 0 < b.2.2.length) (hl : a.2.2.length + b.2.2.length ≤ 16) (hS : (A ++ [a, b] ++ B).length ≤ 4096) :
    Calls Try.prog 30 #[.pointer (some ⟨xb, 0, none⟩), .int .i64 A.length] w (JoinPost F w xb A a b B n) := by
  obtain ⟨pa, va, La⟩ := a
  obtain ⟨pb, vb, Lb⟩ := b
  obtain ⟨S, hSe⟩ : ∃ S, A ++ [(pa, va, La), (pb, vb, Lb)] ++ B = S := ⟨_, rfl⟩
  obtain ⟨i, hi⟩ : ∃ i, A.length = i := ⟨_, rfl⟩
  obtain ⟨i1, hi1⟩ : ∃ i1, i + 1 = i1 := ⟨_, rfl⟩
  have hSl : S.length = i + 2 + B.length := by rw [← hSe, ← hi]; simp; omega
  have hxa : S[i]? = some (pa, va, La) := by rw [← hSe, ← hi]; simp
  have hxb : S[i1]? = some (pb, vb, Lb) := by rw [← hSe, ← hi1, ← hi]; simp
  have HSE := hid hSe
  rw [hSe] at h hS
  rw [hi]
  have hpa : PgAt w pa va La := h.p _ (List.mem_of_getElem? hxa)
  have hpb : PgAt w pb vb Lb := h.p _ (List.mem_of_getElem? hxb)
  obtain ⟨aa, ca, rfl⟩ := hpa.s.isSlice
  obtain ⟨ab, cb, rfl⟩ := hpb.s.isSlice
  obtain ⟨pg, pcap, rfl, q3, q4⟩ := h.s.some_of_pos (by omega)
  unfold maxLen at q4
  have ptr : ∀ (j : Nat) (x : Pg), S[j]? = some x → w.cell? ⟨pg, j, none⟩ = some (.pointer (some ⟨x.1, 0, none⟩)) := fun j x hx => by
    obtain ⟨hj, e⟩ := List.getElem?_eq_some_iff.1 hx
    rw [h.s.cells rfl j (by simpa [ptrs] using hj)]
    simp [ptrs, e]
  have c0 : w.cell? ⟨xb, 0, none⟩ = some (.slice (some ⟨pg, 0, none⟩) S.length pcap) := row_cell h.r 0
  have c1 := ptr _ _ hxa
  have c2 := ptr _ _ hxb
  have c3 : w.cell? ⟨pa, 0, none⟩ = some (.slice aa La.length ca) := row_cell hpa.r 0
  have c4 : w.cell? ⟨pb, 0, none⟩ = some (.slice ab Lb.length cb) := row_cell hpb.r 0
  have wi1 : IntKind.i64.wrap ((i : Int) + 1) = (i1 : Int) := (IntWalk.i64_in _ (by omega)).trans (by omega)
  have hiI : (i : Int) < (S.length : Int) := by omega
  have hi1I : (i1 : Int) < (S.length : Int) := by omega
  dsimp only at c1 c2 hA0 hB0 hl
  have H := hid h; have PA := hid hpa; have PB := hid hpb; have HXA := hid hxa; have HXB := hid hxb; have HFF := hid hF; have HI := hid hi; have HI1 := hid hi1; have HSL := hid hSl
  clear h hpa hpb hxa hxb hF hSe hi hi1 hSl ptr
  go_enter Try.func30, Try.ntmps30
  go_wp2_with fail
  go_quiet (fail)
  go_wp2_with fail
  refine wp_region_till (fun w' => w'.cell? ⟨pa, 0, none⟩ = some (.slice aa La.length ca) ∧ w'.cell? ⟨pb, 0, none⟩ = some (.slice ab Lb.length cb)) 8 (by kernel_rfl) ?s0 (fun hHeld => ?_)
  case s0 => exact ⟨c3, c4⟩
  refine till_pure 0 (some 23) (v := ?v100) (by decide) rfl (by kernel_rfl) (by kernel_rfl) (by kernel_rfl) (by kernel_rfl) (by decide) (fun _ _ _ h => h) (Or.inl ⟨by rfl, ?y100⟩) (by assumption) ?r100
  case y100 => (intro w hSw; clear hSw; go_simp; (try with_reducible rfl))
  simp only [Act.put, List.setIfInBounds_toArray, List.set_cons_zero, List.set_cons_succ]
  refine till_pure 1 (some 24) (v := ?v101) (by decide) rfl (by kernel_rfl) (by kernel_rfl) (by kernel_rfl) (by kernel_rfl) (by decide) (fun _ _ _ h => h) (Or.inl ⟨by rfl, ?y101⟩) (by assumption) ?r101
  case y101 => (intro w hSw; clear hSw; go_simp; (try with_reducible rfl))
  simp only [Act.put, List.setIfInBounds_toArray, List.set_cons_zero, List.set_cons_succ]
  refine till_pure 2 (some 25) (v := ?v102) (by decide) rfl (by kernel_rfl) (by kernel_rfl) (by kernel_rfl) (by kernel_rfl) (by decide) (fun _ _ _ h => h) (Or.inl ⟨by rfl, ?y102⟩) (by assumption) ?r102
  case y102 => (intro w hSw; clear hSw; go_simp; (try with_reducible rfl))
  simp only [Act.put, List.setIfInBounds_toArray, List.set_cons_zero, List.set_cons_succ]
  refine till_load 3 (some 26) [] (v := ?v103) (by decide) rfl (by kernel_rfl) (by kernel_rfl) (by kernel_rfl) (by kernel_rfl) (by kernel_rfl) (by decide) (by decide) (fun _ _ _ h => h) (Or.inl ⟨by rfl, ?y103⟩) (by assumption) ?r103
  case y103 => (intro w hSw; (try dsimp only at hSw); go_simp; (try with_reducible rfl))
  simp only [Act.put, List.setIfInBounds_toArray, List.set_cons_zero, List.set_cons_succ]
  refine till_pure 4 (some 27) (v := ?v104) (by decide) rfl (by kernel_rfl) (by kernel_rfl) (by kernel_rfl) (by kernel_rfl) (by decide) (fun _ _ _ h => h) (Or.inl ⟨by rfl, ?y104⟩) (by assumption) ?r104
  case y104 => (intro w hSw; clear hSw; go_simp; (try with_reducible rfl))
  simp only [Act.put, List.setIfInBounds_toArray, List.set_cons_zero, List.set_cons_succ]
  refine till_pure 5 (some 28) (v := ?v105) (by decide) rfl (by kernel_rfl) (by kernel_rfl) (by kernel_rfl) (by kernel_rfl) (by decide) (fun _ _ _ h => h) (Or.inl ⟨by rfl, ?y105⟩) (by assumption) ?r105
  case y105 => (intro w hSw; clear hSw; go_simp; (try with_reducible rfl))
  simp only [Act.put, List.setIfInBounds_toArray, List.set_cons_zero, List.set_cons_succ]
  refine till_pure 6 (some 29) (v := ?v106) (by decide) rfl (by kernel_rfl) (by kernel_rfl) (by kernel_rfl) (by kernel_rfl) (by decide) (fun _ _ _ h => h) (Or.inl ⟨by rfl, ?y106⟩) (by assumption) ?r106
  case y106 => (intro w hSw; clear hSw; go_simp; (try with_reducible rfl))
  simp only [Act.put, List.setIfInBounds_toArray, List.set_cons_zero, List.set_cons_succ]
  refine till_load 7 (some 30) [] (v := ?v107) (by decide) rfl (by kernel_rfl) (by kernel_rfl) (by kernel_rfl) (by kernel_rfl) (by kernel_rfl) (by decide) (by decide) (fun _ _ _ h => h) (Or.inl ⟨by rfl, ?y107⟩) (by assumption) ?r107
  case y107 => (intro w hSw; (try dsimp only at hSw); go_simp; (try with_reducible rfl))
  simp only [Act.put, List.setIfInBounds_toArray, List.set_cons_zero, List.set_cons_succ]
  refine till_list [9, 10] (by kernel_rfl) (by kernel_rfl) (by decide) (by decide) ?_
  simp only [pickOps, List.getElem?_toArray, List.getElem?_cons_zero, List.getElem?_cons_succ]
  clear hHeld
  obtain ⟨T, hT⟩ : ∃ T, (La ++ Lb).length = T := ⟨_, rfl⟩
  have HT := hid hT
  have hTl : T = La.length + Lb.length := by rw [← hT]; simp
  go_wp2_with fail
  refine (concat_any (A := La) (B := Lb) (row_new _ _) (by exact (PA.out.same (Kept.drewN (Kept.refl _ _) _)).s.alloc _) (by exact (PB.out.same (Kept.drewN (Kept.refl _ _) _)).s.alloc _) hA0 hB0 (by omega)).mono ?_
  rintro e w2 ⟨g, c, rfl, hs, hg, hk⟩
  rw [hT] at hs ⊢
  have S2 := hid hs
  have K2 := hid ((((Kept.refl (fun _ => False) w).drewN _).alloc _).trans hk)
  have hgw : w.heap.size ≤ g := by simp at hg; omega
  have HTL := hid hTl
  clear hs hk hg hTl hT
  obtain ⟨_, hcc⟩ := S2.out.caps
  unfold maxLen at hcc
  have hTc : T ≤ c := S2.out.caps.1
  have n1 : pa ≠ xb := fun e => by have := PA.out.r; rw [e, H.out.r] at this; simp at this
  have n2 : pb ≠ xb := fun e => by have := PB.out.r; rw [e, H.out.r] at this; simp at this
  have n3 : pg ≠ xb := fun e => H.out.s.ne_block H.out.r (by decide) (by rw [e]; rfl)
  have n4 : pg ≠ pa := fun e => H.out.s.ne_block PA.out.r (by decide) (by rw [e]; rfl)
  have n5 : pg ≠ pb := fun e => H.out.s.ne_block PB.out.r (by decide) (by rw [e]; rfl)
  have n6 : pa ≠ pb := fun e => by
    have hd := H.out.d
    rw [← HSE.out, List.pairwise_append, List.pairwise_append] at hd
    have := (List.pairwise_cons.1 hd.1.2.1).1 _ (List.mem_singleton.2 rfl)
    exact this.1 e
  have za : pa < w.heap.size := row_lt PA.out.r
  have zb : pb < w.heap.size := row_lt PB.out.r
  have zx : xb < w.heap.size := row_lt H.out.r
  have zp : pg < w.heap.size := H.out.s.lt (g := pg) rfl
  have N1 := hid n1; have N2 := hid n2; have N3 := hid n3; have N4 := hid n4; have N5 := hid n5; have N6 := hid n6
  clear n1 n2 n3 n4 n5 n6
  have X2 := hid ((K2.out.block _ zx (fun h => h)).trans H.out.r)
  have A2 := hid ((K2.out.block _ za (fun h => h)).trans PA.out.r)
  have B2 := hid ((K2.out.block _ zb (fun h => h)).trans PB.out.r)
  have P2 := hid (H.out.s.same K2.out)
  replace c0 := K2.out.cell c0 (fun h => h)
  replace c1 := K2.out.cell c1 (fun h => h)
  replace c2 := K2.out.cell c2 (fun h => h)
  clear c3 c4
  by_cases h8 : T ≤ 8
  · have h8I : decide ((T : Int) ≤ 8) = true := by rw [decide_eq_true_eq]; omega
    have wi2 : IntKind.i64.wrap ((i : Int) + 2) = ((i + 2 : Nat) : Int) := (IntWalk.i64_in _ (by omega)).trans (by omega)
    obtain ⟨i2, hi2⟩ : ∃ i2, i + 2 = i2 := ⟨_, rfl⟩
    rw [hi2] at wi2
    have HI2 := hid hi2; clear hi2
    go_wp2_with (refine wpList_store_cell rfl 29 (.tmp 39) (.tmp 37) rfl (by kernel_rfl) pa 0 rfl (.slice (some ⟨g, 0, none⟩) T c) rfl rfl A2.out (by simp) ?_; intro w3 hr3 hk3; have A3 := hid hr3.out; have K3 := hid hk3.out; replace c0 := hk3.out.cell c0 (fun e => N1.out e.symm); clear hr3 hk3)
    refine (del_anyP (P2.out.kept K3.out (fun a ha e => N4.out (by simp [Value.ownBlock] at ha; exact ha.trans e))) (ptrs_one S) i1 i2 (by have := HI1.out; have := HI2.out; omega) (by have := HI2.out; have := HSL.out; omega)).mono ?_
    rintro e w4 ⟨cp4, rfl, hs4, hk4⟩
    have S4 := hid hs4; have K4 := hid hk4
    clear hs4 hk4
    simp only [Value.ownBlock, Option.map_some] at S4 ⊢
    have X3 := hid ((K3.out.block _ (row_lt X2.out) (fun e => N1.out e.symm)).trans X2.out)
    have X4 := hid ((K4.out.block _ (row_lt X3.out) (fun e => N3.out (by simpa [Value.ownBlock] using e))).trans X3.out)
    go_wp2_with (refine wpList_store_cell rfl 62 (.tmp 51) (.tmp 49) rfl (by kernel_rfl) xb 0 rfl (.slice (some ⟨pg, 0, none⟩) (i1 + (S.length - i2)) cp4) rfl rfl X4.out (by simp) ?_; intro w5 hr5 hk5; have X5 := hid hr5.out; have K5 := hid hk5.out; clear hr5 hk5)
    go_returns
    have G := ((((K2.out.mono (G := fun a => a = xb ∨ a = pa ∨ a = pg) (fun _ _ h => h.elim)).trans (K3.out.mono (fun a _ h => .inr (.inl h)))).trans (K4.out.mono (fun a _ h => .inr (.inr (by simp [Value.ownBlock] at h; exact h.symm))))).trans (K5.out.mono (fun a _ h => .inl h)))
    have hFa := H.out.b _ (List.mem_of_getElem? HXA.out)
    have hS3 := S2.out.kept K3.out (fun a ha e => by simp [Value.ownBlock] at ha; omega)
    have hS4 := hS3.kept K4.out (fun a ha e => by simp [Value.ownBlock] at ha e; omega)
    have hS5 := hS4.kept K5.out (fun a ha e => by simp [Value.ownBlock] at ha; omega)
    have hA4 := (K4.out.block _ (row_lt A3.out) (fun e => N4.out (by simpa [Value.ownBlock] using e))).trans A3.out
    have hA5 := (K5.out.block _ (row_lt hA4) N1.out).trans hA4
    have hP5 := S4.out.kept K5.out (fun a ha e => N3.out (by simp [Value.ownBlock] at ha; exact ha.trans e))
    have e1 := HI1.out
    have e2 := HI2.out
    have e3 := HSL.out
    have hlen : i1 + (S.length - i2) = (A ++ [(pa, .slice (some ⟨g, 0, none⟩) T c, La ++ Lb)] ++ B : List Pg).length := by simp [HI.out]; omega
    have hptr : (ptrs S).take i1 ++ (ptrs S).drop i2 = ptrs (A ++ [(pa, .slice (some ⟨g, 0, none⟩) T c, La ++ Lb)] ++ B) := by
      have h1 : i1 = A.length + 1 := by rw [HI.out]; omega
      have h2 : i2 = A.length + 2 := by rw [HI.out]; omega
      rw [← HSE.out, h1, h2]
      simp only [ptrs, List.map_append, List.map_cons, List.map_nil, List.append_assoc, List.take_append, List.drop_append, List.length_map]
      rw [List.take_of_length_le (by simp), List.drop_of_length_le (by simp)]
      simp
    rw [hptr, hlen] at hP5
    rw [hlen] at X5
    have hIx := IxAt.re (A := A) (Y := [(pa, .slice aa La.length ca, La), (pb, .slice ab Lb.length cb, Lb)]) (B := B) (Z := [(pa, .slice (some ⟨g, 0, none⟩) T c, La ++ Lb)]) (n' := n) (by rw [HSE.out]; exact H.out) G
      (fun a ha _ => by
        rcases ha with e | e | e
        · exact .inl e
        · exact .inr (.inr ⟨_, List.mem_cons_self, .inl e⟩)
        · exact .inr (.inl (by rw [e]; rfl)))
      X5.out hP5
      (by intro z hz; rw [List.mem_singleton] at hz; subst hz; exact ⟨hA5, by rw [HT.out]; exact hS5⟩)
      (by intro a ha; simp [Value.ownBlock] at ha; subst ha; exact H.out.f _ rfl)
      (by intro z hz; rw [List.mem_singleton] at hz; subst hz; exact ⟨hFa.1, fun a ha => HFF.out _ (by simp [Value.ownBlock] at ha; omega)⟩)
      (PgFar.single _)
      (by intro z hz; rw [List.mem_singleton] at hz; subst hz; exact .inl ⟨_, List.mem_cons_self, rfl⟩)
      (by intro z hz a ha; rw [List.mem_singleton] at hz; subst hz; exact .inr (by simp [Value.ownBlock] at ha; omega))
    refine ⟨rfl, _, _, ?_, hIx, G.mono (fun a _ ha => ?_)⟩
    · unfold split8; dsimp only; rw [HT.out, if_neg (by omega)]; rfl
    · rcases ha with rfl | rfl | rfl
      · exact H.out.m
      · exact hFa.1
      · exact H.out.f _ rfl
  · have h8I : decide ((T : Int) ≤ 8) = false := by rw [decide_eq_false_iff_not]; omega
    obtain ⟨hh, ehh⟩ : ∃ hh, T / 2 = hh := ⟨_, rfl⟩
    have ehi : (T : Int) / 2 = (hh : Int) := by omega
    have hhT : hh < T := by omega
    have hh0 : 0 < hh := by omega
    have EHH := hid ehh; clear ehh
    have hhc : (hh : Int) ≤ (c : Int) := by omega
    have hhTI : (hh : Int) ≤ (T : Int) := by omega
    have hch : ¬ c = hh := by omega
    go_wp2_with fail
    refine wp_region_till (fun _ => True) 5 (by kernel_rfl) trivial (fun hHeld => ?_)
    refine till_pure 0 (some 55) (v := ?v110) (by decide) rfl (by kernel_rfl) (by kernel_rfl) (by kernel_rfl) (by kernel_rfl) (by decide) (fun _ _ _ h => h) (Or.inl ⟨by rfl, ?y110⟩) (by assumption) ?r110
    case y110 => (intro w hSw; clear hSw; go_simp; (try with_reducible rfl))
    simp only [Act.put, List.setIfInBounds_toArray, List.set_cons_zero, List.set_cons_succ]
    refine till_pure 1 (some 56) (v := ?v111) (by decide) rfl (by kernel_rfl) (by kernel_rfl) (by kernel_rfl) (by kernel_rfl) (by decide) (fun _ _ _ h => h) (Or.inl ⟨by rfl, ?y111⟩) (by assumption) ?r111
    case y111 => (intro w hSw; clear hSw; go_simp; (try with_reducible rfl))
    simp only [Act.put, List.setIfInBounds_toArray, List.set_cons_zero, List.set_cons_succ]
    refine till_pure 2 (some 57) (v := ?v112) (by decide) rfl (by kernel_rfl) (by kernel_rfl) (by kernel_rfl) (by kernel_rfl) (by decide) (fun _ _ _ h => h) (Or.inl ⟨by rfl, ?y112⟩) (by assumption) ?r112
    case y112 => (intro w hSw; clear hSw; go_simp; (try with_reducible rfl))
    simp only [Act.put, List.setIfInBounds_toArray, List.set_cons_zero, List.set_cons_succ]
    refine till_pure 3 (some 58) (v := ?v113) (by decide) rfl (by kernel_rfl) (by kernel_rfl) (by kernel_rfl) (by kernel_rfl) (by decide) (fun _ _ _ h => h) (Or.inl ⟨by rfl, ?y113⟩) (by assumption) ?r113
    case y113 => (intro w hSw; clear hSw; go_simp; (try with_reducible rfl))
    simp only [Act.put, List.setIfInBounds_toArray, List.set_cons_zero, List.set_cons_succ]
    refine till_pure 4 (some 59) (v := ?v114) (by decide) rfl (by kernel_rfl) (by kernel_rfl) (by kernel_rfl) (by kernel_rfl) (by decide) (fun _ _ _ h => h) (Or.inl ⟨by rfl, ?y114⟩) (by assumption) ?r114
    case y114 => (intro w hSw; clear hSw; go_simp; (try with_reducible rfl))
    simp only [Act.put, List.setIfInBounds_toArray, List.set_cons_zero, List.set_cons_succ]
    refine till_pure 6 (some 61) (v := ?v115) (by decide) rfl (by kernel_rfl) (by kernel_rfl) (by kernel_rfl) (by kernel_rfl) (by decide) (fun _ _ _ h => h) (Or.inl ⟨by rfl, ?y115⟩) (by assumption) ?r115
    case y115 => (intro w hSw; clear hSw; go_simp; (try with_reducible rfl))
    simp only [Act.put, List.setIfInBounds_toArray, List.set_cons_zero, List.set_cons_succ]
    refine till_pure 7 (some 62) (v := ?v116) (by decide) rfl (by kernel_rfl) (by kernel_rfl) (by kernel_rfl) (by kernel_rfl) (by decide) (fun _ _ _ h => h) (Or.inl ⟨by rfl, ?y116⟩) (by assumption) ?r116
    case y116 => (intro w hSw; clear hSw; go_simp; (try with_reducible rfl))
    simp only [Act.put, List.setIfInBounds_toArray, List.set_cons_zero, List.set_cons_succ]
    refine till_pure 8 (some 63) (v := ?v117) (by decide) rfl (by kernel_rfl) (by kernel_rfl) (by kernel_rfl) (by kernel_rfl) (by decide) (fun _ _ _ h => h) (Or.inl ⟨by rfl, ?y117⟩) (by assumption) ?r117
    case y117 => (intro w hSw; clear hSw; go_simp; (try with_reducible rfl))
    simp only [Act.put, List.setIfInBounds_toArray, List.set_cons_zero, List.set_cons_succ]
    refine till_list [9, 10, 11, 12, 13, 14, 15] (by kernel_rfl) (by kernel_rfl) (by decide) (by decide) ?_
    simp only [pickOps, List.getElem?_toArray, List.getElem?_cons_zero, List.getElem?_cons_succ]
    clear hHeld
    go_wp2_with fail
    have hT16 : T ≤ 16 := by have := HTL.out; omega
    refine (clone_any (Seg.front (by exact S2.out) (icells_one _) hh (by omega) c) (by omega)).mono ?_
    rintro e w3 ⟨a3, c3, rfl, hs3, hf3, hk3⟩
    have hk3' : Kept (fun _ => False) w2 w3 := ((Kept.refl (fun _ => False) w2).drew).trans hk3
    have S3 := hid hs3; have F3 := hid hf3; have K3 := hid hk3'
    clear hs3 hf3 hk3 hk3'
    go_wp2_with fail
    refine (clone_any ((S2.out.same K3.out).tail (icells_one _) hh (by omega)) (by omega)).mono ?_
    rintro e w4 ⟨a4, c4, rfl, hs4, hf4, hk4⟩
    have S4 := hid hs4; have F4 := hid hf4; have K4 := hid hk4
    clear hs4 hf4 hk4
    have A4 := hid ((K4.out.block _ (row_lt ((K3.out.block _ (row_lt A2.out) (fun h => h)).trans A2.out)) (fun h => h)).trans ((K3.out.block _ (row_lt A2.out) (fun h => h)).trans A2.out))
    have B4 := hid ((K4.out.block _ (row_lt ((K3.out.block _ (row_lt B2.out) (fun h => h)).trans B2.out)) (fun h => h)).trans ((K3.out.block _ (row_lt B2.out) (fun h => h)).trans B2.out))
    go_wp2_with (first
      | (refine wpList_store_cell rfl 29 (.tmp 66) (.tmp 60) rfl (by kernel_rfl) pa 0 rfl (.slice a3 hh c3) rfl rfl A4.out (by simp) ?_; intro w5 hr5 hk5; have A5 := hid hr5.out; have K5 := hid hk5.out; have B5 := hid ((hk5.out.block _ (row_lt B4.out) (fun e => N6.out e.symm)).trans B4.out); clear hr5 hk5)
      | (refine wpList_store_cell rfl 29 (.tmp 68) (.tmp 64) rfl (by kernel_rfl) pb 0 rfl (.slice a4 (T - hh) c4) rfl rfl B5.out (by simp) ?_; intro w6 hr6 hk6; have B6 := hid hr6.out; have K6 := hid hk6.out; clear hr6 hk6))
    go_returns
    have G := ((((K2.out.mono (G := fun a => a = pa ∨ a = pb) (fun _ _ h => h.elim)).trans (K3.out.mono (fun a _ h => h.elim))).trans (K4.out.mono (fun a _ h => h.elim))).trans (K5.out.mono (fun a _ h => .inl h))).trans (K6.out.mono (fun a _ h => .inr h))
    have hFa := H.out.b _ (List.mem_of_getElem? HXA.out)
    have hFb := H.out.b _ (List.mem_of_getElem? HXB.out)
    have z2 := K2.out.size
    have z3 := K3.out.size
    have z4 := K4.out.size
    have k56 := (K5.out.mono (G := fun a => a = pa ∨ a = pb) (fun a _ h => .inl h)).trans (K6.out.mono (fun a _ h => .inr h))
    have f3 : ∀ a, (Value.slice a3 hh c3).ownBlock = some a → w.heap.size ≤ a := fun a ha => Nat.le_trans z2 (F3.out a ha)
    have f4 : ∀ a, (Value.slice a4 (T - hh) c4).ownBlock = some a → w.heap.size ≤ a := fun a ha => Nat.le_trans z2 (Nat.le_trans z3 (F4.out a ha))
    have hS3 := (S3.out.same K4.out).kept k56 (fun a ha e => by have := f3 a ha; omega)
    have hS4 := S4.out.kept k56 (fun a ha e => by have := f4 a ha; omega)
    rw [icells_take] at hS3
    rw [icells_drop] at hS4
    have hA6 := (K6.out.block _ (row_lt A5.out) N6.out).trans A5.out
    have X6 := (G.block _ zx (fun e => by rcases e with e | e; exact N1.out e.symm; exact N2.out e.symm)).trans H.out.r
    have P6 := H.out.s.kept G (fun a ha e => by simp [Value.ownBlock] at ha; subst ha; rcases e with e | e; exact N4.out e; exact N5.out e)
    have e1 := HI1.out
    have e3 := HSL.out
    have hlen : S.length = (A ++ [(pa, .slice a3 hh c3, (La ++ Lb).take hh), (pb, .slice a4 (T - hh) c4, (La ++ Lb).drop hh)] ++ B : List Pg).length := by simp [HI.out]; omega
    have hptr : ptrs S = ptrs (A ++ [(pa, .slice a3 hh c3, (La ++ Lb).take hh), (pb, .slice a4 (T - hh) c4, (La ++ Lb).drop hh)] ++ B) := by
      rw [← HSE.out]
      simp [ptrs]
    have pv' : pl [(pa, Value.slice a3 hh c3, (La ++ Lb).take hh), (pb, Value.slice a4 (T - hh) c4, (La ++ Lb).drop hh)] = split8 (La ++ Lb) := by
      unfold split8; rw [HT.out, if_pos (by omega), EHH.out]; rfl
    have l3 : ((La ++ Lb).take hh).length = hh := by rw [List.length_take, HT.out]; omega
    have l4 : ((La ++ Lb).drop hh).length = T - hh := by rw [List.length_drop, HT.out]
    rw [hptr, hlen] at P6
    rw [hlen] at X6
    have hIx := IxAt.re (A := A) (Y := [(pa, .slice aa La.length ca, La), (pb, .slice ab Lb.length cb, Lb)]) (B := B) (Z := [(pa, .slice a3 hh c3, (La ++ Lb).take hh), (pb, .slice a4 (T - hh) c4, (La ++ Lb).drop hh)]) (n' := n) (by rw [HSE.out]; exact H.out) G
      (fun a ha _ => by
        rcases ha with e | e
        · exact .inr (.inr ⟨_, List.mem_cons_self, .inl e⟩)
        · exact .inr (.inr ⟨_, List.mem_cons_of_mem _ List.mem_cons_self, .inl e⟩))
      X6 P6
      (by
        intro z hz; simp only [List.mem_cons, List.not_mem_nil, or_false] at hz; rcases hz with rfl | rfl
        · exact ⟨hA6, by rw [l3]; exact hS3⟩
        · exact ⟨B6.out, by rw [l4]; exact hS4⟩)
      (by rw [← hlen]; exact H.out.f)
      (by
        intro z hz; simp only [List.mem_cons, List.not_mem_nil, or_false] at hz; rcases hz with rfl | rfl
        · exact ⟨hFa.1, fun a ha => HFF.out _ (f3 a ha)⟩
        · exact ⟨hFb.1, fun a ha => HFF.out _ (f4 a ha)⟩)
      (by
        refine List.pairwise_cons.2 ⟨fun z hz => ?_, PgFar.single _⟩
        rw [List.mem_singleton] at hz; subst hz
        exact ⟨N6.out, fun a ha hb => absurd (S3.out.lt ha) (Nat.not_lt.2 (F4.out a hb))⟩)
      (by
        intro z hz; simp only [List.mem_cons, List.not_mem_nil, or_false] at hz; rcases hz with rfl | rfl
        · exact .inl ⟨_, List.mem_cons_self, rfl⟩
        · exact .inl ⟨_, List.mem_cons_of_mem _ List.mem_cons_self, rfl⟩)
      (by
        intro z hz a ha; simp only [List.mem_cons, List.not_mem_nil, or_false] at hz; rcases hz with rfl | rfl
        · exact .inr (f3 a ha)
        · exact .inr (f4 a ha))
    refine ⟨rfl, _, _, pv', hIx, G.mono (fun a _ ha => ?_)⟩
    rcases ha with rfl | rfl
    · exact hFa.1
    · exact hFb.1
end Go.Proofs.Ytfmohmlpcielnaa
