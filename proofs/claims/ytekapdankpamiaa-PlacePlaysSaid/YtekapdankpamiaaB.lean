/- New, Check, the example; the law PlaceKnows. -/
import Derived.Test.YtekapdankpamiaaA
namespace Go.Proofs.Ytekapdankpamiaa
open Go.RowKit

set_option maxRecDepth 100000 in
set_option maxHeartbeats 1000000 in
theorem new_ok (n : Int) (w : World) (hn : 0 < n ∧ n ≤ 4) :
    Calls Try.prog 8 #[.int .i64 n] w fun e w' => e = .returned (.tuple #[.pointer (some ⟨w.heap.size + 1, 0, none⟩), .int .i64 0]) ∧ DirAt w' (w.heap.size + 1) w.heap.size n (fun _ => none) ∧ Kept (fun _ => False) w w' := by
  have hmm := @run_makeMap Try.prog
  obtain ⟨n0, n4⟩ := hn
  have h1 : ¬ n < 1 := by omega
  go_enter Try.func8, Try.ntmps8
  go_wp2
  go_returns
  refine ⟨rfl, ⟨?_, [], ?_, fun v => rfl⟩, ((Kept.refl _ _).alloc _).alloc _⟩
  · simpa using row_new (w.alloc (.map #[] 0)) (.cells #[.int .i64 n, .map (some w.heap.size)] 52)
  · exact (MapIs.made w .u32).of_block (Below.heap_alloc _ _ _ (by simp))

set_option maxRecDepth 100000 in
set_option maxHeartbeats 1000000 in
theorem new_bad (n : Int) (w : World) (hn : ¬ (0 < n ∧ n ≤ 4)) :
    Calls Try.prog 8 #[.int .i64 n] w fun e w' => e = .returned (.tuple #[.pointer none, .int .i64 1]) ∧ w = w' := by
  have H := hid hn; clear hn
  go_enter Try.func8, Try.ntmps8
  go_wp2
  all_goals first | (exfalso; have := H.out; omega) | (go_returns; exact ⟨rfl, rfl⟩)

def chk (n : Int) (g : Int → Option (Int × Int)) (v k ep : Int) : Int :=
  if thr n v k ≠ 0 then thr n v k else if (own n g v).1 ≠ k then 6 else if (own n g v).2 ≠ ep then 15 else 0

set_option maxRecDepth 100000 in
set_option maxHeartbeats 1000000 in
theorem check_any {db mb : Nat} {n : Int} {g : Int → Option (Int × Int)} (v k ep : Int) (w : World) (h : DirAt w db mb n g) (hn : 0 < n ∧ n ≤ 4) (hk : 0 ≤ k ∧ k ≤ 255) :
    Calls Try.prog 11 #[.pointer (some ⟨db, 0, none⟩), .int .u32 v, .int .u8 k, .int .u32 ep] w fun e w' =>
      e = .returned (.int .i64 (chk n g v k ep)) ∧ Below w.heap.size w w' := by
  have H := hid h; clear h
  have HN := hid hn; clear hn
  have HK := hid hk; clear hk
  by_cases ht : thr n v k = 0
  · have hnum : num v = true := by
      unfold thr at ht; split at ht
      · rename_i hh; exact hh.1
      · cases ht
    obtain ⟨o, e0, ho⟩ : ∃ o e, own n g v = (o, e) := ⟨_, _, rfl⟩
    have HT := hid ht
    have HV := hid hnum
    have HW := hid ho
    clear hnum ho
    go_enter Try.func11, Try.ntmps11
    go_wp2_with fail
    refine (there_any _ _ _ H.out HN.out HK.out).mono ?_; rintro e w' ⟨rfl, rfl⟩
    go_wp2_with fail
    refine (owner_yes _ _ H.out HN.out HV.out HW.out).mono ?_; rintro e w1 ⟨rfl, hb⟩
    clear ht
    have hb2 := hid (hb.alloc hb.size (.cells #[.int .u32 v, .int .u8 o, .int .u32 e0] 33))
    clear hb
    go_wp2
    all_goals (go_ret; refine ⟨ret_int ?_, hb2.out⟩; simp_all [chk, HT.out, HW.out])
  · have ht' : (thr n v k != 0) = true := by simpa using ht
    have HT := hid ht; clear ht
    go_enter Try.func11, Try.ntmps11
    go_wp2_with fail
    refine (there_any _ _ _ H.out HN.out HK.out).mono ?_; rintro e w' ⟨rfl, rfl⟩
    go_wp2
    go_ret
    exact ⟨ret_int (by simp [chk, HT.out]), Below.refl _ _⟩

set_option maxRecDepth 100000 in
set_option maxHeartbeats 1000000 in
theorem awake_any (w : World) :
    Calls Try.prog 7 #[] w fun e w' => e = .returned (.bool true) ∧ Below w.heap.size w w' := by
  go_enter Try.func7, Try.ntmps7
  go_wp2_with fail
  refine (new_ok 3 _ (by omega)).mono ?_; rintro e w1 ⟨rfl, hd, hk⟩
  have HD := hid hd; clear hd
  go_wp2_with fail
  refine (owner_yes (o := 1) (ep := 0) 7 _ HD.out (by omega) (by decide) (by rfl)).mono ?_; rintro e w2 ⟨rfl, hb⟩
  have hd2 := hid (HD.out.kept (F := fun _ => False) (Kept.of_below hb _) id id)
  have e1 : (mv 3 (fun _ => none) 7 2 1).1 = 0 := by decide
  have e2 : chk 3 (mv 3 (fun _ => none) 7 2 1).2 7 2 1 = 0 := by decide
  have e3 : chk 3 (mv 3 (fun _ => none) 7 2 1).2 7 1 0 = 6 := by decide
  have e4 : (mv 3 (mv 3 (fun _ => none) 7 2 1).2 7 0 1).1 = 15 := by decide
  have b0 : Below w.heap.size w w1 := hk.below (Nat.le_refl _) (fun _ h => h.elim)
  have b2 := hid ((b0.trans (hb.mono b0.size)).alloc (Nat.le_trans b0.size hb.size) (.cells #[.int .u32 7, .int .u8 1, .int .u32 0] 33))
  clear hb hk b0
  go_wp2_with fail
  refine (move_any 7 2 1 _ (hd2.out.alloc _) (by omega) (by omega)).mono ?_; rintro e w3 ⟨rfl, hd3, k3⟩
  have b3 := hid (b2.out.trans (k3.below (B := w.heap.size) b2.out.size (fun i h => by omega)))
  have HD3 := hid hd3; clear hd3 k3
  go_wp2_with fail
  refine (check_any 7 2 1 _ HD3.out (by omega) (by omega)).mono ?_; rintro e w4 ⟨rfl, k4⟩
  have HD4 := hid (HD3.out.kept (F := fun _ => False) (Kept.of_below k4 _) id id)
  have b4 := hid (b3.out.trans (k4.mono b3.out.size)); clear k4
  go_wp2_with fail
  refine (check_any 7 1 0 _ HD4.out (by omega) (by omega)).mono ?_; rintro e w5 ⟨rfl, k5⟩
  have HD5 := hid (HD4.out.kept (F := fun _ => False) (Kept.of_below k5 _) id id)
  have b5 := hid (b4.out.trans (k5.mono b4.out.size)); clear k5
  go_wp2_with fail
  refine (move_any 7 0 1 _ HD5.out (by omega) (by omega)).mono ?_; rintro e w6 ⟨rfl, _, k6⟩
  have b6 := hid (b5.out.trans (k6.below (B := w.heap.size) b5.out.size (fun i h => by omega)))
  clear k6
  go_wp2
  go_ret
  exact ⟨rfl, b6.out⟩

/-- what a directory holds is in range -/
def Inv (n : Int) (g : Int → Option (Int × Int)) : Prop := ∀ v o e, g v = some (o, e) → 0 ≤ o ∧ o < n ∧ 0 ≤ e ∧ e ≤ 4294967295
theorem inv_none (n : Int) : Inv n (fun _ => none) := fun _ _ _ h => nomatch h
theorem inv_mv {n : Int} {g : Int → Option (Int × Int)} (h : Inv n g) (v to ep : Int) (ht : 0 ≤ to) (he : 0 ≤ ep ∧ ep ≤ 4294967295) : Inv n (mv n g v to ep).2 := by
  unfold mv
  split
  · exact h
  · rename_i h1
    split
    · exact h
    · intro x o e hx
      simp only at hx
      split at hx
      · simp at hx; obtain ⟨rfl, rfl⟩ := hx
        have : to < n := by
          unfold thr at h1
          split at h1
          · rename_i h2; exact h2.2
          · exact absurd (by decide) h1
        omega
      · exact h x o e hx
theorem inv_own {n : Int} {g : Int → Option (Int × Int)} (h : Inv n g) (hn : 0 < n) (v : Int) : 0 ≤ (own n g v).1 ∧ (own n g v).1 < n ∧ 0 ≤ (own n g v).2 ∧ (own n g v).2 ≤ 4294967295 := by
  unfold own
  cases hg : g v with
  | none => exact ⟨Int.emod_nonneg _ (by omega), Int.emod_lt_of_pos _ hn, by simp, by simp⟩
  | some p => exact h v p.1 p.2 hg
theorem chk_zero {n : Int} {g : Int → Option (Int × Int)} {v k ep : Int} (h : thr n v k = 0) : chk n g v k ep = 0 ↔ (own n g v).1 = k ∧ (own n g v).2 = ep := by
  unfold chk
  rw [if_neg (by simpa using h)]
  split
  · rename_i h1; simp [h1]
  · rename_i h1
    simp only [ne_eq, Decidable.not_not] at h1
    split
    · rename_i h2; simp [h1, h2]
    · rename_i h2; simp only [ne_eq, Decidable.not_not] at h2; simp [h1, h2]

theorem op_read {w : World} {es : List Value} (h : Rd Try.prog w 30 es) (hl : es.length = 6) : ∃ v u to nd ep si, es = [.int .u32 v, .int .u32 u, .int .u8 to, .int .u8 nd, .int .u32 ep, .int .u32 si] ∧
    (0 ≤ v ∧ v ≤ 4294967295) ∧ (0 ≤ u ∧ u ≤ 4294967295) ∧ (0 ≤ to ∧ to ≤ 255) ∧ (0 ≤ nd ∧ nd ≤ 255) ∧ (0 ≤ ep ∧ ep ≤ 4294967295) ∧ (0 ≤ si ∧ si ≤ 4294967295) := by
  have c23 : Try.prog.cellsOf 23 = 1 := by kernel_rfl
  have c5 : Try.prog.cellsOf 5 = 1 := by kernel_rfl
  match es, hl with
  | [x0, x1, x2, x3, x4, x5], _ =>
    have h0 : Rd Try.prog w 23 [x0] := h.field Try.underlying30 0 23 0 1 rfl c23
    have h1 : Rd Try.prog w 23 [x1] := h.field Try.underlying30 1 23 1 1 rfl c23
    have h2 : Rd Try.prog w 5 [x2] := h.field Try.underlying30 2 5 2 1 rfl c5
    have h3 : Rd Try.prog w 5 [x3] := h.field Try.underlying30 3 5 3 1 rfl c5
    have h4 : Rd Try.prog w 23 [x4] := h.field Try.underlying30 4 23 4 1 rfl c23
    have h5 : Rd Try.prog w 23 [x5] := h.field Try.underlying30 5 23 5 1 rfl c23
    obtain ⟨a0, e0, w0⟩ := h0.int Try.underlying23
    obtain ⟨a1, e1, w1⟩ := h1.int Try.underlying23
    obtain ⟨a2, e2, w2⟩ := h2.int Try.underlying5
    obtain ⟨a3, e3, w3⟩ := h3.int Try.underlying5
    obtain ⟨a4, e4, w4⟩ := h4.int Try.underlying23
    obtain ⟨a5, e5, w5⟩ := h5.int Try.underlying23
    simp only [List.cons.injEq, and_true] at e0 e1 e2 e3 e4 e5
    subst e0 e1 e2 e3 e4 e5
    simp [Lit.wf, IntKind.min, IntKind.max, IntKind.signed, IntKind.bits] at w0 w1 w2 w3 w4 w5
    exact ⟨_, _, _, _, _, _, rfl, by omega, by omega, by omega, by omega, by omega, by omega⟩

set_option maxRecDepth 100000 in
set_option maxHeartbeats 2000000 in
theorem knows_walk (W : World) (args : Array Value) (h : RdAll Try.prog W Try.f3.params.toList args.toList) :
    Calls Try.prog 3 args W fun e W' => e = .returned (.bool true) ∧ Below W.heap.size W W' := by
  rw [Try.params3] at h
  obtain ⟨v0, v1, v2, v3, rfl⟩ : ∃ v0 v1 v2 v3, args = #[v0, v1, v2, v3] := by
    rcases args with ⟨_ | ⟨v0, _ | ⟨v1, _ | ⟨v2, _ | ⟨v3, _ | ⟨v4, l⟩⟩⟩⟩⟩⟩ <;> simp [RdAll] at h
    exact ⟨v0, v1, v2, v3, rfl⟩
  obtain ⟨r0, r1, r2, r3, _⟩ := h
  obtain ⟨nd, rfl, wf0⟩ := r0.int Try.underlying5
  obtain ⟨a1, len1, cap1, rfl, h1⟩ := r1.slice Try.underlying22
  obtain ⟨vv, rfl, wf2⟩ := r2.int Try.underlying23
  obtain ⟨ep, rfl, wf3⟩ := r3.int Try.underlying23
  obtain ⟨l1, m1, z1, _, c1⟩ := h1.row (n := 6) Try.underlying22 (by kernel_rfl) (by decide)
  unfold maxLen at m1
  simp [Lit.wf, IntKind.min, IntKind.max, IntKind.signed, IntKind.bits] at wf0 wf2 wf3
  have C1 := hid c1; clear c1 h1 r0 r1 r2 r3 z1
  obtain ⟨n, hn⟩ : ∃ n : Nat, 1 + nd % 4 = (n : Int) := ⟨(1 + nd % 4).toNat, by omega⟩
  have hn1 : 1 ≤ n := by omega
  have hn5 : n ≤ 4 := by omega
  obtain ⟨y, hy⟩ : ∃ y : Int, 1 + vv % 40 = y := ⟨_, rfl⟩
  have hy1 : 1 ≤ y ∧ y ≤ 40 := by omega
  have hnd0 : 0 ≤ nd ∧ nd ≤ 255 := by omega
  have hvv : 0 ≤ vv ∧ vv ≤ 4294967295 := by omega
  obtain ⟨nd0, nd1⟩ := hnd0
  obtain ⟨vv0, vv1⟩ := hvv
  clear wf0 wf2
  go_enter Try.func3, Try.ntmps3
  go_wp2_with fail
  refine (awake_any _).mono ?_; rintro e w1 ⟨rfl, hb1⟩
  have HB1 := hid hb1
  go_wp2_with fail
  refine (new_ok n _ (by omega)).mono ?_; rintro e w2 ⟨rfl, hd, hk⟩
  have HD := hid hd
  have HB2 := hid (hb1.trans (hk.below (B := W.heap.size) hb1.size (fun _ h => h.elim)))
  have hB : W.heap.size ≤ w1.heap.size := hb1.size
  clear hb1 hd hk
  go_wp2_with fail
  go_loopw [34] (fun i wr => ∃ (k : Nat) (g : Int → Option (Int × Int)), k ≤ len1 ∧ i = .int .i64 k ∧ DirAt wr (w1.heap.size + 1) w1.heap.size n g ∧ Inv n g ∧ Below W.heap.size W wr)
    (fun i _ => len1 - (intOf i).toNat)
  case atStart => exact ⟨0, fun _ => none, Nat.zero_le _, rfl, HD.out, inv_none _, HB2.out⟩
  case round =>
    obtain ⟨k, g, hk, rfl, hd, hinv, hbel⟩ := hrel
    have HR := hid hd
    have HI := hid hinv
    have HQ := hid hbel
    clear hd hinv hbel
    by_cases hlt : k < len1
    · obtain ⟨b, off, es, rfl, hbl, hes, hcv, hr⟩ := C1.out k (by omega)
      obtain ⟨ov, ou, oto, ond, oep, osi, rfl, q0, q1, q2, q3, q4, q5⟩ := op_read hr hes
      have k0 := (HQ.out.cell (p := ⟨b, off + k * 6 + 0, none⟩) hbl).trans (hcv 0 (by omega))
      have k1 := (HQ.out.cell (p := ⟨b, off + k * 6 + 1, none⟩) hbl).trans (hcv 1 (by omega))
      have k2 := (HQ.out.cell (p := ⟨b, off + k * 6 + 2, none⟩) hbl).trans (hcv 2 (by omega))
      have k3 := (HQ.out.cell (p := ⟨b, off + k * 6 + 3, none⟩) hbl).trans (hcv 3 (by omega))
      have k4 := (HQ.out.cell (p := ⟨b, off + k * 6 + 4, none⟩) hbl).trans (hcv 4 (by omega))
      have k5 := (HQ.out.cell (p := ⟨b, off + k * 6 + 5, none⟩) hbl).trans (hcv 5 (by omega))
      simp only [List.getElem?_cons_zero, List.getElem?_cons_succ, Nat.add_zero] at k0 k1 k2 k3 k4 k5
      clear hcv hr hes
      by_cases h60 : (k : Int) < 60
      · go_wp2_with fail
        refine (move_any ov oto oep _ (by exact HR.out.alloc _) (by omega) q2).mono ?_; rintro e w3 ⟨rfl, hd3, k3⟩
        have b3 := hid ((HQ.out.alloc HQ.out.size _).trans (k3.below (B := W.heap.size) (by have := HQ.out.size; simp; omega) (fun i h => by omega)))
        have HD3 := hid hd3; clear hd3 k3
        have HI3 := hid (inv_mv HI.out ov oto oep q2.1 q4)
        go_wp2
        go_roundw
        case rel => exact ⟨k + 1, _, by omega, by go_num, HD3.out, HI3.out, b3.out⟩
        case measure => simp [intOf]; omega
      · go_wp2
        go_roundw
        case rel => exact ⟨k + 1, _, by omega, by go_num, HR.out.alloc _, HI.out, HQ.out.alloc HQ.out.size _⟩
        case measure => simp [intOf]; omega
    · have hny : num y = true := by simp [num]; omega
      obtain ⟨o, e0, ho⟩ : ∃ o e, own n g y = (o, e) := ⟨_, _, rfl⟩
      have hown := inv_own HI.out (show (0 : Int) < n by omega) y
      rw [ho] at hown
      obtain ⟨o0, o1, ee0, ee1⟩ := hown
      have hdec : decide ((n : Int) ≤ o) = false := by simp; omega
      have HW := hid ho; clear ho
      have HNY := hid hny; clear hny
      go_wp2_with fail
      refine (owner_yes y _ HR.out (by omega) HNY.out HW.out).mono ?_; rintro e w3 ⟨rfl, hb⟩
      have HD3 := hid (HR.out.kept (F := fun _ => False) (Kept.of_below hb _) id id)
      have b3 := hid (HQ.out.trans (hb.mono HQ.out.size)); clear hb
      go_wp2_with fail
      have HSZ := hid b3.out.size
      go_loopw [75] (fun i wz => ∃ q : Nat, q ≤ n ∧ i = .int .i64 q ∧ DirAt wz (w1.heap.size + 1) w1.heap.size n g ∧ wz.cell? ⟨w3.heap.size, 1, none⟩ = some (.int .u8 o) ∧ wz.cell? ⟨w3.heap.size, 2, none⟩ = some (.int .u32 e0) ∧ Below W.heap.size W wz)
        (fun i _ => n - (intOf i).toNat)
      case atStart => exact ⟨0, Nat.zero_le _, rfl, HD3.out.alloc _, by simp [go_sem], by simp [go_sem], b3.out.alloc HSZ.out _⟩
      case round =>
        clear HD3 b3
        obtain ⟨q, hq, rfl, hdz, x1, x2, hbz⟩ := hrel
        have HDZ := hid hdz
        have HBZ := hid hbz
        clear hdz hbz
        by_cases hqn : q < n
        · have hthr : thr n y q = 0 := by simp [thr, HNY.out]; omega
          have hqn' : (q : Int) < (n : Int) := by omega
          have ca := chk_zero (ep := e0) (g := g) hthr
          have cb := chk_zero (ep := ep) (g := g) hthr
          rw [HW.out] at ca cb
          simp only at ca cb
          have hx : ((chk n g y q e0 == 0) = true ∧ (q : Int) = o ∧ (((chk n g y q ep == 0) = true ∧ ep = e0) ∨ ((chk n g y q ep == 0) = false ∧ (ep == e0) = false))) ∨ ((chk n g y q e0 == 0) = false ∧ (chk n g y q ep == 0) = false ∧ ((q : Int) == o) = false) := by
            by_cases h1 : (q : Int) = o
            · refine .inl ⟨by simpa using ca.2 ⟨h1.symm, trivial⟩, h1, ?_⟩
              by_cases h2 : ep = e0
              · exact .inl ⟨by simpa using cb.2 ⟨h1.symm, h2.symm⟩, h2⟩
              · exact .inr ⟨by simp only [beq_eq_false_iff_ne, ne_eq]; intro h; exact h2 (cb.1 h).2.symm, by simpa using h2⟩
            · exact .inr ⟨by simp only [beq_eq_false_iff_ne, ne_eq]; intro h; exact h1 (ca.1 h).1.symm, by simp only [beq_eq_false_iff_ne, ne_eq]; intro h; exact h1 (cb.1 h).1.symm, by simpa using h1⟩
          clear ca cb hthr HW HNY
          rcases hx with ⟨t1, rfl, ⟨t2, rfl⟩ | ⟨t2, t3⟩⟩ | ⟨t1, t2, t3⟩
          all_goals
            go_wp2_with fail
            refine (check_any y q _ _ HDZ.out (by omega) (by omega)).mono ?_; rintro e w5 ⟨rfl, k5⟩
            have HD5 := hid (HDZ.out.kept (F := fun _ => False) (Kept.of_below k5 _) id id)
            have b5 := hid (HBZ.out.trans (k5.mono HBZ.out.size))
            have y1 := (Kept.of_below k5 (fun _ => False)).cell x1 id
            have y2 := (Kept.of_below k5 (fun _ => False)).cell x2 id
            clear k5
            go_wp2_with fail
            refine (check_any y q _ _ HD5.out (by omega) (by omega)).mono ?_; rintro e w6 ⟨rfl, k6⟩
            have HD6 := hid (HD5.out.kept (F := fun _ => False) (Kept.of_below k6 _) id id)
            have b6 := hid (b5.out.trans (k6.mono b5.out.size))
            have z1 := (Kept.of_below k6 (fun _ => False)).cell y1 id
            have z2 := (Kept.of_below k6 (fun _ => False)).cell y2 id
            clear k6 x1 x2 y1 y2
            go_wp2
            all_goals
              go_roundw
              case rel => exact ⟨q + 1, by omega, by go_num, HD6.out, z1, z2, b6.out⟩
              case measure => simp [intOf]; omega
        · go_wp2
          go_ret
          exact ⟨rfl, HBZ.out⟩
end Go.Proofs.Ytekapdankpamiaa
