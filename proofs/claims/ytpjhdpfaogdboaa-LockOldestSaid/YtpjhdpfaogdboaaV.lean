/- tx, SameTxs, awake. -/
import Derived.Test.YtpjhdpfaogdboaaU
namespace Go.Proofs.Ytpjhdpfaogdboaa
set_option linter.unusedSimpArgs false
set_option linter.unusedVariables false
open Go.RowKit
theorem encT_one (L : List Tx) : ∀ u ∈ L.flatMap encT, u.oneCell' = true := by
  intro u hu
  obtain ⟨x, _, hu⟩ := List.mem_flatMap.1 hu
  simp [encT] at hu
  rcases hu with rfl | rfl | rfl <;> rfl
section
variable {α : Type} {f : α → List Value} {m : Nat}
theorem flat_len (hf : ∀ x, (f x).length = m) : ∀ L : List α, (L.flatMap f).length = L.length * m
  | [] => by simp
  | x :: L => by rw [List.flatMap_cons, List.length_append, hf, flat_len hf L, List.length_cons, Nat.succ_mul]; omega
theorem flat_at (hf : ∀ x, (f x).length = m) : ∀ (L : List α) (k j : Nat) (x : α), L[k]? = some x → j < m → (L.flatMap f)[k * m + j]? = (f x)[j]?
  | [], _, _, _, h, _ => by simp at h
  | y :: L, 0, j, x, h, hj => by
    simp at h; subst h
    rw [List.flatMap_cons, Nat.zero_mul, Nat.zero_add, List.getElem?_append_left (by rw [hf]; exact hj)]
  | y :: L, k + 1, j, x, h, hj => by
    rw [List.flatMap_cons, List.getElem?_append_right (by rw [hf, Nat.succ_mul]; omega), hf, show (k + 1) * m + j - m = k * m + j by rw [Nat.succ_mul]; omega]
    exact flat_at hf L k j x (by simpa using h) hj
end
theorem tx_cells {F : Nat → Prop} {w w' : World} {a : Option Addr} {N c : Nat} {L : List Tx} (h : Lies F w 3 (.slice a N c) N (L.flatMap encT)) (hN : L.length = N) (k : Kept (fun _ => False) w w') {j : Nat} {x : Tx} (hx : L[j]? = some x) :
    ∃ g o, a = some ⟨g, o, none⟩ ∧ w'.cell? ⟨g, o + j * 3, none⟩ = some (.int .u8 x.1) ∧ w'.cell? ⟨g, o + j * 3 + 1, none⟩ = some (.int .u32 x.2.1) ∧ w'.cell? ⟨g, o + j * 3 + 2, none⟩ = some (.int .u32 x.2.2) := by
  have hj := (List.getElem?_eq_some_iff.1 hx).1
  obtain ⟨g, o, c', e, _, _, _, _, hc⟩ := h.cell (by omega)
  simp only [Value.slice.injEq] at e
  obtain ⟨rfl, _, rfl⟩ := e
  refine ⟨g, o, rfl, ?_⟩
  have key : ∀ i u, (encT x)[i]? = some u → i < 3 → w'.cell? ⟨g, o + (j * 3 + i), none⟩ = some u := fun i u hu hi => by
    have h1 := flat_at (f := encT) (m := 3) (fun _ => rfl) L j i x hx hi
    rw [hu] at h1
    exact k.cell (hc _ _ h1) id
  exact ⟨key 0 _ rfl (by omega), key 1 _ rfl (by omega), key 2 _ rfl (by omega)⟩
theorem cap_of {F : Nat → Prop} {w : World} {size : Nat} {a : Option Addr} {N c : Nat} {l : List Value} (h : Lies F w size (.slice a N c) N l) : N ≤ c ∧ c ≤ maxLen := by
  obtain ⟨ao, c', e, h1, h2, _⟩ := h
  simp only [Value.slice.injEq] at e
  obtain ⟨_, _, rfl⟩ := e
  exact ⟨h1, h2⟩
set_option maxRecDepth 100000 in
set_option maxHeartbeats 1000000 in
theorem same_txs {F F' : Nat → Prop} {w : World} {a b : Option Addr} {N c d : Nat} {L : List Tx} (ha : Lies F w 3 (.slice a N c) N (L.flatMap encT)) (hb : Lies F' w 3 (.slice b N d) N (L.flatMap encT)) (hLN : L.length = N) (hN : N ≤ 1000000) :
    Calls Try.prog 24 #[.slice a N c, .slice b N d] w fun e w' => e = .returned (.bool true) ∧ Kept (fun _ => False) w w' := by
  obtain ⟨m1, m2⟩ := cap_of ha
  obtain ⟨m3, m4⟩ := cap_of hb
  unfold maxLen at m2 m4
  have HA := hid ha; have HB := hid hb; have HN := hid hLN
  clear ha hb hLN
  go_enter Try.func24, Try.ntmps24
  go_wp2_with fail
  go_loopw [13] (fun i wr => ∃ k : Nat, k ≤ N ∧ i = .int .i64 k ∧ Kept (fun _ => False) w wr) (fun i _ => N - (RowKit.intOf i).toNat)
  case atStart => exact ⟨0, Nat.zero_le _, rfl, Kept.refl _ _⟩
  case round =>
    rename World => wA
    obtain ⟨k, hk, rfl, hkp⟩ := hrel
    have K := hid hkp
    clear hkp
    by_cases hlt : k < N
    · have hkI : (k : Int) < (N : Int) := by omega
      obtain ⟨x, hx⟩ : ∃ x, L[k]? = some x := ⟨_, List.getElem?_eq_getElem (by rw [HN.out]; exact hlt)⟩
      obtain ⟨g1, o1, rfl, q0, q1, q2⟩ := tx_cells HA.out HN.out K.out hx
      obtain ⟨g2, o2, rfl, r0, r1, r2⟩ := tx_cells HB.out HN.out K.out hx
      obtain ⟨x1, x2, x3⟩ := x
      simp only at q0 q1 q2 r0 r1 r2
      have hsame : ∀ w', (Op.equalIn 10000 32 (.agg #[.int .u8 x1, .int .u32 x2, .int .u32 x3]) (.agg #[.int .u8 x1, .int .u32 x2, .int .u32 x3])).run Try.prog w' = .ok true w' := fun w' => by
        have h := tx_same (x1, x2, x3) (x1, x2, x3) w'
        rwa [decide_eq_true rfl] at h
      clear hx
      go_wp2_with fail
      go_quiet (fail)
      have K1 := hid (K.out.trans (kept_drewN (F := fun _ => False) wA nq))
      go_wp2
      go_roundw
      case rel => exact ⟨k + 1, by omega, by go_num, K1.out⟩
      case measure => (simp only [RowKit.intOf]; omega)
    · go_wp2
      go_ret
      exact ⟨rfl, K.out⟩
set_option maxHeartbeats 1000000 in
theorem tx_any (w : World) (n : Int) (h0 : 0 ≤ n) (h1 : n < 4294967296) :
    Calls Try.prog 12 #[.int .i64 n] w fun e w' => e = .returned (.agg #[.int .u8 0, .int .u32 0, .int .u32 n]) ∧ Kept (fun _ => False) w w' := by
  have hw : IntKind.u32.wrap n = n := by simp [IntKind.wrap, IntKind.bits, IntKind.signed]; omega
  have HW := hid hw
  clear hw
  go_enter Try.func12, Try.ntmps12
  go_wp2
  refine bodyPost_ret (v := .agg #[.int .u8 0, .int .u32 0, .int .u32 n]) (by simp [results, Try.results12, go_sem, HW.out]) rfl ⟨rfl, ?_⟩
  exact (Kept.refl _ _).alloc _
/-- a list of one want, new -/
theorem wlit (w : World) (v m : Int) {F : Nat → Prop} (hF : ¬ F w.heap.size) : Lies F (w.alloc (.cells #[.int .u32 v, .int .u8 m] 36)) 2 (.slice (some ⟨w.heap.size, 0, none⟩) 1 1) 1 (wcells [(v, m)]) :=
  (show Own (w.alloc (.cells #[.int .u32 v, .int .u8 m] 36)) 36 2 (.slice (some ⟨w.heap.size, 0, none⟩) 1 1) 1 (wcells [(v, m)]) from Own.mk (n := 1) (row_new w _) (Nat.le_refl _) (by decide) rfl).lies (wcells_one _) (fun g hg => by
    simp only [Value.ownBlock, Option.some.injEq] at hg
    rw [← hg]; exact hF)
theorem tlit (w : World) (t : Tx) {F : Nat → Prop} (hF : ¬ F w.heap.size) : Lies F (w.alloc (.cells #[.int .u8 t.1, .int .u32 t.2.1, .int .u32 t.2.2] 32)) 3 (.slice (some ⟨w.heap.size, 0, none⟩) 1 1) 1 ([t].flatMap encT) :=
  (show Own (w.alloc (.cells #[.int .u8 t.1, .int .u32 t.2.1, .int .u32 t.2.2] 32)) 32 3 (.slice (some ⟨w.heap.size, 0, none⟩) 1 1) 1 ([t].flatMap encT) from Own.mk (n := 1) (row_new w _) (Nat.le_refl _) (by decide) rfl).lies (encT_one _) (fun g hg => by
    simp only [Value.ownBlock, Option.some.injEq] at hg
    rw [← hg]; exact hF)
theorem Txs.kept {w0 w w' : World} {v : Value} {S : List Tx} {F : Nat → Prop} (h : Txs w0 w v S) (k : Kept F w w') (hF : ∀ b, v.ownBlock = some b → ¬ F b) : Txs w0 w' v S := by
  obtain ⟨a, c, rfl, ho, hn⟩ := h
  exact ⟨a, c, rfl, ho.kept k hF, hn⟩
theorem Txs.lies {w0 w : World} {v : Value} {S : List Tx} (h : Txs w0 w v S) : ∃ a c, v = .slice a S.length c ∧ Lies (fun _ => False) w 3 (.slice a S.length c) S.length (S.flatMap encT) := by
  obtain ⟨a, c, rfl, ho, hn⟩ := h
  exact ⟨a, c, rfl, ho.lies (encT_one _) (fun _ _ => id)⟩
def awL1 : List Ow := [⟨(0, 0, 2), 2, [(1, 2)], [], false⟩]
def awL2 : List Ow := [⟨(0, 0, 2), 2, [(1, 2)], [], false⟩, ⟨(0, 0, 3), 3, [], [(1, 1)], false⟩]
def awL3 : List Ow := [⟨(0, 0, 1), 1, [(1, 2)], [], false⟩, ⟨(0, 0, 3), 3, [], [(1, 1)], false⟩]
theorem aw1 : askP [] (0, 0, 2) 2 [(1, 2)] = awL1 ∧ askG [] (0, 0, 2) 2 [(1, 2)] = [(0, 0, 2)] ∧ stO [] (0, 0, 2) 2 [(1, 2)] = 0 := ⟨by kernel_rfl, by kernel_rfl, by kernel_rfl⟩
theorem aw2 : askP awL1 (0, 0, 3) 3 [(1, 1)] = awL2 ∧ askG awL1 (0, 0, 3) 3 [(1, 1)] = [] ∧ stO awL1 (0, 0, 3) 3 [(1, 1)] = 0 := ⟨by kernel_rfl, by kernel_rfl, by kernel_rfl⟩
theorem aw3 : askP awL2 (0, 0, 1) 1 [(1, 2)] = awL3 ∧ askG awL2 (0, 0, 1) 1 [(1, 2)] = [(0, 0, 1)] ∧ askD awL2 (0, 0, 1) 1 [(1, 2)] = [(0, 0, 2)] ∧ stO awL2 (0, 0, 1) 1 [(1, 2)] = 0 := ⟨by kernel_rfl, by kernel_rfl, by kernel_rfl, by kernel_rfl⟩
theorem aw4 : relG awL3 (0, 0, 1) = [(0, 0, 3)] := by kernel_rfl
set_option maxRecDepth 100000 in
set_option maxHeartbeats 2000000 in
theorem awake_any (w : World) : Calls Try.prog 9 #[] w fun e w' => e = .returned (.bool true) ∧ Kept (fun _ => False) w w' := by
  go_enter Try.func9, Try.ntmps9
  go_wp2_with fail
  refine (new_x w).mono ?_
  rintro e w1 ⟨tb, rfl, ht, hle, hk⟩
  obtain ⟨xb, hxb⟩ : ∃ xb, w1.heap.size = xb := ⟨_, rfl⟩
  obtain ⟨w2, hw2⟩ : ∃ w2, w1.alloc (.cells #[.int .u32 1, .int .u8 2] 36) = w2 := ⟨_, rfl⟩
  have k12 : Kept (fun _ => False) w1 w2 := by rw [← hw2]; exact (Kept.refl _ _).alloc _
  have T2 := hid (show TabX (fun i => i < w.heap.size ∨ i = xb) w2 tb [] from ht.fresh k12 (fun _ _ h => h.elim) (fun i hi => hi.imp id (fun e => by rw [e, ← hxb, ← hw2]; exact ⟨Nat.le_refl _, by simp⟩)))
  have X2 := hid (show Lies (fun i => ¬ (i < w.heap.size ∨ i = xb)) w2 2 (.slice (some ⟨xb, 0, none⟩) 1 1) 1 (wcells [(1, 2)]) from by
    rw [← hw2, ← hxb]
    exact wlit w1 1 2 (fun h => h (.inr rfl)))
  have K2 := hid (hk.trans k12)
  clear ht hk k12
  go_wp2_with fail
  try rw [hw2]
  try rw [hxb]
  clear hw2 hxb
  refine (tx_any _ 2 (by decide) (by decide)).mono ?_
  rintro e w3 ⟨rfl, hk3⟩
  have T3 := hid (T2.out.same hk3); have X3 := hid (X2.out.same hk3); have K3 := hid (K2.out.trans hk3)
  clear hk3 T2 X2 K2
  have q1 := ask_x T3.out (0, 0, 2) 2 (ws := [(1, 2)]) X3.out (by decide) (by decide)
  rw [aw1.1, aw1.2.1, aw1.2.2] at q1
  have Q1 := hid q1
  clear q1
  go_wp2_with fail
  refine (Q1.out).mono ?_
  rintro e w4 ⟨v1, v2, rfl, ⟨a1, c1, rfl, ho1, hn1⟩, -, ht4, hk4⟩
  have T4 := hid (ht4.mono (Q := fun i => i < w.heap.size ∨ i = xb) (fun i hi => .inl hi))
  have X4 := hid (X3.out.kept hk4 (fun g _ h => h))
  have K4 := hid (show Kept (fun i => w.heap.size ≤ i) w w4 from (K3.out.mono (fun _ _ h => h.elim)).trans (hk4.mono (fun i _ h => by omega)))
  clear ho1 hn1 ht4 hk4 T3 X3 K3 Q1
  go_wp2_with fail
  refine (tx_any _ 3 (by decide) (by decide)).mono ?_
  rintro e w5 ⟨rfl, hk5⟩
  have T5 := hid (T4.out.same hk5); have X5 := hid (X4.out.same hk5); have K5 := hid (K4.out.trans (hk5.mono (fun _ _ h => h.elim)))
  clear hk5 T4 X4 K4
  obtain ⟨yb, hyb⟩ : ∃ yb, w5.heap.size = yb := ⟨_, rfl⟩
  obtain ⟨w6, hw6⟩ : ∃ w6, w5.alloc (.cells #[.int .u32 1, .int .u8 1] 36) = w6 := ⟨_, rfl⟩
  have k56 : Kept (fun _ => False) w5 w6 := by rw [← hw6]; exact (Kept.refl _ _).alloc _
  have T6 := hid (show TabX (fun i => (i < w.heap.size ∨ i = xb) ∨ i = yb) w6 tb awL1 from T5.out.fresh k56 (fun _ _ h => h.elim) (fun i hi => hi.imp id (fun e => by rw [e, ← hyb, ← hw6]; exact ⟨Nat.le_refl _, by simp⟩)))
  have X6 := hid (X5.out.same k56)
  have Y6 := hid (show Lies (fun i => ¬ ((i < w.heap.size ∨ i = xb) ∨ i = yb)) w6 2 (.slice (some ⟨yb, 0, none⟩) 1 1) 1 (wcells [(1, 1)]) from by
    rw [← hw6, ← hyb]
    exact wlit w5 1 1 (fun h => h (.inr rfl)))
  have K6 := hid (K5.out.trans (k56.mono (fun _ _ h => h.elim)))
  clear k56 T5 X5 K5
  have q2 := ask_x T6.out (0, 0, 3) 3 (ws := [(1, 1)]) Y6.out (by decide) (by decide)
  rw [aw2.1, aw2.2.1, aw2.2.2] at q2
  have Q2 := hid q2
  clear q2
  go_wp2_with fail
  try rw [hw6]
  try rw [hyb]
  clear hw6 hyb
  refine (Q2.out).mono ?_
  rintro e w7 ⟨v3, v4, rfl, ⟨a3, c3, rfl, ho3, hn3⟩, -, ht7, hk7⟩
  have T7 := hid (ht7.mono (Q := fun i => i < w.heap.size ∨ i = xb) (fun i hi => .inl (.inl hi)))
  have X7 := hid (X6.out.kept hk7 (fun g _ h hg => h (.inl hg)))
  have K7 := hid (K6.out.trans (hk7.mono (fun i _ h => by omega)))
  clear ho3 hn3 ht7 hk7 T6 X6 K6 Q2 Y6
  go_wp2_with fail
  refine (tx_any _ 1 (by decide) (by decide)).mono ?_
  rintro e w8 ⟨rfl, hk8⟩
  have T8 := hid (T7.out.same hk8); have X8 := hid (X7.out.same hk8); have K8 := hid (K7.out.trans (hk8.mono (fun _ _ h => h.elim)))
  clear hk8 T7 X7 K7
  have q3 := ask_x T8.out (0, 0, 1) 1 (ws := [(1, 2)]) X8.out (by decide) (by decide)
  rw [aw3.1, aw3.2.1, aw3.2.2.1, aw3.2.2.2] at q3
  have Q3 := hid q3
  clear q3
  go_wp2_with fail
  refine (Q3.out).mono ?_
  rintro e w9 ⟨v5, v6, rfl, ⟨a5, c5, rfl, ho5, hn5⟩, ⟨a6, c6, rfl, ho6, hn6⟩, ht9, hk9⟩
  have T9 := hid (ht9.mono (Q := fun i => i < w.heap.size ∨ (Value.slice a5 1 c5).ownBlock = some i ∨ (Value.slice a6 1 c6).ownBlock = some i) (fun i hi => hi.imp .inl id))
  have A9 := hid ho5; have B9 := hid ho6
  have K9 := hid (K8.out.trans (hk9.mono (fun i _ h => by omega)))
  clear ho5 hn5 ho6 hn6 ht9 hk9 T8 X8 K8 Q3
  go_wp2_with fail
  refine (tx_any _ 1 (by decide) (by decide)).mono ?_
  rintro e w10 ⟨rfl, hk10⟩
  have T10 := hid (T9.out.same hk10); have A10 := hid (A9.out.kept hk10 (fun _ _ => id)); have B10 := hid (B9.out.kept hk10 (fun _ _ => id)); have K10 := hid (K9.out.trans (hk10.mono (fun _ _ h => h.elim)))
  clear hk10 T9 A9 B9 K9
  have q4 := rel_x T10.out (0, 0, 1) (by decide)
  rw [aw4] at q4
  have Q4 := hid q4
  clear q4
  go_wp2_with fail
  refine (Q4.out).mono ?_
  rintro e w11 ⟨v7, rfl, ⟨a7, c7, rfl, ho7, hn7⟩, -, hk11⟩
  have A11 := hid (A10.out.kept hk11 (fun b hb h => h (.inr (.inl hb)))); have B11 := hid (B10.out.kept hk11 (fun b hb h => h (.inr (.inr hb)))); have C11 := hid ho7
  have K11 := hid (K10.out.trans (hk11.mono (fun i _ h => by omega)))
  clear ho7 hn7 hk11 T10 A10 B10 K10 Q4
  go_wp2_with fail
  refine (tx_any _ 1 (by decide) (by decide)).mono ?_
  rintro e w12 ⟨rfl, hk12⟩
  obtain ⟨zb12, hzb⟩ : ∃ zb, w12.heap.size = zb := ⟨_, rfl⟩
  obtain ⟨w13, hw13⟩ : ∃ w13, w12.alloc (.cells #[.int .u8 0, .int .u32 0, .int .u32 1] 32) = w13 := ⟨_, rfl⟩
  have k13 : Kept (fun _ => False) w11 w13 := by rw [← hw13]; exact hk12.alloc _
  have L13 := hid (show Lies (fun _ => False) w13 3 (.slice (some ⟨zb12, 0, none⟩) 1 1) 1 (List.flatMap encT [(0, 0, 1)]) from by rw [← hw13, ← hzb]; exact tlit w12 (0, 0, 1) id)
  have S13 := hid (((A11).out.kept k13 (fun _ _ => id)).lies (encT_one _) (F := fun _ => False) (fun _ _ => id))
  have KK13 := hid k13
  clear hk12 k13
  go_wp2_with fail
  try rw [hw13]
  try rw [hzb]
  clear hw13 hzb
  refine (same_txs (L := [(0, 0, 1)]) S13.out L13.out rfl (by decide)).mono ?_
  rintro e w14 ⟨rfl, hk14⟩
  have KK14 := hid (KK13.out.trans hk14)
  clear hk14 S13 L13 KK13
  have B14 := hid (B11.out.kept KK14.out (fun _ _ => id)); have C14 := hid (C11.out.kept KK14.out (fun _ _ => id)); have K14 := hid (K11.out.trans (KK14.out.mono (fun _ _ h => h.elim)))
  clear A11 B11 C11 K11 KK14
  go_wp2_with fail
  refine (tx_any _ 2 (by decide) (by decide)).mono ?_
  rintro e w15 ⟨rfl, hk15⟩
  obtain ⟨zb15, hzb⟩ : ∃ zb, w15.heap.size = zb := ⟨_, rfl⟩
  obtain ⟨w16, hw16⟩ : ∃ w16, w15.alloc (.cells #[.int .u8 0, .int .u32 0, .int .u32 2] 32) = w16 := ⟨_, rfl⟩
  have k16 : Kept (fun _ => False) w14 w16 := by rw [← hw16]; exact hk15.alloc _
  have L16 := hid (show Lies (fun _ => False) w16 3 (.slice (some ⟨zb15, 0, none⟩) 1 1) 1 (List.flatMap encT [(0, 0, 2)]) from by rw [← hw16, ← hzb]; exact tlit w15 (0, 0, 2) id)
  have S16 := hid (((B14).out.kept k16 (fun _ _ => id)).lies (encT_one _) (F := fun _ => False) (fun _ _ => id))
  have KK16 := hid k16
  clear hk15 k16
  go_wp2_with fail
  try rw [hw16]
  try rw [hzb]
  clear hw16 hzb
  refine (same_txs (L := [(0, 0, 2)]) S16.out L16.out rfl (by decide)).mono ?_
  rintro e w17 ⟨rfl, hk17⟩
  have KK17 := hid (KK16.out.trans hk17)
  clear hk17 S16 L16 KK16
  have C17 := hid (C14.out.kept KK17.out (fun _ _ => id)); have K17 := hid (K14.out.trans (KK17.out.mono (fun _ _ h => h.elim)))
  clear B14 C14 K14 KK17
  go_wp2_with fail
  refine (tx_any _ 3 (by decide) (by decide)).mono ?_
  rintro e w18 ⟨rfl, hk18⟩
  obtain ⟨zb18, hzb⟩ : ∃ zb, w18.heap.size = zb := ⟨_, rfl⟩
  obtain ⟨w19, hw19⟩ : ∃ w19, w18.alloc (.cells #[.int .u8 0, .int .u32 0, .int .u32 3] 32) = w19 := ⟨_, rfl⟩
  have k19 : Kept (fun _ => False) w17 w19 := by rw [← hw19]; exact hk18.alloc _
  have L19 := hid (show Lies (fun _ => False) w19 3 (.slice (some ⟨zb18, 0, none⟩) 1 1) 1 (List.flatMap encT [(0, 0, 3)]) from by rw [← hw19, ← hzb]; exact tlit w18 (0, 0, 3) id)
  have S19 := hid (((C17).out.kept k19 (fun _ _ => id)).lies (encT_one _) (F := fun _ => False) (fun _ _ => id))
  have KK19 := hid k19
  clear hk18 k19
  go_wp2_with fail
  try rw [hw19]
  try rw [hzb]
  clear hw19 hzb
  refine (same_txs (L := [(0, 0, 3)]) S19.out L19.out rfl (by decide)).mono ?_
  rintro e w20 ⟨rfl, hk20⟩
  have KK20 := hid (KK19.out.trans hk20)
  clear hk20 S19 L19 KK19
  have K20 := hid (K17.out.trans (KK20.out.mono (fun _ _ h => h.elim)))
  go_wp2
  go_ret
  exact ⟨rfl, K20.out.mono (fun i hi h => by omega)⟩
end Go.Proofs.Ytpjhdpfaogdboaa
