/- PROVED: the law LockPlays returns true for every input and leaves its arguments as they were. No condition. -/
/- Texts of this claim, merged: Dp, Plays. -/
import Derived.Deep.CutBlock
import Derived.Deep.RegionHeld3
import Derived.HandedShaped
import Derived.Test.YtpjhdpfaogdboaaPm1
import Derived.Test.YtpjhdpfaogdboaaPm2
import Derived.Test.YtpjhdpfaogdboaaPm3
import Derived.Test.YtpjhdpfaogdboaaPm4
import Derived.Test.YtpjhdpfaogdboaaPm5
import Derived.Test.YtpjhdpfaogdboaaPm6
import Derived.Test.YtpjhdpfaogdboaaPm7
import Derived.Test.YtpjhdpfaogdboaaPm8
import Derived.Test.YtpjhdpfaogdboaaPm9
import Derived.Test.YtpjhdpfaogdboaaPm10
import Derived.Test.YtpjhdpfaogdboaaPm11
import Derived.Test.YtpjhdpfaogdboaaPm12
import Derived.Test.YtpjhdpfaogdboaaPm13
import Derived.Test.YtpjhdpfaogdboaaPm14
import Derived.Test.YtpjhdpfaogdboaaPm15
import Derived.Test.YtpjhdpfaogdboaaPm16
import Derived.Test.YtpjhdpfaogdboaaPm17
import Derived.Test.YtpjhdpfaogdboaaPm18
import Derived.Test.YtpjhdpfaogdboaaPm19
import Derived.Test.YtpjhdpfaogdboaaPm20
import Derived.Test.YtpjhdpfaogdboaaPm21
import Derived.Test.YtpjhdpfaogdboaaPm22
import Derived.Test.YtpjhdpfaogdboaaPm23
import Derived.Test.YtpjhdpfaogdboaaPm24
/- play: the call. -/
namespace Go.Proofs.Ytpjhdpfaogdboaa
set_option linter.unusedSimpArgs false
set_option linter.unusedVariables false
open Go.RowKit
def stX (S : Option (List Ow)) (kd : Int) (t : Tx) (age : Int) (ws : List Wt) : Option (List Ow) := if kd = 0 then pX S t age ws else if kd = 1 then hP S t else if kd = 2 then rP S t else S
theorem lies_pre2 {F : Nat → Prop} {w : World} {a : Option Addr} {M c n : Nat} {l : List Value} (h : Lies F w 2 (.slice a M c) M l) (hn : n ≤ M) (ha : a ≠ none) : Lies F w 2 (.slice a n c) n (l.take (n * 2)) := by
  obtain ⟨ao, c', e, h1, h2, h3, h4, h5, h6⟩ := h
  simp only [Value.slice.injEq] at e
  obtain ⟨rfl, _, rfl⟩ := e
  refine ⟨a, c, rfl, by omega, h2, by rw [List.length_take]; omega, fun h => absurd h ha, fun hm => ?_, fun u hu => h6 u (List.mem_of_mem_take hu)⟩
  obtain ⟨g, off, e, hf, hl, hc⟩ := h5 (by omega)
  exact ⟨g, off, e, hf, hl, fun j u hu => hc j u (by rw [List.getElem?_take] at hu; split at hu; exact hu; cases hu)⟩
theorem wcells_take (ws : List Wt) (x : Wt) : (wcells ws ++ wcells [x]).take (ws.length * 2) = wcells ws := by
  rw [List.take_left']
  unfold wcells
  rw [flat_len (f := wcell) (m := 2) (fun _ => rfl)]
theorem Bo.mono {P Q : Nat → Prop} {w : World} {tv xv : Value} {b : Nat} {S M : Option (List Ow)} (h : Bo P w tv xv b S M) (hq : ∀ i, Q i → P i) : Bo Q w tv xv b S M := h.grow (Kept.refl (fun _ => False) w) (fun _ _ h => h.elim) (fun i hi => .inl (hq i hi))
theorem Bo.up {P : Nat → Prop} {w : World} {tv xv : Value} {b b' : Nat} {S M : Option (List Ow)} (h : Bo P w tv xv b S M) (hb : b ≤ b') : Bo P w tv xv b' S M := by
  rcases h with h | ⟨tb, xb, L, N, D, v, R, h1, h2, h3, h4, h5⟩
  · exact .inl h
  · exact .inr ⟨tb, xb, L, N, D, v, R, h1, h2, h3, h4, h5.t, h5.d, h5.a, h5.i, h5.j, Nat.le_trans h5.l hb, Nat.le_trans h5.n hb⟩
/-- lists that are alike -/
theorem alike {w0 w1 w : World} {v1 v2 : Value} {S : List Tx} (h1 : Txs w0 w v1 S) (h2 : Txs w1 w v2 S) (hS : S.length ≤ 1000000) :
    Calls Try.prog 24 #[v1, v2] w fun e w' => e = .returned (.bool true) ∧ Kept (fun _ => False) w w' := by
  obtain ⟨a, c, rfl, l1⟩ := h1.lies
  obtain ⟨a2, c2, rfl, l2⟩ := h2.lies
  exact same_txs l1 l2 rfl hS
theorem askG_len {L : List Ow} {t : Tx} {age : Int} {ws : List Wt} : (askG L t age ws).length ≤ L.length + 1 := by
  unfold askG
  split
  · have h1 := setK_cnt (askL L (whoO L t age) ws) (askL L (whoO L t age) ws).length
    have h2 := askL_len L (whoO L t age) ws
    unfold settled
    omega
  · simp
theorem askD_len {L : List Ow} {t : Tx} {age : Int} {ws : List Wt} : (askD L t age ws).length ≤ L.length := by
  unfold askD
  split
  · rw [List.length_map]; exact List.length_filter_le _ _
  · simp
theorem relG_len {L : List Ow} {t : Tx} : (relG L t).length ≤ L.length := by
  unfold relG
  split
  · have h1 := setK_cnt (dropO L t) (dropO L t).length
    have h2 : (dropO L t).length ≤ L.length := List.length_filter_le _ _
    unfold settled
    omega
  · simp
theorem ans_len {P : Nat → Prop} {w : World} {tv xv : Value} {b : Nat} {S M : Option (List Ow)} (h : Bo P w tv xv b S M) (hb : b ≤ 900) {t : Tx} {age : Int} {ws : List Wt} : (gX S t age ws).length ≤ 1000000 ∧ (dX S t age ws).length ≤ 1000000 := by
  rcases h with ⟨_, _, rfl, _, _⟩ | ⟨tb, xb, L, N, D, v, R, _, _, rfl, _, h5⟩
  · exact ⟨Nat.zero_le _, Nat.zero_le _⟩
  · have h1 := h5.l
    have h2 := askG_len (L := L) (t := t) (age := age) (ws := ws)
    have h3 := askD_len (L := L) (t := t) (age := age) (ws := ws)
    exact ⟨by show (askG L t age ws).length ≤ _; omega, by show (askD L t age ws).length ≤ _; omega⟩
theorem rel_len {P : Nat → Prop} {w : World} {tv xv : Value} {b : Nat} {S M : Option (List Ow)} (h : Bo P w tv xv b S M) (hb : b ≤ 900) {t : Tx} : (rG S t).length ≤ 1000000 := by
  rcases h with ⟨_, _, rfl, _, _⟩ | ⟨tb, xb, L, N, D, v, R, _, _, rfl, _, h5⟩
  · exact Nat.zero_le _
  · have h1 := h5.l
    have h2 := relG_len (L := L) (t := t)
    show (relG L t).length ≤ _
    omega
theorem wait_len {P : Nat → Prop} {w : World} {tv xv : Value} {b : Nat} {S M : Option (List Ow)} (h : Bo P w tv xv b S M) (hb : b ≤ 1000) : (wX S).length ≤ 1000000 := by
  rcases h with ⟨_, _, rfl, _, _⟩ | ⟨tb, xb, L, N, D, v, R, _, _, rfl, _, h5⟩
  · exact Nat.zero_le _
  · have h1 := h5.l
    have h2 := waitP_len L
    show (waitP L).length ≤ _
    omega
def XorW (w : World) (g n : Nat) : Prop := ∀ j, j < n → (∃ m, w.cell? ⟨g, j * 2, none⟩ = some (.int .u32 m)) ∧ w.frozen? ⟨g, j * 2, none⟩ = false
theorem XorW.set {w : World} {g n : Nat} (h : XorW w g n) (a : Addr) (x : Int) : XorW (w.setCell a (.int .u32 x)) g n := fun j hj => ⟨someInt_setCell (h j hj).1 a x, by simpa using (h j hj).2⟩
theorem Own.xorW {w : World} {g n c : Nat} {l : List Wt} (h : Own w 36 2 (.slice (some ⟨g, 0, none⟩) n c) n (wcells l)) : XorW w g n := fun j hj => by
  have hl : (wcells l).length = n * 2 := h.len
  unfold wcells at hl
  rw [flat_len (f := wcell) (m := 2) (fun _ => rfl)] at hl
  obtain ⟨x, hx⟩ : ∃ x, l[j]? = some x := ⟨_, List.getElem?_eq_getElem (by omega)⟩
  have h1 := flat_at (f := wcell) (m := 2) (fun _ => rfl) l j 0 x hx (by decide)
  obtain ⟨h2, h3⟩ := List.getElem?_eq_some_iff.1 (h1.trans (show (wcell x)[0]? = some (.int .u32 x.1) from rfl))
  have hc := h.cells (g := g) rfl (j * 2 + 0) h2
  exact ⟨⟨x.1, hc.trans (congrArg some h3)⟩, h.free rfl _⟩
theorem wown_at {w : World} {g n c : Nat} {l : List Wt} (h : Own w 36 2 (.slice (some ⟨g, 0, none⟩) n c) n (wcells l)) {j : Nat} {x : Wt} (hx : l[j]? = some x) : w.cell? ⟨g, j * 2, none⟩ = some (.int .u32 x.1) ∧ w.cell? ⟨g, j * 2 + 1, none⟩ = some (.int .u8 x.2) := by
  have key : ∀ i u, (wcell x)[i]? = some u → i < 2 → w.cell? ⟨g, j * 2 + i, none⟩ = some u := fun i u hu hi => by
    have h1 := flat_at (f := wcell) (m := 2) (fun _ => rfl) l j i x hx hi
    rw [hu] at h1
    obtain ⟨h2, h3⟩ := List.getElem?_eq_some_iff.1 h1
    exact (h.cells (g := g) rfl (j * 2 + i) h2).trans (congrArg some h3)
  exact ⟨key 0 _ rfl (by omega), key 1 _ rfl (by omega)⟩
theorem own_two {w : World} {g n c : Nat} {l : List Wt} {z : Wt} (h : Own w 36 2 (.slice (some ⟨g, 0, none⟩) n c) n (wcells l ++ wcells [z])) {j : Nat} {x : Wt} (hx : l[j]? = some x) : w.cell? ⟨g, j * 2, none⟩ = some (.int .u32 x.1) ∧ w.cell? ⟨g, j * 2 + 1, none⟩ = some (.int .u8 x.2) := by
  rw [← wcells_app] at h
  exact wown_at h (by rw [List.getElem?_append_left (List.getElem?_eq_some_iff.1 hx).1]; exact hx)
theorem own_last {w : World} {g n k c : Nat} {l : List Wt} {z : Wt} (h : Own w 36 2 (.slice (some ⟨g, 0, none⟩) n c) n (wcells l ++ wcells [z])) (hk : l.length = k) : w.cell? ⟨g, k * 2, none⟩ = some (.int .u32 z.1) ∧ w.cell? ⟨g, k * 2 + 1, none⟩ = some (.int .u8 z.2) := by
  rw [← wcells_app] at h
  exact wown_at h (by rw [List.getElem?_append_right (by omega), hk, Nat.sub_self]; rfl)
theorem Own.xorW2 {w : World} {g n c : Nat} {l : List Wt} {z : Wt} (h : Own w 36 2 (.slice (some ⟨g, 0, none⟩) n c) n (wcells l ++ wcells [z])) : XorW w g n := by
  rw [← wcells_app] at h
  exact h.xorW
theorem ob5 {w : World} {ob : Nat} {kd t1 t2 t3 age : Int} {bo : Option Addr} {n bc : Nat} (h : w.heap[ob]? = some (opRow kd t1 t2 t3 age bo n bc)) : w.cell? ⟨ob, 1, none⟩ = some (.int .u8 t1) ∧ w.cell? ⟨ob, 2, none⟩ = some (.int .u32 t2) ∧ w.cell? ⟨ob, 3, none⟩ = some (.int .u32 t3) ∧ w.cell? ⟨ob, 4, none⟩ = some (.int .u64 age) := by
  obtain ⟨_, h1, h2, h3, h4, _⟩ := cells6 h
  exact ⟨h1, h2, h3, h4⟩
set_option maxRecDepth 100000 in
set_option maxHeartbeats 4000000 in
theorem play_any {P : Nat → Prop} {w : World} {tv xv : Value} {b : Nat} {S : Option (List Ow)} (h : Bo P w tv xv b S S) (hb : b ≤ 900) {kd t1 t2 t3 age : Int} {wo : Option Addr} {wc : Nat} {ws : List Wt} (hl : Lies (fun i => ¬ P i) w 2 (.slice wo ws.length wc) ws.length (wcells ws)) (hW : ws.length * 8 ≤ 140737488351232) :
    Calls Try.prog 23 #[tv, xv, .agg #[.int .u8 kd, .int .u8 t1, .int .u32 t2, .int .u32 t3, .int .u64 age, .slice wo ws.length wc]] w fun e w' => e = .returned (.bool true) ∧ Bo P w' tv xv (b + 2) (stX S kd (t1, t2, t3) age ws) (stX S kd (t1, t2, t3) age ws) ∧ Kept (fun i => ¬ P i) w w' := by
  obtain ⟨n, hn⟩ : ∃ n, ws.length = n := ⟨_, rfl⟩
  have HN := hid hn
  rw [hn] at hl hW ⊢
  have hk1 := (Kept.refl (fun _ => False) w).alloc (opRow kd t1 t2 t3 age wo n wc)
  have hrb := row_new w (opRow kd t1 t2 t3 age wo n wc)
  obtain ⟨w1, hw1⟩ : ∃ w1, w.alloc (opRow kd t1 t2 t3 age wo n wc) = w1 := ⟨_, rfl⟩
  obtain ⟨ob, hob⟩ : ∃ ob, w.heap.size = ob := ⟨_, rfl⟩
  rw [hw1] at hk1 hrb
  rw [hob] at hrb
  have HOB := hid hob
  have K1 := hid hk1; have R1 := hid hrb; have HL1 := hid (hl.same hk1); have HL := hid hl
  have HB0 := hid h; have HBB := hid hb
  obtain ⟨c0, c1, c2, c3, c4, c5⟩ := cells6 hrb
  clear hk1 hrb h hn hl hb
  have k2 := hid ((Kept.refl (fun _ => False) w1).alloc (.cells #[] 36))
  have e5 := k2.out.cell c5 id
  go_enter Try.func23, Try.ntmps23
  go_upto_block 0 with (first
    | (at_builtin; refine wpList_app rfl _ _ 37 rfl 36 (.agg #[.int .u32 0, .int .u8 0]) 2 8 Try.underlying37 infoW rfl (by decide) (.slice (some ⟨w1.heap.size, 0, none⟩) 0 0) 0 [] rfl (by exact own_empty w1 36 2) _ rfl n (wcells ws) (by exact (HL1.out.same k2.out).src) (by unfold maxLen; omega) (by omega) ?_; intro q1 m1 w2 ho2 hk2 hf2 _; simp only [Nat.zero_add, List.nil_append] at ho2 hf2; simp only [Nat.zero_add]; have HO2 := hid ho2; have HF2 := hid hf2; have K2 := hid (k2.out.trans' hk2 (fun i hi => .inr (by simp [Value.ownBlock] at hi; omega))); clear ho2 hk2 hf2)
    | (at_builtin; refine wpList_app rfl _ _ 37 rfl 36 (.agg #[.int .u32 0, .int .u8 0]) 2 8 Try.underlying37 infoW rfl (by decide) (.slice q1 n m1) n (wcells ws) rfl (by exact HO2.out.alloc _) _ rfl 1 _ (want_src w2 77 7 rfl) (by unfold maxLen; omega) (by omega) ?_; intro q2 m2 w3 ho3 hk3 hf3 _; obtain ⟨qb, qc, e, hqc1, hqc2⟩ := ho3.some_of_pos (by omega); simp only [Value.slice.injEq] at e; obtain ⟨rfl, _, rfl⟩ := e; have HO3 := hid ho3; have HF3 := hid hf3; have K3 := hid (((Kept.refl (fun i => (Value.slice q1 n m1).ownBlock = some i) w2).alloc (.cells #[.int .u32 77, .int .u8 7] 36)).trans hk3); have KK := hid (show Kept (fun _ => False) w1 w3 from K2.out.trans' K3.out (fun i hi => .inr (by rcases HF2.out i hi with h | h; (simp [Value.ownBlock] at h; omega); (simp at h; omega)))); have R3 := hid ((KK.out.block ob (row_lt R1.out) id).trans R1.out); obtain ⟨d0, d1, d2, d3, d4, d5⟩ := cells6 R3.out; clear ho3 hk3 hf3))
  clear hw1 hob c0 c1 c2 c3 c4 c5 e5
  have hqb : w1.heap.size ≤ qb := by
    rcases HF3.out qb rfl with h | h
    · rcases HF2.out qb h with h | h
      · simp [Value.ownBlock] at h; omega
      · simp at h; omega
    · have := K2.out.size
      simp at h; omega
  have HQB := hid hqb
  obtain ⟨P1, hP1⟩ : ∃ P1 : Nat → Prop, (fun i => P i ∨ i = ob ∨ i = qb) = P1 := ⟨_, rfl⟩
  have HP1 := hid (show ∀ i, P1 i ↔ P i ∨ i = ob ∨ i = qb from fun i => by rw [← hP1])
  have HQL := hid (show qb < w3.heap.size from HO3.out.lt rfl)
  have HOL := hid (show ob < w3.heap.size from row_lt R3.out)
  have B3 := hid (show Bo P1 w3 tv xv b S S from HB0.out.grow (K1.out.trans KK.out) (fun _ _ h => h.elim) (fun i hi => by
    rcases (HP1.out i).1 hi with h | h | h
    · exact .inl h
    · exact .inr (by have := HOB.out; have := HOL.out; omega)
    · exact .inr (by have := K1.out.size; have := HQL.out; omega)))
  have HPL := hid (show Lies (fun i => ¬ P1 i) w3 2 (.slice (some ⟨qb, 0, none⟩) n m2) n (wcells ws) from by
    have h1 := lies_pre2 (n := n) (HO3.out.lies (F := fun i => ¬ P1 i) (by
      intro u hu
      rcases List.mem_append.1 hu with h | h
      · exact wcells_one _ u h
      · exact wcells_one _ u h) (fun g hg h => by
        simp only [Value.ownBlock, Option.some.injEq] at hg
        exact h ((HP1.out g).2 (.inr (.inr hg.symm))))) (by omega) (by simp)
    have h2 := wcells_take ws (77, 7)
    rw [HN.out] at h2
    rw [h2] at h1
    exact h1)
  have HLW := hid (show Lies (fun i => ¬ P1 i) w3 2 (.slice wo n wc) n (wcells ws) from (HL1.out.same KK.out).mono (fun g _ h hp => h ((HP1.out g).2 (.inl hp))))
  clear hP1 hqb
  have hn0 : (0 : Int) ≤ (n : Int) := by omega
  have hn2 : (n : Int) ≤ (m2 : Int) := by omega
  go_cut [9] from 9 to 114 (fun _ wx => Bo P1 wx tv xv (b + 2) (stX S kd (t1, t2, t3) age ws) (stX S kd (t1, t2, t3) age ws) ∧ Kept (fun i => ¬ P1 i) w3 wx)
  case first =>
    by_cases hk0 : kd = 0
    · subst hk0
      have BD := hid (B3.out.same (Kept.refl _ _).drew)
      have RD := hid (show w3.drew.heap[ob]? = _ from R3.out)
      have s1 := ob5 RD.out
      have HPLD := hid (show Lies (fun i => ¬ P1 i) w3.drew 2 (.slice (some ⟨qb, 0, none⟩) ws.length m2) ws.length (wcells ws) from by rw [HN.out]; exact HPL.out.same (Kept.refl _ _).drew)
      have HAS := hid (b_ask BD.out (by have := HBB.out; omega) HPLD.out t1 t2 t3 age)
      obtain ⟨za, hza⟩ : ∃ z, sX S (t1, t2, t3) age ws = z := ⟨_, rfl⟩
      have HZA := hid hza
      rw [HN.out, hza] at HAS
      clear hza d0 d1 d2 d3 d4 d5
      go_wp2_with fail
      go_region_held3 (fun w' : World => w'.cell? ⟨ob, 1, none⟩ = some (.int .u8 t1) ∧ w'.cell? ⟨ob, 2, none⟩ = some (.int .u32 t2) ∧ w'.cell? ⟨ob, 3, none⟩ = some (.int .u32 t3) ∧ w'.cell? ⟨ob, 4, none⟩ = some (.int .u64 age)) (first | exact s1 | exact s2)
        (first | (go_at_call 11; refine HAS.out.mono ?_; rintro e w4 ⟨v1, v2, he, h1, h2, hbo, hk⟩; subst he; have H1 := hid h1; have H2 := hid h2; have HB4 := hid hbo; have K4 := hid hk; have R4 := hid ((hk.block ob (row_lt RD.out) (fun h => h ((HP1.out ob).2 (.inr (.inl rfl))))).trans RD.out); have s2 := ob5 R4.out; clear h1 h2 hbo hk s1))
      clear s2
      obtain ⟨d0, d1, d2, d3, d4, d5⟩ := cells6 R4.out
      have HLW4 : Lies (fun i => ¬ (P1 i ∨ (v1.ownBlock = some i ∨ v2.ownBlock = some i))) w4 2 (.slice wo n wc) n (wcells ws) := (HLW.out.kept (((Kept.refl _ w3).drew).trans K4.out) (fun _ _ h => h)).mono (fun g _ h hp => h (.inl hp))
      rw [← HN.out] at HLW4
      have HDA := hid (b_dask HB4.out (by have := HBB.out; omega) HLW4 t1 t2 t3 age)
      rw [HN.out, HZA.out] at HDA
      have HG := hid (show (gX S (t1, t2, t3) age ws).length ≤ 1000000 ∧ (dX S (t1, t2, t3) age ws).length ≤ 1000000 from ans_len B3.out HBB.out)
      have HSX := hid (show stX S 0 (t1, t2, t3) age ws = pX S (t1, t2, t3) age ws by simp [stX])
      clear HLW4
      go_wp2_with (first
        | (go_at_call 34; refine HDA.out.mono ?_; rintro e w5 ⟨v3, v4, he, h3, h4, hbo, hk⟩; subst he; have H3 := hid h3; have H4 := hid h4; have HB5 := hid hbo; have K5 := hid hk; have H1' := hid (H1.out.kept hk (fun b hb h => h (.inr (.inl hb)))); have H2' := hid (H2.out.kept hk (fun b hb h => h (.inr (.inr hb)))); clear h3 h4 hbo hk)
        | (go_at_call 24; (with_reducible refine (alike H1'.out H3.out HG.out.1).mono ?_); rintro e w6 ⟨rfl, hk⟩; have K6 := hid hk; clear hk)
        | (go_at_call 24; (with_reducible refine (alike (H2'.out.kept K6.out (fun _ _ => id)) (H4.out.kept K6.out (fun _ _ => id)) HG.out.2).mono ?_); rintro e w7 ⟨rfl, hk⟩; have K7 := hid hk; clear hk))
      go_meet
      rw [HSX.out]
      exact ⟨((HB5.out.same (K6.out.trans K7.out)).mono (fun i hi => .inl (.inl hi))).up (by omega), (((Kept.refl _ w3).drew).trans K4.out).trans ((K5.out.mono (fun i _ h hp => h (.inl hp))).trans ((K6.out.trans K7.out).mono (fun _ _ h => h.elim)))⟩
    by_cases hk1 : kd = 1
    · subst hk1
      have BD := hid (B3.out.same (Kept.refl _ _).drew)
      have RD := hid (show w3.drew.heap[ob]? = _ from R3.out)
      have s1 := ob5 RD.out
      obtain ⟨za, hza⟩ : ∃ z, hE S (t1, t2, t3) = z := ⟨_, rfl⟩
      have HZA := hid hza
      have HSX := hid (show stX S 1 (t1, t2, t3) age ws = hP S (t1, t2, t3) by simp [stX])
      clear hza d0 d1 d2 d3 d4 d5
      go_wp2_with fail
      go_region_held3 (fun w' : World => w'.cell? ⟨ob, 1, none⟩ = some (.int .u8 t1) ∧ w'.cell? ⟨ob, 2, none⟩ = some (.int .u32 t2) ∧ w'.cell? ⟨ob, 3, none⟩ = some (.int .u32 t3) ∧ w'.cell? ⟨ob, 4, none⟩ = some (.int .u64 age)) (first | exact s1 | exact s2 | exact s3)
        (first
          | (go_at_call 15; refine (b_hold BD.out t1 t2 t3).mono ?_; rintro e w4 ⟨he, hbo, hk⟩; rw [HZA.out] at he; subst he; have HB4 := hid hbo; have K4 := hid hk; have R4 := hid ((hk.block ob (row_lt RD.out) (fun h => h ((HP1.out ob).2 (.inr (.inl rfl))))).trans RD.out); have s2 := ob5 R4.out; clear hbo hk s1)
          | (go_at_call 35; refine (b_dhold HB4.out t1 t2 t3).mono ?_; rintro e w5 ⟨he, hbo, hk⟩; rw [HZA.out] at he; subst he; have HB5 := hid hbo; have K5 := hid hk; have s3 := ob5 ((hk.block ob (row_lt R4.out) (fun h => h ((HP1.out ob).2 (.inr (.inl rfl))))).trans R4.out); clear hbo hk s2))
      clear s3
      go_wp2
      go_meet
      rw [HSX.out]
      exact ⟨HB5.out.up (by omega), (((Kept.refl _ w3).drew).trans K4.out).trans K5.out⟩
    by_cases hk2 : kd = 2
    · subst hk2
      obtain ⟨za, hza⟩ : ∃ z, rE S = z := ⟨_, rfl⟩
      have HZA := hid hza
      have HSX := hid (show stX S 2 (t1, t2, t3) age ws = rP S (t1, t2, t3) by simp [stX])
      have HG := hid (show (rG S (t1, t2, t3)).length ≤ 1000000 from rel_len B3.out HBB.out)
      clear hza
      go_wp2_with (first
        | (go_at_call 16; refine (b_rel B3.out (by have := HBB.out; omega) t1 t2 t3).mono ?_; rintro e w4 ⟨v1, he, h1, hbo, hk⟩; rw [HZA.out] at he; subst he; have H1 := hid h1; have HB4 := hid hbo; have K4 := hid hk; have R4 := hid ((hk.block ob (row_lt R3.out) (fun h => h ((HP1.out ob).2 (.inr (.inl rfl))))).trans R3.out); obtain ⟨f0, f1, f2, f3, f4, f5⟩ := cells6 R4.out; clear h1 hbo hk)
        | (go_at_call 36; refine (b_drel HB4.out (by have := HBB.out; omega) t1 t2 t3).mono ?_; rintro e w5 ⟨v3, he, h3, hbo, hk⟩; rw [HZA.out] at he; subst he; have H3 := hid h3; have HB5 := hid hbo; have K5 := hid hk; have H1' := hid (H1.out.kept hk (fun b hb h => h (.inr hb))); clear h3 hbo hk)
        | (go_at_call 24; refine (alike H1'.out H3.out HG.out).mono ?_; rintro e w6 ⟨rfl, hk⟩; have K6 := hid hk; clear hk))
      go_meet
      rw [HSX.out]
      exact ⟨((HB5.out.same K6.out).mono (fun i hi => .inl (.inl hi))).up (by omega), K4.out.trans ((K5.out.mono (fun i _ h hp => h (.inl hp))).trans (K6.out.mono (fun _ _ h => h.elim)))⟩
    have HSX := hid (show stX S kd (t1, t2, t3) age ws = S by simp [stX, hk0, hk1, hk2])
    go_wp2
    go_meet
    rw [HSX.out]
    exact ⟨B3.out.up (by omega), Kept.refl _ _⟩
  case rest =>
    rename World => wq
    obtain ⟨hbq, hkq⟩ := hcut
    obtain ⟨S', hS'⟩ : ∃ S', stX S kd (t1, t2, t3) age ws = S' := ⟨_, rfl⟩
    rw [hS'] at hbq
    have HSE := hid hS'
    have HBC := hid hbq; have KC := hid hkq
    have RC := hid ((hkq.block ob HOL.out (fun h => h ((HP1.out ob).2 (.inr (.inl rfl))))).trans R3.out)
    have HOC := hid (HO3.out.kept hkq (fun b hb h => by
      simp only [Value.ownBlock, Option.some.injEq] at hb
      exact h ((HP1.out b).2 (.inr (.inr hb.symm)))))
    have HLC := hid (HLW.out.kept hkq (fun _ _ h => h))
    clear hbq hkq hS' d0 d1 d2 d3 d4 d5
    obtain ⟨d0, d1, d2, d3, d4, d5⟩ := cells6 RC.out
    go_wp2_with fail
    refine (b_locks HBC.out t1 t2 t3).mono ?_
    rintro e w5 ⟨lv, rfl, ⟨la, lc, rfl, hlo, hlf⟩, hb5, hk5⟩
    obtain ⟨ln, hln⟩ : ∃ ln, (lX S' (t1, t2, t3)).length = ln := ⟨_, rfl⟩
    have HLN := hid hln
    rw [hln] at hlo hlf hb5 ⊢
    have HLO := hid hlo; have HLF := hid hlf; have B5 := hid hb5; have K5 := hid hk5
    have HLL := hid (fun g (hg : (Value.slice la ln lc).ownBlock = some g) => hlo.lt hg)
    have R5 := hid ((hk5.block ob (row_lt RC.out) id).trans RC.out)
    clear hln hlo hlf hb5 hk5 d0 d1 d2 d3 d4 d5
    go_upto_region 18 with fail
    go_cut [20] from 118 to 150 (fun s wx => s = .bool true ∧ Kept (fun _ => False) w5 wx)
    case first =>
      obtain ⟨kb, hkb⟩ : ∃ kb, kX S' (t1, t2, t3) = kb := ⟨_, rfl⟩
      obtain ⟨fz, hfz⟩ : ∃ fz, fX S' (t1, t2, t3) = fz := ⟨_, rfl⟩
      obtain ⟨cn, hcn⟩ : ∃ cn, cX S' = cn := ⟨_, rfl⟩
      have HKB := hid hkb; have HFZ := hid hfz; have HCN := hid hcn
      have hfk := fix_known B5.out (t1, t2, t3)
      rw [hkb, hfz] at hfk
      have HBW := hid (show b + 2 ≤ 1000 by have := HBB.out; omega)
      have HWL := hid (wait_len B5.out HBW.out)
      have K0 := hid (show Kept (fun _ => False) w5 w5.drew from (Kept.refl _ _).drew)
      have RD := hid (show w5.drew.heap[ob]? = _ from R5.out)
      have s1 := ob5 RD.out
      clear hkb hfz hcn
      cases kb with
      | true =>
        have hfz0 : 0 ≤ fz := by simpa using hfk
        clear hfk
        go_region_held3 (fun w' : World => w'.cell? ⟨ob, 1, none⟩ = some (.int .u8 t1) ∧ w'.cell? ⟨ob, 2, none⟩ = some (.int .u32 t2) ∧ w'.cell? ⟨ob, 3, none⟩ = some (.int .u32 t3) ∧ w'.cell? ⟨ob, 4, none⟩ = some (.int .u64 age)) (first | exact s1 | exact s2 | exact s3 | exact s4 | exact s5 | exact s6 | exact s7 | exact s8 | exact s9 | exact s10)
          (first
            | (go_at_call 37; refine (b_dlocks (B5.out.same K0.out) t1 t2 t3).mono ?_; rintro e w6 ⟨dv, he, ⟨da, dc, hdv, hdl⟩, hk⟩; rw [hdv, HLN.out] at he; subst he; rw [HLN.out] at hdl; have HDL := hid hdl; have KA := hid (K0.out.trans hk); have s2 := ob5 ((KA.out.block ob (row_lt R5.out) id).trans R5.out); clear hk hdl hdv s1)
            | (go_at_call 22; refine (same_wants ((HLO.out.kept KA.out (fun _ _ => id)).lies (F := fun _ => False) (wcells_one _) (fun _ _ => id)) HDL.out HLN.out).mono ?_; rintro e w7 ⟨he, hk⟩; subst he; have KB := hid (KA.out.trans hk); have s3 := ob5 ((KB.out.block ob (row_lt R5.out) id).trans R5.out); clear hk s2)
            | (go_at_call 17; refine (b_wait (B5.out.same KB.out) HBW.out).mono ?_; rintro e w8 ⟨v1, he, h1, _, hk⟩; subst he; have H1 := hid h1; have KE := hid (KB.out.trans hk); have s4 := ob5 ((KE.out.block ob (row_lt R5.out) id).trans R5.out); clear hk h1 s3)
            | (go_at_call 38; refine (b_dwait (B5.out.same KE.out) HBW.out).mono ?_; rintro e w9 ⟨v2, he, h2, hk⟩; subst he; have H2 := hid h2; have H1' := hid (H1.out.kept hk (fun _ _ => id)); have KF := hid (KE.out.trans hk); have s5 := ob5 ((KF.out.block ob (row_lt R5.out) id).trans R5.out); clear hk h2 s4)
            | (go_at_call 24; refine (alike H1'.out H2.out HWL.out).mono ?_; rintro e w10 ⟨he, hk⟩; subst he; have KG := hid (KF.out.trans hk); have s6 := ob5 ((KG.out.block ob (row_lt R5.out) id).trans R5.out); clear hk s5)
            | (go_at_call 18; refine (b_known (B5.out.same KG.out) t1 t2 t3).mono ?_; rintro e w11 ⟨he, hk⟩; rw [HKB.out] at he; subst he; have KH := hid (KG.out.trans hk); have s7 := ob5 ((KH.out.block ob (row_lt R5.out) id).trans R5.out); clear hk s6)
            | (go_at_call 39; refine (b_find (B5.out.same KH.out) t1 t2 t3).mono ?_; rintro e w12 ⟨he, hk⟩; rw [HFZ.out] at he; subst he; have KI := hid (KH.out.trans hk); have s8 := ob5 ((KI.out.block ob (row_lt R5.out) id).trans R5.out); clear hk s7)
            | (go_at_call 13; refine (b_count (B5.out.same KI.out) HBW.out).mono ?_; rintro e w13 ⟨he, hk⟩; rw [HCN.out] at he; subst he; have KJ := hid (KI.out.trans hk); have s9 := ob5 ((KJ.out.block ob (row_lt R5.out) id).trans R5.out); clear hk s8)
            | (go_at_call 40; refine (b_dcount (B5.out.same KJ.out) HBW.out).mono ?_; rintro e w14 ⟨he, hk⟩; rw [HCN.out] at he; subst he; have KL := hid (KJ.out.trans hk); have s10 := ob5 ((KL.out.block ob (row_lt R5.out) id).trans R5.out); clear hk s9))
        clear s10
        go_wp2_with fail
        go_meet
        exact ⟨rfl, KL.out⟩
      | false =>
        go_region_held3 (fun w' : World => w'.cell? ⟨ob, 1, none⟩ = some (.int .u8 t1) ∧ w'.cell? ⟨ob, 2, none⟩ = some (.int .u32 t2) ∧ w'.cell? ⟨ob, 3, none⟩ = some (.int .u32 t3) ∧ w'.cell? ⟨ob, 4, none⟩ = some (.int .u64 age)) (first | exact s1 | exact s2 | exact s3 | exact s4 | exact s5 | exact s6 | exact s7 | exact s8 | exact s9 | exact s10)
          (first
            | (go_at_call 37; refine (b_dlocks (B5.out.same K0.out) t1 t2 t3).mono ?_; rintro e w6 ⟨dv, he, ⟨da, dc, hdv, hdl⟩, hk⟩; rw [hdv, HLN.out] at he; subst he; rw [HLN.out] at hdl; have HDL := hid hdl; have KA := hid (K0.out.trans hk); have s2 := ob5 ((KA.out.block ob (row_lt R5.out) id).trans R5.out); clear hk hdl hdv s1)
            | (go_at_call 22; refine (same_wants ((HLO.out.kept KA.out (fun _ _ => id)).lies (F := fun _ => False) (wcells_one _) (fun _ _ => id)) HDL.out HLN.out).mono ?_; rintro e w7 ⟨he, hk⟩; subst he; have KB := hid (KA.out.trans hk); have s3 := ob5 ((KB.out.block ob (row_lt R5.out) id).trans R5.out); clear hk s2)
            | (go_at_call 17; refine (b_wait (B5.out.same KB.out) HBW.out).mono ?_; rintro e w8 ⟨v1, he, h1, _, hk⟩; subst he; have H1 := hid h1; have KE := hid (KB.out.trans hk); have s4 := ob5 ((KE.out.block ob (row_lt R5.out) id).trans R5.out); clear hk h1 s3)
            | (go_at_call 38; refine (b_dwait (B5.out.same KE.out) HBW.out).mono ?_; rintro e w9 ⟨v2, he, h2, hk⟩; subst he; have H2 := hid h2; have H1' := hid (H1.out.kept hk (fun _ _ => id)); have KF := hid (KE.out.trans hk); have s5 := ob5 ((KF.out.block ob (row_lt R5.out) id).trans R5.out); clear hk h2 s4)
            | (go_at_call 24; refine (alike H1'.out H2.out HWL.out).mono ?_; rintro e w10 ⟨he, hk⟩; subst he; have KG := hid (KF.out.trans hk); have s6 := ob5 ((KG.out.block ob (row_lt R5.out) id).trans R5.out); clear hk s5)
            | (go_at_call 18; refine (b_known (B5.out.same KG.out) t1 t2 t3).mono ?_; rintro e w11 ⟨he, hk⟩; rw [HKB.out] at he; subst he; have KH := hid (KG.out.trans hk); have s7 := ob5 ((KH.out.block ob (row_lt R5.out) id).trans R5.out); clear hk s6)
            | (go_at_call 39; refine (b_find (B5.out.same KH.out) t1 t2 t3).mono ?_; rintro e w12 ⟨he, hk⟩; rw [HFZ.out] at he; subst he; have KI := hid (KH.out.trans hk); have s8 := ob5 ((KI.out.block ob (row_lt R5.out) id).trans R5.out); clear hk s7)
            | (go_at_call 13; refine (b_count (B5.out.same KI.out) HBW.out).mono ?_; rintro e w13 ⟨he, hk⟩; rw [HCN.out] at he; subst he; have KJ := hid (KI.out.trans hk); have s9 := ob5 ((KJ.out.block ob (row_lt R5.out) id).trans R5.out); clear hk s8)
            | (go_at_call 40; refine (b_dcount (B5.out.same KJ.out) HBW.out).mono ?_; rintro e w14 ⟨he, hk⟩; rw [HCN.out] at he; subst he; have KL := hid (KJ.out.trans hk); have s10 := ob5 ((KL.out.block ob (row_lt R5.out) id).trans R5.out); clear hk s9))
        clear s10
        go_wp2_with fail
        go_meet
        exact ⟨rfl, KL.out⟩
    case rest =>
      obtain ⟨rfl, hk6⟩ := hcut
      rename World => w6
      have K6 := hid hk6
      have R6 := hid ((hk6.block ob (row_lt R5.out) id).trans R5.out)
      have HLO6 := hid (HLO.out.kept hk6 (fun _ _ => id))
      have HSZ := hid (show w3.heap.size ≤ wq.heap.size ∧ wq.heap.size ≤ w5.heap.size ∧ w5.heap.size ≤ w6.heap.size from ⟨KC.out.size, K5.out.size, hk6.size⟩)
      have HQX := hid (show ∀ lg, la = some ⟨lg, 0, none⟩ → wq.heap.size ≤ lg ∧ lg < w5.heap.size from fun lg e => ⟨HLF.out lg (by rw [e]; rfl), HLL.out lg (by rw [e]; rfl)⟩)
      have hxl : ln = 0 ∨ ∃ lg, la = some ⟨lg, 0, none⟩ ∧ XorW w6 lg ln := by
        rcases Nat.eq_zero_or_pos ln with h0 | h0
        · exact .inl h0
        · obtain ⟨lg, lc', e, _, _⟩ := HLO6.out.some_of_pos h0
          simp only [Value.slice.injEq] at e
          obtain ⟨rfl, _, rfl⟩ := e
          exact .inr ⟨lg, rfl, HLO6.out.xorW⟩
      have HXL := hid hxl
      obtain ⟨hlc1, hlc2⟩ := cap_of (HLO6.out.lies (F := fun _ => False) (wcells_one _) (fun _ _ => id))
      unfold maxLen at hlc2
      clear hk6 hxl
      go_wp2_with fail
      go_loopw [152] (fun i wr => ∃ k : Nat, k ≤ ln ∧ i = .int .i64 k ∧ (ln = 0 ∨ ∃ lg, la = some ⟨lg, 0, none⟩ ∧ XorW wr lg ln) ∧ Kept (fun i => la = some ⟨i, 0, none⟩) w6 wr) (fun i _ => ln - (RowKit.intOf i).toNat)
      case atStart => exact ⟨0, Nat.zero_le _, rfl, HXL.out, Kept.refl _ _⟩
      case round =>
        rename World => wr
        obtain ⟨k, hk, rfl, hx, hkp⟩ := hrel
        have HX := hid hx; have KR := hid hkp
        clear hx hkp
        by_cases hlt : k < ln
        · have hltI : (k : Int) < (ln : Int) := by omega
          obtain ⟨lg, rfl, hxb⟩ : ∃ lg, la = some ⟨lg, 0, none⟩ ∧ XorW wr lg ln := HX.out.resolve_left (by omega)
          obtain ⟨⟨m, hm⟩, hf⟩ := hxb k hlt
          have HXB := hid hxb
          clear hxb
          go_wp2
          go_roundw
          case rel => exact ⟨k + 1, by omega, by go_num, .inr ⟨lg, rfl, HXB.out.set _ _⟩, KR.out.setCell (F := fun i => some (⟨lg, 0, none⟩ : Addr) = some ⟨i, 0, none⟩) (.inl rfl) _⟩
          case measure => (simp only [RowKit.intOf]; omega)
        · obtain rfl : k = ln := by omega
          have HLQ := hid (show ∀ i, la = some ⟨i, 0, none⟩ → ¬ i = qb ∧ ¬ i = ob ∧ w.heap.size ≤ i from fun i e => by
            have h1 := HQX.out i e
            have h2 := HQL.out
            have h3 := HOL.out
            have h4 := HSZ.out
            have h5 := K1.out.size
            have h6 := KK.out.size
            omega)
          have HOW := hid ((((HOC.out.kept K5.out (fun _ _ => id)).kept K6.out (fun _ _ => id))).kept KR.out (fun b hb e => by
            simp only [Value.ownBlock, Option.some.injEq] at hb
            exact (HLQ.out b e).1 hb.symm))
          have HLR := hid ((HLC.out.kept K5.out (fun _ _ h => h.elim)).kept K6.out (fun _ _ h => h.elim))
          have HLR := hid (HLR.out.kept KR.out (fun i hi e hp => by
            have h1 := HQX.out i e
            have h2 := HBC.out.lt hp
            omega))
          have RR := hid ((KR.out.block ob (row_lt R6.out) (fun e => (HLQ.out ob e).2.1 rfl)).trans R6.out)
          obtain ⟨d0, d1, d2, d3, d4, d5⟩ := cells6 RR.out
          go_wp2_with fail
          clear d0 d1 d2 d3 d4 d5
          go_loopw [20, 165] (fun s i wx => ∃ j : Nat, j ≤ n ∧ s = .bool true ∧ i = .int .i64 j ∧ Kept (fun _ => False) wr wx) (fun _ i _ => n - (RowKit.intOf i).toNat)
          case atStart => exact ⟨0, Nat.zero_le _, rfl, rfl, Kept.refl _ _⟩
          case round =>
            rename World => wx
            obtain ⟨j, hj, rfl, rfl, hkx⟩ := hrel
            have KX := hid hkx
            have HOX := hid (HOW.out.kept hkx (fun _ _ => id))
            have RX := hid ((hkx.block ob (row_lt RR.out) id).trans RR.out)
            clear hkx
            obtain ⟨d0, d1, d2, d3, d4, d5⟩ := cells6 RX.out
            by_cases hjt : j < n
            · have hjI : (j : Int) < (n : Int) := by omega
              have hjI2 : (j : Int) < ((n + 1 : Nat) : Int) := by omega
              obtain ⟨⟨x0, x1⟩, hx⟩ : ∃ x, ws[j]? = some x := ⟨_, List.getElem?_eq_getElem (by rw [HN.out]; exact hjt)⟩
              obtain ⟨g1, o1, rfl, q0, q1⟩ := w_cells HLR.out KX.out hx
              simp only at q0 q1
              obtain ⟨r0, r1⟩ := own_two HOX.out hx
              simp only at r0 r1
              clear hx d0 d1 d2 d3 d4
              go_wp2_with fail
              go_quiet (fail)
              have KY := hid (KX.out.trans (kept_drewN (F := fun _ => False) wx nq))
              go_wp2
              go_roundw
              case rel => exact ⟨j + 1, by omega, rfl, by go_num, KY.out⟩
              case measure => (simp only [RowKit.intOf]; omega)
            · obtain rfl : j = n := by omega
              have hjI2 : (j : Int) < ((j + 1 : Nat) : Int) := by omega
              obtain ⟨r0, r1⟩ := own_last HOX.out HN.out
              have HXW := hid HOX.out.xorW2
              clear d0 d1 d2 d3 d4 d5
              go_wp2_with fail
              go_loopw [193] (fun i wy => ∃ m : Nat, m ≤ j + 1 ∧ i = .int .i64 m ∧ XorW wy qb (j + 1) ∧ Kept (fun i => i = qb) wx wy) (fun i _ => j + 1 - (RowKit.intOf i).toNat)
              case atStart => exact ⟨0, Nat.zero_le _, rfl, HXW.out, Kept.refl _ _⟩
              case round =>
                rename World => wy
                obtain ⟨m, hm, rfl, hxw, hky⟩ := hrel
                have HXY := hid hxw; have KY := hid hky
                clear hky
                by_cases hmt : m < j + 1
                · have hmI : (m : Int) < ((j + 1 : Nat) : Int) := by omega
                  obtain ⟨⟨y, hy⟩, hf⟩ := hxw m hmt
                  clear hxw
                  go_wp2
                  go_roundw
                  case rel => exact ⟨m + 1, by omega, by go_num, HXY.out.set _ _, KY.out.setCell (p := ⟨qb, m * 2, none⟩) (F := fun i => i = qb) (.inl rfl) _⟩
                  case measure => (simp only [RowKit.intOf]; omega)
                · clear hxw
                  go_wp2
                  go_ret
                  have k1 : Kept (fun i => i = qb ∨ la = some ⟨i, 0, none⟩) w5 wy := ((K6.out.mono (fun _ _ h => h.elim)).trans (KR.out.mono (fun _ _ h => .inr h))).trans ((KX.out.mono (fun _ _ h => h.elim)).trans (KY.out.mono (fun _ _ h => .inl h)))
                  refine ⟨rfl, ?_, ?_⟩
                  · rw [HSE.out]
                    exact B5.out.grow k1 (fun i _ h => by
                      rcases h with h | h
                      · exact .inl ((HP1.out i).2 (.inr (.inr h)))
                      · exact .inr (by rw [h]; rfl)) (fun i hi => .inl (.inl ((HP1.out i).2 (.inl hi))))
                  · have k2 : Kept (fun i => ¬ P i) w w3 := (K1.out.trans KK.out).mono (fun _ _ h => h.elim)
                    have k3 : Kept (fun i => ¬ P i) w wq := k2.trans (KC.out.mono (fun i _ h hp => h ((HP1.out i).2 (.inl hp))))
                    refine (k3.trans (K5.out.mono (fun _ _ h => h.elim))).trans (k1.mono (fun i _ h hp => ?_))
                    have h9 := HB0.out.lt hp
                    have h5 := K1.out.size
                    rcases h with h | h
                    · have := HQB.out; omega
                    · have := (HLQ.out i h).2.2; omega
end Go.Proofs.Ytpjhdpfaogdboaa
/- PROVED: the law LockPlays returns true for every input and leaves its arguments as they were. No condition. -/
namespace Go.Proofs.Ytpjhdpfaogdboaa
set_option linter.unusedSimpArgs false
set_option linter.unusedVariables false
open Go.RowKit
theorem lies_cut {F : Nat → Prop} {w : World} {a : Option Addr} {W c m : Nat} {ws : List Wt} (h : Lies F w 2 (.slice a W c) W (wcells ws)) (hW : ws.length = W) (hm : m ≤ W) : (ws.take m).length = m ∧ Lies F w 2 (.slice a m c) m (wcells (ws.take m)) := by
  refine ⟨by rw [List.length_take]; omega, ?_⟩
  rcases Nat.eq_zero_or_pos W with h0 | h0
  · obtain rfl : ws = [] := List.eq_nil_of_length_eq_zero (by omega)
    obtain rfl : m = 0 := by omega
    subst h0
    exact h
  · have ha : a ≠ none := by
      intro e
      subst e
      obtain ⟨g, o, c', e, _⟩ := h.cell h0
      simp at e
    have h1 := lies_pre2 h hm ha
    have e : (wcells ws).take (m * 2) = wcells (ws.take m) := by
      have h2 : wcells ws = wcells (ws.take m) ++ wcells (ws.drop m) := by rw [← wcells_app, List.take_append_drop]
      rw [h2]
      refine List.take_left' ?_
      unfold wcells
      rw [flat_len (f := wcell) (m := 2) (fun _ => rfl), List.length_take]
      omega
    rw [e] at h1
    exact h1
theorem play_is {P : Nat → Prop} {w : World} {tv xv : Value} {b : Nat} {S : Option (List Ow)} (h : Bo P w tv xv b S S) (hb : b ≤ 900) {kd t1 t2 t3 age : Int} {wo : Option Addr} {wc n : Nat} {ws : List Wt} (hn : ws.length = n) (hl : Lies (fun i => ¬ P i) w 2 (.slice wo n wc) n (wcells ws)) (hW : n * 8 ≤ 140737488351232) :
    Calls Try.prog 23 #[tv, xv, .agg #[.int .u8 kd, .int .u8 t1, .int .u32 t2, .int .u32 t3, .int .u64 age, .slice wo n wc]] w fun e w' => e = .returned (.bool true) ∧ (∃ S', Bo P w' tv xv (b + 2) S' S') ∧ Kept (fun i => ¬ P i) w w' := by
  subst hn
  exact (play_any h hb hl hW).mono fun e w' ⟨h1, h2, h3⟩ => ⟨h1, ⟨_, h2⟩, h3⟩
set_option maxRecDepth 100000 in
set_option maxHeartbeats 4000000 in
theorem plays_walk (W : World) (args : Array Value) (h : RdAll Try.prog W Try.f8.params.toList args.toList) :
    Calls Try.prog 8 args W fun e W' => e = .returned (.bool true) ∧ Below W.heap.size W W' := by
  rw [Try.params8] at h
  obtain ⟨v0, rfl⟩ : ∃ v0, args = #[v0] := by
    rcases args with ⟨_ | ⟨v0, _ | ⟨v1, l⟩⟩⟩ <;> simp [RdAll] at h
    exact ⟨v0, rfl⟩
  obtain ⟨r0, _⟩ := h
  obtain ⟨a, N, cap, rfl, h1⟩ := r0.slice Try.underlying40
  obtain ⟨ops, hsc⟩ := scr_read h1
  have HNO := hid hsc.1
  have hNc := hsc.2.1
  have hcm := hsc.2.2.1
  unfold maxLen at hcm
  have SC := hid (hsc.mono (G := fun g => ¬ g < W.heap.size) (fun g h => by omega))
  clear h1 r0 hsc
  go_enter Try.func8, Try.ntmps8
  go_wp2_with fail
  refine (awake_any _).mono ?_; rintro e w1 ⟨rfl, hk1⟩
  have K1 := hid hk1
  clear hk1
  go_wp2_with fail
  refine (new_x w1).mono ?_
  rintro e w2 ⟨tb, rfl, ht, hle, hk⟩
  have K2 := hid (K1.out.trans hk)
  have hwz := K1.out.size
  have hk3 := (Kept.refl (fun _ => False) w2).alloc (.cells #[.slice none 0 0] 58)
  have hx3 := row_new w2 (.cells #[.slice none 0 0] 58)
  obtain ⟨w3, hw3⟩ : ∃ w3, w2.alloc (.cells #[.slice none 0 0] 58) = w3 := ⟨_, rfl⟩
  obtain ⟨xb, hxb⟩ : ∃ xb, w2.heap.size = xb := ⟨_, rfl⟩
  rw [hw3] at hk3 hx3
  rw [hxb] at hx3
  have K3 := hid (K2.out.trans hk3)
  have HW3 := hid hw3; have HXB := hid hxb
  have B3 := hid (show Bo (fun i => i < W.heap.size) w3 (.pointer (some ⟨tb, 0, none⟩)) (.pointer (some ⟨xb, 0, none⟩)) 0 (some []) (some []) from by
    refine .inr ⟨tb, xb, [], [], fun _ => False, .slice none 0 0, fun _ => ⟨none, 0, none, 0⟩, rfl, rfl, rfl, rfl, ⟨ht.fresh hk3 (fun _ _ h => h.elim) (fun i hi => ?_), ⟨hx3, Own.nil _ _ _, (fun o h => nomatch h), id, fun b h => (none_own h).elim, fun _ h => h.elim⟩, fun i hi => ⟨id, ?_, fun h => none_own h, ?_⟩, inv_nil, inv_nil, Nat.le_refl _, Nat.le_refl _⟩⟩
    · rcases hi with h | h | h | h
      · exact .inl (by omega)
      · exact h.elim
      · exact .inr (by rw [h]; exact ⟨by omega, row_lt hx3⟩)
      · exact (none_own h).elim
    · have := K2.out.size
      omega
    · have := K3.out.size
      omega)
  clear ht hle hk hwz K1 hk3 hx3 hw3 hxb
  go_upto_block 0 with fail
  try rw [HW3.out]
  try rw [HXB.out]
  go_cut [] from 5 to 38 (fun wx => Kept (fun i => ¬ i < W.heap.size) W wx)
  case first =>
    go_wp2_with fail
    go_loopw [17] (fun i wr => ∃ (k : Nat), i = .int .i64 k ∧ k ≤ N ∧ k ≤ 80 ∧ (∃ S, Bo (fun i => i < W.heap.size) wr (.pointer (some ⟨tb, 0, none⟩)) (.pointer (some ⟨xb, 0, none⟩)) (2 * k) S S) ∧ Kept (fun i => ¬ i < W.heap.size) W wr) (fun i _ => N - (RowKit.intOf i).toNat)
    case atStart => exact ⟨0, rfl, Nat.zero_le _, Nat.zero_le _, ⟨_, B3.out⟩, K3.out.mono (fun _ _ h => h.elim)⟩
    case round =>
      rename World => wr
      clear B3
      obtain ⟨k, rfl, hk, hk80, ⟨S, hbo⟩, hkw⟩ := hrel
      have BR := hid hbo; have KR := hid hkw
      clear hbo hkw
      by_cases hlt : k < N
      · have hltI : (k : Int) < (N : Int) := by omega
        obtain ⟨x, hx⟩ : ∃ x, ops[k]? = some x := ⟨_, List.getElem?_eq_getElem (by rw [HNO.out]; exact hlt)⟩
        have S4 := hid (SC.out.kept KR.out (fun _ _ h => h))
        obtain ⟨b, off, bo, bc, rfl, c0, c1, c2, c3, c4, c5, hok⟩ := op_cells S4.out hx
        obtain ⟨kd, ⟨t1, t2, t3⟩, age, ws⟩ := x
        simp only at c0 c1 c2 c3 c4 c5
        obtain ⟨ob, hob⟩ : ∃ ob, wr.heap.size = ob := ⟨_, rfl⟩
        obtain ⟨w2, hw2⟩ : ∃ w2, wr.alloc (opRow kd t1 t2 t3 age bo ws.length bc) = w2 := ⟨_, rfl⟩
        have k2 : Kept (fun _ => False) wr w2 := by rw [← hw2]; exact (Kept.refl _ _).alloc _
        have OB := hid (show w2.heap[ob]? = some (opRow kd t1 t2 t3 age bo ws.length bc) by rw [← hw2, ← hob]; exact row_new _ _)
        have OK2 := hid (hok.kept k2 (fun _ _ h => h.elim))
        obtain ⟨z0, z1, z2, z3, z4, z5⟩ := cells6 (row_new wr (opRow kd t1 t2 t3 age bo ws.length bc))
        unfold opRow at hw2 z0 z1 z2 z3 z4 z5
        have HW2 := hid hw2; have HOB := hid hob
        clear hw2 hob
        have HOKR := hid hok
        clear hx hok k2
        by_cases h80 : k < 80
        · have h80D : decide ((80 : Int) ≤ (k : Int)) = false := by simp; omega
          obtain ⟨M, hM⟩ : ∃ M, ws.length = M := ⟨_, rfl⟩
          have HM := hid hM
          have hbb := HOKR.out.b
          rw [hM] at c5 z5 hbb
          obtain ⟨hcp1, hcp2⟩ := cap_of hbb
          unfold maxLen at hcp2
          obtain ⟨m, hm, hm1, hm2⟩ : ∃ m : Nat, (if (150 : Int) < (M : Int) then (150 : Int) else (M : Int)) = (m : Int) ∧ m ≤ M ∧ m ≤ 150 := ⟨min M 150, by split <;> omega, by omega, by omega⟩
          have HMIN := hid hm
          obtain ⟨hct1, hct2⟩ := lies_cut hbb hM hm1
          have HC1 := hid hct1; have HC2 := hid hct2
          have hmI0 : (0 : Int) ≤ (m : Int) := by omega
          have hmI : (m : Int) ≤ (bc : Int) := by omega
          clear hM hm hbb hct1 hct2
          go_wp2_with (refine wpList_min rfl _ _ _ rfl M 150 m (by rfl) (by rfl) HMIN.out ?_)
          have kw := hid ((Kept.refl (fun _ => False) wr).alloc (opRow kd t1 t2 t3 age bo m bc))
          refine (play_is (BR.out.same kw.out) (by omega) HC1.out (HC2.out.same kw.out) (by omega)).mono ?_
          rintro e w4 ⟨rfl, ⟨S', hb4⟩, hk4⟩
          have B4 := hid hb4
          have K4 := hid ((KR.out.trans (kw.out.mono (fun _ _ h => h.elim))).trans hk4)
          clear hb4 hk4
          go_wp2
          go_roundw
          case rel => exact ⟨k + 1, by go_num, by omega, by omega, ⟨S', B4.out⟩, K4.out⟩
          case measure => (simp only [RowKit.intOf]; omega)
        · have h80D : decide ((80 : Int) ≤ (k : Int)) = true := by simp; omega
          go_wp2
          go_meet
          exact KR.out.trans ((Kept.refl _ wr).alloc _)
      · obtain rfl : k = N := by omega
        go_wp2
        go_meet
        exact KR.out
  case rest =>
    rename World => wc
    have KC := hid hcut
    clear hcut
    go_wp2_with fail
    go_loopw [40] (fun i wr => ∃ (k : Nat), i = .int .i64 k ∧ k ≤ N ∧ Kept (fun i => ¬ i < W.heap.size) W wr) (fun i _ => N - (RowKit.intOf i).toNat)
    case atStart => exact ⟨0, rfl, Nat.zero_le _, KC.out⟩
    case round =>
      rename World => wr
      clear KC
      obtain ⟨k, rfl, hk, hkw⟩ := hrel
      have KR := hid hkw
      clear hkw
      by_cases hlt : k < N
      · have hltI : (k : Int) < (N : Int) := by omega
        obtain ⟨x, hx⟩ : ∃ x, ops[k]? = some x := ⟨_, List.getElem?_eq_getElem (by rw [HNO.out]; exact hlt)⟩
        have S4 := hid (SC.out.kept KR.out (fun _ _ h => h))
        obtain ⟨b, off, bo, bc, rfl, c0, c1, c2, c3, c4, c5, hok⟩ := op_cells S4.out hx
        obtain ⟨kd, ⟨t1, t2, t3⟩, age, ws⟩ := x
        simp only at c0 c1 c2 c3 c4 c5
        obtain ⟨ob, hob⟩ : ∃ ob, wr.heap.size = ob := ⟨_, rfl⟩
        obtain ⟨w2, hw2⟩ : ∃ w2, wr.alloc (opRow kd t1 t2 t3 age bo ws.length bc) = w2 := ⟨_, rfl⟩
        have k2 : Kept (fun _ => False) wr w2 := by rw [← hw2]; exact (Kept.refl _ _).alloc _
        have OB := hid (show w2.heap[ob]? = some (opRow kd t1 t2 t3 age bo ws.length bc) by rw [← hw2, ← hob]; exact row_new _ _)
        have OK2 := hid (hok.kept k2 (fun _ _ h => h.elim))
        obtain ⟨z0, z1, z2, z3, z4, z5⟩ := cells6 (row_new wr (opRow kd t1 t2 t3 age bo ws.length bc))
        unfold opRow at hw2 z0 z1 z2 z3 z4 z5
        have HW2 := hid hw2; have HOB := hid hob
        clear hw2 hob
        have HOKR := hid hok
        clear hx hok
        by_cases h5 : k < 5
        · have h5I : (k : Int) < 5 := by omega
          obtain ⟨M, hM⟩ : ∃ M, ws.length = M := ⟨_, rfl⟩
          have HM := hid hM
          have hbb := HOKR.out.b
          have hll := HOKR.out.l
          rw [hM] at c5 z5 hbb hll
          have HBB := hid hbb; have HLL := hid hll
          clear hM hbb hll
          go_wp2_with fail
          have kw := hid ((Kept.refl (fun _ => False) wr).alloc (opRow kd t1 t2 t3 age bo M bc))
          have BN := hid (show Bo (fun i => i < W.heap.size) (wr.alloc (opRow kd t1 t2 t3 age bo M bc)) (.pointer none) (.pointer none) 0 none none from .inl ⟨rfl, rfl, rfl, rfl, fun i hi => by have := KR.out.size; have := kw.out.size; omega⟩)
          refine (play_is BN.out (by omega) HM.out (HBB.out.same kw.out) HLL.out).mono ?_
          rintro e w4 ⟨rfl, _, hk4⟩
          have K4 := hid ((KR.out.trans (kw.out.mono (fun _ _ h => h.elim))).trans hk4)
          clear hk4
          go_wp2
          go_roundw
          case rel => exact ⟨k + 1, by go_num, by omega, K4.out⟩
          case measure => (simp only [RowKit.intOf]; omega)
        · have h5I : ¬ (k : Int) < 5 := by omega
          go_wp2
          go_roundw
          case rel => exact ⟨k + 1, by go_num, by omega, KR.out.alloc _⟩
          case measure => (simp only [RowKit.intOf]; omega)
      · obtain rfl : k = N := by omega
        go_wp2
        go_ret
        exact ⟨rfl, KR.out.below (Nat.le_refl _) (fun _ h => Nat.le_of_not_lt h)⟩
set_option maxRecDepth 100000 in
theorem lockPlays_lifted (os : Os) (started : os.Started) (H : Type) (enc : TypeId × Value → H) :
    ReturnsInHanded {} Try.checked os 8 .any (Rows.lockPlaysSpec.pre6 enc Try.prog Try.f8 Rows.lockPlaysRow.domain false) (Rows.lockPlaysSpec.post enc Try.prog Try.f8 false true false false) :=
  lawLift (C := Try.checked) (s := Rows.lockPlaysSpec) (bt := 4) (by kernel_rfl) started (by kernel_rfl) Try.func8 (by kernel_rfl)
    (by rw [Try.params8]; intro t ht; simp only [List.mem_cons, List.not_mem_nil, or_false] at ht; rcases ht with rfl <;> exact ⟨by kernel_rfl, of_decide_eq_true (by kernel_rfl)⟩)
    rfl rfl Try.underlying4 (by intro ds h; rw [Try.params8] at h; match ds, h with | [_], _ => rfl)
    (ChangeSpec.witness6 (enc := enc) (C := Try.checked) false ⟨#[], #[.slice none 0 0], []⟩ 8 (by kernel_rfl) (by kernel_rfl) (by kernel_rfl) (by kernel_rfl))
    plays_walk
theorem lockPlays_holds : Rows.LockPlaysSaid :=
  OpenClaim.holds_of_wide 8 Try.f8 rfl rfl rfl rfl rfl rfl rfl ⟨rfl, rfl, rfl, rfl, rfl⟩ rfl rfl rfl rfl rfl (by kernel_rfl) Try.func8 (by kernel_rfl)
    (of_decide_eq_true (by kernel_rfl)) (by unfold Func.isWrapper; rw [if_neg (of_decide_eq_false (by kernel_rfl))]; exact ⟨rfl, rfl⟩)
    (fun os started H enc _ => lockPlays_lifted os started H enc)
#print axioms lockPlays_holds
end Go.Proofs.Ytpjhdpfaogdboaa
