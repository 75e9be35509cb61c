/- Ask, refused. -/
import Derived.Test.YtpjhdpfaogdboaaQ
import Derived.Test.YtpjhdpfaogdboaaReg
namespace Go.Proofs.Ytpjhdpfaogdboaa
set_option linter.unusedSimpArgs false
set_option linter.unusedVariables false
open Go.RowKit
theorem chk_any {F : Nat → Prop} {w : World} {a : Option Addr} {c : Nat} {ws : List Wt} (hl : Lies F w 2 (.slice a ws.length c) ws.length (wcells ws)) {n : Nat} {z : Int} (hn : ws.length = n) (hz : chkW ws = z) :
    Calls Try.prog 25 #[.slice a n c] w fun e w' => e = .returned (.int .i64 z) ∧ Kept (fun _ => False) w w' := by
  subst hn hz
  exact check_any hl
set_option maxRecDepth 100000 in
set_option maxHeartbeats 1000000 in
theorem ask_err {F : Nat → Prop} {w : World} {tp : Value} {t1 t2 t3 age : Int} {a : Option Addr} {c : Nat} {ws : List Wt} (hl : Lies F w 2 (.slice a ws.length c) ws.length (wcells ws)) (hz : chkW ws ≠ 0) :
    Calls Try.prog 11 #[tp, .agg #[.int .u8 t1, .int .u32 t2, .int .u32 t3], .int .u64 age, .slice a ws.length c] w fun e w' => e = .returned (.tuple #[.slice none 0 0, .slice none 0 0, .int .i64 (chkW ws)]) ∧ Kept (fun _ => False) w w' := by
  have hk1 := (Kept.refl (fun _ => False) w).alloc (.cells #[.int .u8 t1, .int .u32 t2, .int .u32 t3] 32)
  have hkb := row_new w (.cells #[.int .u8 t1, .int .u32 t2, .int .u32 t3] 32)
  obtain ⟨w1, hw1⟩ : ∃ w1, w.alloc (.cells #[.int .u8 t1, .int .u32 t2, .int .u32 t3] 32) = w1 := ⟨_, rfl⟩
  obtain ⟨kb, hkb'⟩ : ∃ kb, w.heap.size = kb := ⟨_, rfl⟩
  rw [hw1] at hk1 hkb
  rw [hkb'] at hkb
  have HKB := hid (Nat.le_of_eq hkb'.symm)
  have K1 := hid hk1; have HK1 := hid hkb
  have HLI := hid (hl.same hk1)
  obtain ⟨n, hn⟩ : ∃ n, ws.length = n := ⟨_, rfl⟩
  have HN := hid hn
  rw [hn]
  clear hl hk1 hkb hn
  obtain ⟨z, hzz⟩ : ∃ z, chkW ws = z := ⟨_, rfl⟩
  rw [hzz] at hz ⊢
  have hz1 : (z != 0) = true := by simpa using hz
  have HC := hid (chk_any HLI.out HN.out hzz)
  clear hz hzz
  go_enter Try.func11, Try.ntmps11
  go_wp2_with fail
  try rw [hw1, hkb']
  clear hw1 hkb'
  refine HC.out.mono ?_
  rintro e w2 ⟨rfl, hk2⟩
  have K2 := hid (K1.out.trans hk2)
  clear hk2
  go_wp2
  exact bodyPost_ret (v := .tuple #[.slice none 0 0, .slice none 0 0, .int .i64 z]) (by simp [results, Try.results11, go_sem]) rfl ⟨rfl, K2.out⟩
set_option maxRecDepth 100000 in
set_option maxHeartbeats 1000000 in
theorem ask_nil {F : Nat → Prop} {w : World} {t1 t2 t3 age : Int} {a : Option Addr} {c : Nat} {ws : List Wt} (hl : Lies F w 2 (.slice a ws.length c) ws.length (wcells ws)) (hz : chkW ws = 0) :
    Calls Try.prog 11 #[.pointer none, .agg #[.int .u8 t1, .int .u32 t2, .int .u32 t3], .int .u64 age, .slice a ws.length c] w fun e w' => e = .returned (.tuple #[.slice none 0 0, .slice none 0 0, .int .i64 6]) ∧ Kept (fun _ => False) w w' := by
  have hk1 := (Kept.refl (fun _ => False) w).alloc (.cells #[.int .u8 t1, .int .u32 t2, .int .u32 t3] 32)
  have hkb := row_new w (.cells #[.int .u8 t1, .int .u32 t2, .int .u32 t3] 32)
  obtain ⟨w1, hw1⟩ : ∃ w1, w.alloc (.cells #[.int .u8 t1, .int .u32 t2, .int .u32 t3] 32) = w1 := ⟨_, rfl⟩
  obtain ⟨kb, hkb'⟩ : ∃ kb, w.heap.size = kb := ⟨_, rfl⟩
  rw [hw1] at hk1 hkb
  rw [hkb'] at hkb
  have HKB := hid (Nat.le_of_eq hkb'.symm)
  have K1 := hid hk1; have HK1 := hid hkb
  have HLI := hid (hl.same hk1)
  obtain ⟨n, hn⟩ : ∃ n, ws.length = n := ⟨_, rfl⟩
  have HN := hid hn
  rw [hn]
  clear hl hk1 hkb hn
  have HC := hid (chk_any HLI.out HN.out hz)
  clear hz
  go_enter Try.func11, Try.ntmps11
  go_wp2_with fail
  try rw [hw1, hkb']
  clear hw1 hkb'
  refine HC.out.mono ?_
  rintro e w2 ⟨rfl, hk2⟩
  have K2 := hid (K1.out.trans hk2)
  clear hk2
  go_wp2
  exact bodyPost_ret (v := .tuple #[.slice none 0 0, .slice none 0 0, .int .i64 6]) (by simp [results, Try.results11, go_sem]) rfl ⟨rfl, K2.out⟩
section
variable {own : Nat → Option Tx} {B : Nat} {w w' : World} {tb mb : Nat} {L : List Ow} {A : Tx → Ad}
set_option maxRecDepth 100000 in
set_option maxHeartbeats 1000000 in
theorem ask_st {F : Nat → Prop} {t1 t2 t3 age : Int} {a : Option Addr} {c : Nat} {ws : List Wt} {o : Ow} (hb : Tab own B w tb mb L A) (hl : Lies F w 2 (.slice a ws.length c) ws.length (wcells ws)) (hz : chkW ws = 0) (hl2 : findO L (t1, t2, t3) = some o)
    (hs : 0 < o.ws.length ∨ o.fast = true ∨ o.age ≠ age) :
    Calls Try.prog 11 #[.pointer (some ⟨tb, 0, none⟩), .agg #[.int .u8 t1, .int .u32 t2, .int .u32 t3], .int .u64 age, .slice a ws.length c] w fun e w' => e = .returned (.tuple #[.slice none 0 0, .slice none 0 0, .int .i64 9]) ∧ Kept (fun _ => False) w w' := by
  have HS := hid hs
  clear hs
  have hk1 := (Kept.refl (fun _ => False) w).alloc (.cells #[.int .u8 t1, .int .u32 t2, .int .u32 t3] 32)
  have hkb := row_new w (.cells #[.int .u8 t1, .int .u32 t2, .int .u32 t3] 32)
  obtain ⟨w1, hw1⟩ : ∃ w1, w.alloc (.cells #[.int .u8 t1, .int .u32 t2, .int .u32 t3] 32) = w1 := ⟨_, rfl⟩
  obtain ⟨kb, hkb'⟩ : ∃ kb, w.heap.size = kb := ⟨_, rfl⟩
  rw [hw1] at hk1 hkb
  rw [hkb'] at hkb
  have HKB := hid (Nat.le_of_eq hkb'.symm)
  have K1 := hid hk1; have HK1 := hid hkb
  have HLI := hid (hl.same hk1)
  obtain ⟨n, hn⟩ : ∃ n, ws.length = n := ⟨_, rfl⟩
  have HN := hid hn
  rw [hn]
  clear hl hk1 hkb hn
  have HB1 := hid (hb.same K1.out)
  have HC := hid (chk_any HLI.out HN.out hz)
  have HL := hid hl2; have HZ := hid hz
  clear hb hz hl2
  go_enter Try.func11, Try.ntmps11
  go_wp2_with fail
  try rw [hw1, hkb']
  clear hw1 hkb'
  refine HC.out.mono ?_
  rintro e w2 ⟨rfl, hk2⟩
  have K2 := hid (K1.out.trans hk2)
  have HB2 := hid (HB1.out.same hk2)
  have HK2 := hid ((hk2.block _ (row_lt HK1.out) id).trans HK1.out)
  have HL2 := hid (HLI.out.same hk2)
  clear hk2 HB1 HK1 HLI K1
  have l0 := HB2.out.look1 HL.out
  have c0 := HB2.out.cell
  obtain ⟨d0, d1, d2⟩ := cells3 HK2.out
  go_wp2_with fail
  go_quiet (fail)
  have hk3 := kept_drewN (F := fun _ => False) w2 nq
  have K3 := hid (K2.out.trans hk3)
  have HB3 := hid (HB2.out.same hk3)
  have HK3 := hid ((hk3.block _ (row_lt HK2.out) id).trans HK2.out)
  have HL3 := hid (HL2.out.same hk3)
  obtain ⟨w3, hw3⟩ : ∃ w3, w2.drewN nq = w3 := ⟨_, rfl⟩
  rw [hw3] at K3 HB3 HK3 HL3
  clear hk3 l0 c0 d0 d1 d2 HB2 HK2 HL2 K2
  obtain ⟨hom, hot⟩ := findO_mem HL.out
  have HO := hid (HB3.out.ows _ hom)
  have HOT := hid hot; have HOM := hid hom
  rw [hot] at HO
  clear hom hot
  obtain ⟨ad, had⟩ : ∃ ad, A (t1, t2, t3) = ad := ⟨_, rfl⟩
  have HAD := hid had
  rw [had] at HO ⊢
  clear had
  obtain ⟨_, _, _, o3, _, _, o6⟩ := cells7 HO.out.obj
  have HS1 := HS.out
  go_wp2_with fail
  try rw [hw3]
  clear hw3
  by_cases h1 : 0 < o.ws.length
  · have HW := hid (show decide (0 < o.ws.length) = true by simp [h1])
    clear h1 HS1
    refine (waits_b HO.out HW.out).mono ?_; rintro e w' ⟨rfl, rfl⟩
    go_wp2
    exact bodyPost_ret (v := .tuple #[.slice none 0 0, .slice none 0 0, .int .i64 9]) (by simp [results, Try.results11, go_sem]) rfl ⟨rfl, K3.out⟩
  · have HW := hid (show decide (0 < o.ws.length) = false by simp [h1])
    obtain ⟨of, hof⟩ : ∃ b, o.fast = b := ⟨_, rfl⟩
    rw [hof] at o6 HS1
    cases of with
    | true =>
      clear h1 HS1 hof
      refine (waits_b HO.out HW.out).mono ?_; rintro e w' ⟨rfl, rfl⟩
      go_wp2
      exact bodyPost_ret (v := .tuple #[.slice none 0 0, .slice none 0 0, .int .i64 9]) (by simp [results, Try.results11, go_sem]) rfl ⟨rfl, K3.out⟩
    | false =>
      have ha : (o.age != age) = true := by
        rcases HS1 with h | h | h
        · exact absurd h h1
        · cases h
        · simpa using h
      clear h1 HS1 hof
      refine (waits_b HO.out HW.out).mono ?_; rintro e w' ⟨rfl, rfl⟩
      go_wp2
      exact bodyPost_ret (v := .tuple #[.slice none 0 0, .slice none 0 0, .int .i64 9]) (by simp [results, Try.results11, go_sem]) rfl ⟨rfl, K3.out⟩
set_option maxRecDepth 100000 in
set_option maxHeartbeats 1000000 in
theorem ask_full1 {F : Nat → Prop} {t1 t2 t3 age : Int} {a : Option Addr} {c : Nat} {ws : List Wt} {o : Ow} (hb : Tab own B w tb mb L A) (hl : Lies F w 2 (.slice a ws.length c) ws.length (wcells ws)) (hz : chkW ws = 0) (hl2 : findO L (t1, t2, t3) = some o)
    (h1 : ¬ 0 < o.ws.length) (h2 : o.fast = false) (h3 : o.age = age) (hc : cnt L ≤ 1000000) (hf : 256 < cnt L + ws.length) :
    Calls Try.prog 11 #[.pointer (some ⟨tb, 0, none⟩), .agg #[.int .u8 t1, .int .u32 t2, .int .u32 t3], .int .u64 age, .slice a ws.length c] w fun e w' => e = .returned (.tuple #[.slice none 0 0, .slice none 0 0, .int .i64 10]) ∧ Kept (fun _ => False) w w' := by
  have HW := hid (show decide (0 < o.ws.length) = false by simp [h1])
  have H2 := hid h2; have H3 := hid h3; have HF := hid hf
  clear h1 h2 h3 hf
  have hk1 := (Kept.refl (fun _ => False) w).alloc (.cells #[.int .u8 t1, .int .u32 t2, .int .u32 t3] 32)
  have hkb := row_new w (.cells #[.int .u8 t1, .int .u32 t2, .int .u32 t3] 32)
  obtain ⟨w1, hw1⟩ : ∃ w1, w.alloc (.cells #[.int .u8 t1, .int .u32 t2, .int .u32 t3] 32) = w1 := ⟨_, rfl⟩
  obtain ⟨kb, hkb'⟩ : ∃ kb, w.heap.size = kb := ⟨_, rfl⟩
  rw [hw1] at hk1 hkb
  rw [hkb'] at hkb
  have HKB := hid (Nat.le_of_eq hkb'.symm)
  have K1 := hid hk1; have HK1 := hid hkb
  have HLI := hid (hl.same hk1)
  obtain ⟨n, hn⟩ : ∃ n, ws.length = n := ⟨_, rfl⟩
  have HN := hid hn
  rw [hn]
  clear hl hk1 hkb hn
  have HB1 := hid (hb.same K1.out)
  have HC := hid (chk_any HLI.out HN.out hz)
  have HL := hid hl2; have HZ := hid hz
  clear hb hz hl2
  go_enter Try.func11, Try.ntmps11
  go_wp2_with fail
  try rw [hw1, hkb']
  clear hw1 hkb'
  refine HC.out.mono ?_
  rintro e w2 ⟨rfl, hk2⟩
  have K2 := hid (K1.out.trans hk2)
  have HB2 := hid (HB1.out.same hk2)
  have HK2 := hid ((hk2.block _ (row_lt HK1.out) id).trans HK1.out)
  have HL2 := hid (HLI.out.same hk2)
  clear hk2 HB1 HK1 HLI K1
  have l0 := HB2.out.look1 HL.out
  have c0 := HB2.out.cell
  obtain ⟨d0, d1, d2⟩ := cells3 HK2.out
  go_wp2_with fail
  go_quiet (fail)
  have hk3 := kept_drewN (F := fun _ => False) w2 nq
  have K3 := hid (K2.out.trans hk3)
  have HB3 := hid (HB2.out.same hk3)
  have HK3 := hid ((hk3.block _ (row_lt HK2.out) id).trans HK2.out)
  have HL3 := hid (HL2.out.same hk3)
  obtain ⟨w3, hw3⟩ : ∃ w3, w2.drewN nq = w3 := ⟨_, rfl⟩
  rw [hw3] at K3 HB3 HK3 HL3
  clear hk3 l0 c0 d0 d1 d2 HB2 HK2 HL2 K2
  obtain ⟨hom, hot⟩ := findO_mem HL.out
  have HO := hid (HB3.out.ows _ hom)
  have HOT := hid hot; have HOM := hid hom
  rw [hot] at HO
  clear hom hot
  obtain ⟨ad, had⟩ : ∃ ad, A (t1, t2, t3) = ad := ⟨_, rfl⟩
  have HAD := hid had
  rw [had] at HO ⊢
  clear had
  obtain ⟨_, _, _, o3, _, _, o6⟩ := cells7 HO.out.obj
  rw [H3.out] at o3
  rw [H2.out] at o6
  have hf := HF.out
  rw [HN.out] at hf
  have HCN := hid (count_any HB3.out hc)
  have hfu : (256 : Int) < (cnt L : Int) + (n : Int) := by omega
  have hcb : cnt L ≤ 1000000 := hc
  have hnb : n ≤ 40 := by have := (chkW_ok HZ.out).2.1; rw [HN.out] at this; exact this
  obtain ⟨q, hq⟩ : ∃ q, cnt L = q := ⟨_, rfl⟩
  rw [hq] at HCN hfu hcb
  clear hc hq
  clear hf
  go_wp2_with fail
  try rw [hw3]
  clear hw3
  refine (waits_b HO.out HW.out).mono ?_; rintro e w' ⟨rfl, rfl⟩
  go_wp2_with fail
  refine HCN.out.mono ?_
  rintro e w4 ⟨rfl, hk4⟩
  have K4 := hid (K3.out.trans hk4)
  clear hk4 o3 o6
  go_wp2
  exact bodyPost_ret (v := .tuple #[.slice none 0 0, .slice none 0 0, .int .i64 10]) (by simp [results, Try.results11, go_sem]) rfl ⟨rfl, K4.out⟩
set_option maxRecDepth 100000 in
set_option maxHeartbeats 1000000 in
theorem ask_full0 {F : Nat → Prop} {t1 t2 t3 age : Int} {a : Option Addr} {c : Nat} {ws : List Wt} (hb : Tab own B w tb mb L A) (hl : Lies F w 2 (.slice a ws.length c) ws.length (wcells ws)) (hz : chkW ws = 0) (hl2 : findO L (t1, t2, t3) = none)
    (hc : cnt L ≤ 1000000) (hf : 256 < cnt L + ws.length) :
    Calls Try.prog 11 #[.pointer (some ⟨tb, 0, none⟩), .agg #[.int .u8 t1, .int .u32 t2, .int .u32 t3], .int .u64 age, .slice a ws.length c] w fun e w' => e = .returned (.tuple #[.slice none 0 0, .slice none 0 0, .int .i64 10]) ∧ Kept (fun _ => False) w w' := by
  have HF := hid hf
  clear hf
  have hk1 := (Kept.refl (fun _ => False) w).alloc (.cells #[.int .u8 t1, .int .u32 t2, .int .u32 t3] 32)
  have hkb := row_new w (.cells #[.int .u8 t1, .int .u32 t2, .int .u32 t3] 32)
  obtain ⟨w1, hw1⟩ : ∃ w1, w.alloc (.cells #[.int .u8 t1, .int .u32 t2, .int .u32 t3] 32) = w1 := ⟨_, rfl⟩
  obtain ⟨kb, hkb'⟩ : ∃ kb, w.heap.size = kb := ⟨_, rfl⟩
  rw [hw1] at hk1 hkb
  rw [hkb'] at hkb
  have HKB := hid (Nat.le_of_eq hkb'.symm)
  have K1 := hid hk1; have HK1 := hid hkb
  have HLI := hid (hl.same hk1)
  obtain ⟨n, hn⟩ : ∃ n, ws.length = n := ⟨_, rfl⟩
  have HN := hid hn
  rw [hn]
  clear hl hk1 hkb hn
  have HB1 := hid (hb.same K1.out)
  have HC := hid (chk_any HLI.out HN.out hz)
  have HL := hid hl2; have HZ := hid hz
  clear hb hz hl2
  go_enter Try.func11, Try.ntmps11
  go_wp2_with fail
  try rw [hw1, hkb']
  clear hw1 hkb'
  refine HC.out.mono ?_
  rintro e w2 ⟨rfl, hk2⟩
  have K2 := hid (K1.out.trans hk2)
  have HB2 := hid (HB1.out.same hk2)
  have HK2 := hid ((hk2.block _ (row_lt HK1.out) id).trans HK1.out)
  have HL2 := hid (HLI.out.same hk2)
  clear hk2 HB1 HK1 HLI K1
  have l0 := HB2.out.look0 HL.out
  have c0 := HB2.out.cell
  obtain ⟨d0, d1, d2⟩ := cells3 HK2.out
  go_wp2_with fail
  go_quiet (fail)
  have hk3 := kept_drewN (F := fun _ => False) w2 nq
  have K3 := hid (K2.out.trans hk3)
  have HB3 := hid (HB2.out.same hk3)
  have HK3 := hid ((hk3.block _ (row_lt HK2.out) id).trans HK2.out)
  have HL3 := hid (HL2.out.same hk3)
  obtain ⟨w3, hw3⟩ : ∃ w3, w2.drewN nq = w3 := ⟨_, rfl⟩
  rw [hw3] at K3 HB3 HK3 HL3
  clear hk3 l0 c0 d0 d1 d2 HB2 HK2 HL2 K2
  have hf := HF.out
  rw [HN.out] at hf
  have HCN := hid (count_any HB3.out hc)
  have hfu : (256 : Int) < (cnt L : Int) + (n : Int) := by omega
  have hcb : cnt L ≤ 1000000 := hc
  have hnb : n ≤ 40 := by have := (chkW_ok HZ.out).2.1; rw [HN.out] at this; exact this
  obtain ⟨q, hq⟩ : ∃ q, cnt L = q := ⟨_, rfl⟩
  rw [hq] at HCN hfu hcb
  clear hc hq
  clear hf
  go_wp2_with fail
  try rw [hw3]
  clear hw3
  refine HCN.out.mono ?_
  rintro e w4 ⟨rfl, hk4⟩
  have K4 := hid (K3.out.trans hk4)
  clear hk4
  go_wp2
  exact bodyPost_ret (v := .tuple #[.slice none 0 0, .slice none 0 0, .int .i64 10]) (by simp [results, Try.results11, go_sem]) rfl ⟨rfl, K4.out⟩
end
end Go.Proofs.Ytpjhdpfaogdboaa
