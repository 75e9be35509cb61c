/- New, Known, Count, Hold. -/
import Derived.Test.YtpjhdpfaogdboaaH
namespace Go.Proofs.Ytpjhdpfaogdboaa
set_option linter.unusedSimpArgs false
set_option linter.unusedVariables false
open Go.RowKit
theorem MapT.mapOf {w : World} {b : Nat} {L : List (Tx × Value)} (h : MapT w b L) : MapOf w b (L.map fun p => (txv p.1, p.2)) := by
  obtain ⟨es, clock, hb, he, _, hs⟩ := h
  exact ⟨es, clock, hb, hs, he⟩
def cnt (L : List Ow) : Nat := (L.map (·.lk.length)).sum
theorem cnt_cons (o : Ow) (L : List Ow) : cnt (o :: L) = o.lk.length + cnt L := by simp [cnt]
theorem cnt_perm {L M : List Ow} (h : L.Perm M) : cnt L = cnt M := by
  induction h with
  | nil => rfl
  | cons x _ ih => rw [cnt_cons, cnt_cons, ih]
  | swap x y l => simp only [cnt_cons]; omega
  | trans _ _ h1 h2 => rw [h1, h2]
theorem cnt_erase {L : List Ow} {i : Nat} {o : Ow} (h : L[i]? = some o) : o.lk.length + cnt (L.eraseIdx i) = cnt L := by
  have := cnt_perm (perm_erase0 L i o h)
  rwa [cnt_cons] at this
set_option maxHeartbeats 400000 in
theorem new_any (w : World) : Calls Try.prog 10 #[] w fun e w' => e = .returned (.pointer (some ⟨w.heap.size + 1, 0, none⟩)) ∧ Tab (fun _ => none) w.heap.size w' (w.heap.size + 1) w.heap.size [] (fun _ => ⟨0, 0, none, 0⟩) ∧ Kept (fun _ => False) w w' := by
  have hmm := @run_makeMap Try.prog
  have k1 := ((Kept.refl (fun _ => False) w).alloc (.map #[] 0)).alloc (.cells #[.map (some w.heap.size)] 63)
  have htw := two_new w (.map #[] 0) (.cells #[.map (some w.heap.size)] 63)
  have hT : Tab (fun _ => none) w.heap.size ((w.alloc (.map #[] 0)).alloc (.cells #[.map (some w.heap.size)] 63)) (w.heap.size + 1) w.heap.size [] (fun _ => ⟨0, 0, none, 0⟩) :=
    ⟨htw.2, ⟨[], ⟨#[], 0, htw.1, rfl, List.nodup_nil, MapKept.stamped_empty 0⟩, List.Perm.refl _⟩, (fun o ho => nomatch ho), ⟨rfl, rfl⟩, fun _ _ => rfl, ⟨Nat.le_succ _, Nat.le_refl _, fun i t h => by cases h⟩, List.Pairwise.nil, (fun o ho => nomatch ho)⟩
  have HT := hid hT; have K1 := hid k1
  clear hT k1 htw
  go_enter Try.func10, Try.ntmps10
  go_wp2
  go_ret
  exact ⟨rfl, HT.out, K1.out⟩
section
variable {own : Nat → Option Tx} {B : Nat} {w : World} {tb mb : Nat} {L : List Ow} {A : Tx → Ad}
theorem Tab.look1 (h : Tab own B w tb mb L A) {t1 t2 t3 : Int} {o : Ow} (hl : findO L (t1, t2, t3) = some o) (q : Nat) :
    (Instr.lookup 61 (.map (some mb)) (.agg #[.int .u8 t1, .int .u32 t2, .int .u32 t3]) false).run Try.prog (w.drewN q) = .ok (.pointer (some ⟨(A (t1, t2, t3)).ob, 0, none⟩)) (w.drewN q) := by
  obtain ⟨M, hm, he⟩ := (h.same (kept_drewN w q)).look t1 t2 t3
  rw [hl] at he
  exact hm.run_look_some Try.underlying61 (k := (t1, t2, t3)) he false
theorem Tab.look0 (h : Tab own B w tb mb L A) {t1 t2 t3 : Int} (hl : findO L (t1, t2, t3) = none) (q : Nat) :
    (Instr.lookup 61 (.map (some mb)) (.agg #[.int .u8 t1, .int .u32 t2, .int .u32 t3]) false).run Try.prog (w.drewN q) = .ok (.pointer none) (w.drewN q) := by
  obtain ⟨M, hm, he⟩ := (h.same (kept_drewN w q)).look t1 t2 t3
  rw [hl] at he
  exact hm.run_look_none Try.underlying61 (k := (t1, t2, t3)) (z := .pointer none) (by kernel_rfl) he false
theorem cells3 {w : World} {b T : Nat} {x0 x1 x2 : Value} (h : w.heap[b]? = some (.cells #[x0, x1, x2] T (0, 0))) : w.cell? ⟨b, 0, none⟩ = some x0 ∧ w.cell? ⟨b, 1, none⟩ = some x1 ∧ w.cell? ⟨b, 2, none⟩ = some x2 :=
  ⟨by rw [row_cell h]; rfl, by rw [row_cell h]; rfl, by rw [row_cell h]; rfl⟩
set_option maxRecDepth 100000 in
set_option maxHeartbeats 1000000 in
theorem known_yes {t1 t2 t3 : Int} {o : Ow} (hb : Tab own B w tb mb L A) (hl : findO L (t1, t2, t3) = some o) :
    Calls Try.prog 18 #[.pointer (some ⟨tb, 0, none⟩), .agg #[.int .u8 t1, .int .u32 t2, .int .u32 t3]] w fun e w' => e = .returned (.bool true) ∧ Kept (fun _ => False) w w' := by
  have hk1 := (Kept.refl (fun _ => False) w).alloc (.cells #[.int .u8 t1, .int .u32 t2, .int .u32 t3] 32)
  have hkb := row_new w (.cells #[.int .u8 t1, .int .u32 t2, .int .u32 t3] 32)
  obtain ⟨w1, hw1⟩ : ∃ w1, w.alloc (.cells #[.int .u8 t1, .int .u32 t2, .int .u32 t3] 32) = w1 := ⟨_, rfl⟩
  obtain ⟨kb, hkb'⟩ : ∃ kb, w.heap.size = kb := ⟨_, rfl⟩
  rw [hw1] at hk1 hkb
  rw [hkb'] at hkb
  have HB := hid (hb.same hk1); have HK := hid hkb; have K1 := hid hk1
  have c0 := HB.out.cell
  obtain ⟨d0, d1, d2⟩ := cells3 HK.out
  have HL := hid hl
  have HKB := hid (Nat.le_of_eq hkb')
  clear hb hk1 hkb hl
  have l0 := HB.out.look1 HL.out
  go_enter Try.func18, Try.ntmps18
  go_wp2_with fail
  try rw [hw1, hkb']
  clear hw1 hkb'
  go_quiet (fail)
  have K2 := hid (K1.out.trans (kept_drewN (F := fun _ => False) w1 nq))
  go_wp2
  go_ret
  exact ⟨rfl, K2.out⟩
set_option maxRecDepth 100000 in
set_option maxHeartbeats 1000000 in
theorem known_no {t1 t2 t3 : Int} (hb : Tab own B w tb mb L A) (hl : findO L (t1, t2, t3) = none) :
    Calls Try.prog 18 #[.pointer (some ⟨tb, 0, none⟩), .agg #[.int .u8 t1, .int .u32 t2, .int .u32 t3]] w fun e w' => e = .returned (.bool false) ∧ Kept (fun _ => False) w w' := by
  have hk1 := (Kept.refl (fun _ => False) w).alloc (.cells #[.int .u8 t1, .int .u32 t2, .int .u32 t3] 32)
  have hkb := row_new w (.cells #[.int .u8 t1, .int .u32 t2, .int .u32 t3] 32)
  obtain ⟨w1, hw1⟩ : ∃ w1, w.alloc (.cells #[.int .u8 t1, .int .u32 t2, .int .u32 t3] 32) = w1 := ⟨_, rfl⟩
  obtain ⟨kb, hkb'⟩ : ∃ kb, w.heap.size = kb := ⟨_, rfl⟩
  rw [hw1] at hk1 hkb
  rw [hkb'] at hkb
  have HB := hid (hb.same hk1); have HK := hid hkb; have K1 := hid hk1
  have c0 := HB.out.cell
  obtain ⟨d0, d1, d2⟩ := cells3 HK.out
  have HL := hid hl
  have HKB := hid (Nat.le_of_eq hkb')
  clear hb hk1 hkb hl
  have l0 := HB.out.look0 HL.out
  go_enter Try.func18, Try.ntmps18
  go_wp2_with fail
  try rw [hw1, hkb']
  clear hw1 hkb'
  go_quiet (fail)
  have K2 := hid (K1.out.trans (kept_drewN (F := fun _ => False) w1 nq))
  go_wp2
  go_ret
  exact ⟨rfl, K2.out⟩
def oent (A : Tx → Ad) (o : Ow) : Value × Value := (txv o.tx, ptr (A o.tx).ob)
set_option maxRecDepth 100000 in
set_option maxHeartbeats 1000000 in
theorem count_any (hb : Tab own B w tb mb L A) (hL : cnt L ≤ 1000000) :
    Calls Try.prog 13 #[.pointer (some ⟨tb, 0, none⟩)] w fun e w' => e = .returned (.int .i64 (cnt L)) ∧ Kept (fun _ => False) w w' := by
  have HB := hid hb
  have c0 := hb.cell
  obtain ⟨M, hmt, hp⟩ := hb.map
  have hmo : MapOf w mb (M.map (oent A)) := by
    have h := hmt.mapOf
    rw [List.map_map] at h
    exact h
  have HMO := hid hmo; have HP := hid hp
  have HCM := hid (cnt_perm hp)
  clear hb hmo hmt hp
  go_enter Try.func13, Try.ntmps13
  go_wp2_with (refine wpList_rng rfl _ 61 rfl 32 65 Try.underlying61 mb _ rfl HMO.out ?_; intro w1 hrg hk1 hz1; have RG := hid hrg; have K1 := hid hk1; clear hrg hk1)
  obtain ⟨it, hit⟩ : ∃ it, w.heap.size = it := ⟨_, rfl⟩
  rw [hit] at RG ⊢
  have HIT := hid (Nat.le_of_eq hit)
  clear hit hz1 c0
  go_frame
  go_loopw [3] (fun c wr => ∃ (R : List Ow) (n : Nat), c = .int .i64 n ∧ RngOf wr mb it (M.map (oent A)) (R.map (oent A)) ∧ n + cnt R = cnt L ∧ (∀ o ∈ R, o ∈ L) ∧ Kept (fun _ => False) w wr) (fun _ wr => rngLeft wr mb it)
  case atStart => exact ⟨M, 0, rfl, RG.out, by rw [HCM.out]; omega, fun o ho => HP.out.mem_iff.1 ho, K1.out⟩
  case round =>
    rename World => wr
    obtain ⟨R, n, rfl, hrg, hsum, hsub, hkp⟩ := hrel
    have RR := hid hrg; have HS := hid hsum; have HSU := hid hsub; have KR := hid hkp
    have MW := hid hrg.left
    obtain ⟨RV, hRV⟩ : ∃ RV, R.map (oent A) = RV := ⟨_, rfl⟩
    rw [hRV] at RR MW
    have HRV := hid hRV
    clear hrg hsum hsub hkp RG K1 hRV
    go_wp2_with (refine wpList_nxt rfl _ rfl mb it _ _ rfl RR.out ?_ ?_)
    · intro hR0
      have hn : n = cnt L := by
        have e := HRV.out
        rw [hR0] at e
        have e2 : R = [] := by simpa using e
        have := HS.out
        rw [e2] at this
        simpa [cnt] using this
      subst hn
      clear hR0
      go_wp2
      go_ret
      exact ⟨rfl, KR.out⟩
    · intro i kv v w2 hi hrg2 hk2 hz2 hen
      have hi2 := hi
      rw [← HRV.out, List.getElem?_map, Option.map_eq_some_iff] at hi2
      obtain ⟨o, ho, hoe⟩ := hi2
      simp only [oent, Prod.mk.injEq] at hoe
      obtain ⟨rfl, rfl⟩ := hoe
      have hmz : rngLeft w2 mb it < rngLeft wr mb it := by
        rw [hrg2.left, MW.out, List.length_eraseIdx]
        have := (List.getElem?_eq_some_iff.1 hi).1
        split <;> omega
      have HMZ := hid hmz
      have K2 := hid (KR.out.trans' hk2 (fun j e => .inr (by have := HIT.out; omega)))
      have hom := HSU.out o (List.mem_of_getElem? ho)
      have HOW := hid ((HB.out.same K2.out).ows o hom)
      obtain ⟨E, hme, hle⟩ := HOW.out.map
      obtain ⟨_, _, _, _, c4, _, _⟩ := cells7 HOW.out.obj
      have hml := fun ty => mlen_run hme Try.underlying66 ty
      obtain ⟨m, hm⟩ : ∃ m, o.lk.length = m := ⟨_, rfl⟩
      rw [hle.2, hm] at hml
      have hce := cnt_erase ho
      rw [hm] at hce
      have hsm := HS.out
      have hb1 : n + m ≤ 1000000 := by omega
      have HG2 := hid (show RngOf w2 mb it (M.map (oent A)) ((R.eraseIdx i).map (oent A)) from by
        have e : (R.eraseIdx i).map (oent A) = RV.eraseIdx i := by rw [← HRV.out]; exact map_eraseIdx_of _ _ _
        rw [e]; exact hrg2)
      have HSN := hid (show n + m + cnt (R.eraseIdx i) = cnt L by omega)
      have HSB := hid (fun o' (h' : o' ∈ R.eraseIdx i) => HSU.out o' (List.mem_of_mem_eraseIdx h'))
      clear hmz hrg2 hk2 hz2 hi ho hom hme hle hm hce hsm
      go_wp2
      go_roundw
      case rel => exact ⟨_, n + m, by go_num, HG2.out, HSN.out, HSB.out, K2.out⟩
      case measure => exact HMZ.out
end
end Go.Proofs.Ytpjhdpfaogdboaa
