/- Faults: FaultChains' walk. -/
import Derived.Test.YtlkhbepmkembgaaDoorU
import Derived.Deep.QuietTactic
namespace Go.Proofs.YtlkhbepmkembgaaDoor
open Go.RowKit
theorem cut_wl {A : List FL} (h : ∀ l ∈ A, Wl l) : ∀ l ∈ cut A, Wl l := by
  intro l hl
  unfold cut at hl
  split at hl
  · simp at hl; subst hl; exact ⟨by decide, by decide⟩
  · exact h l (List.mem_of_mem_take hl)
set_option maxHeartbeats 2000000 in
set_option maxRecDepth 100000 in
theorem chains_walk {laid : List (String × DataW Unit)} (h1 : (laid.filter fun x => x.1 == "internal/strconv.uint64pow10") = [("internal/strconv.uint64pow10", Lib.tabData .u64 Lib.pow10Tab)])
    (h2 : (laid.filter fun x => x.1 == "errors.errorType") = [("errors.errorType", .iface "internal/reflectlite.rtype" (.agg [.ptr (.lit (.string [101, 114, 114, 111, 114]))]))]) (W : World) (args : Array Value) (hL : laidMetH Tryd.prog laid W) (h : RdAll Tryd.prog W Tryd.f3.params.toList args.toList) :
    Calls Tryd.prog 3 args W fun e W' => e = .returned (.bool true) ∧ Below W.heap.size W W' := by
  have HEnv := hid (env_of hL h1 h2)
  clear hL h1 h2
  rw [Tryd.params3] at h
  obtain ⟨v0, v1, rfl⟩ : ∃ v0 v1, args = #[v0, v1] := by
    rcases args with ⟨_ | ⟨v0, _ | ⟨v1, _ | ⟨v2, l⟩⟩⟩⟩ <;> simp [RdAll] at h
    exact ⟨v0, v1, rfl⟩
  obtain ⟨r0, r1, _⟩ := h
  obtain ⟨u, r, A, rfl, hA, hwl, hr0, hr1⟩ := chain_arg r0
  obtain ⟨code, rfl, hcw⟩ := r1.int Tryd.underlying3
  have hcode := wf64 hcw
  clear r0 r1 hcw
  -- the parameter's block
  obtain ⟨w1, hw1⟩ : ∃ w1, W.alloc (.cells #[u, .int .i64 r] 24) = w1 := ⟨_, rfl⟩
  have hk1 : Kept (fun _ => False) W w1 := hw1 ▸ (Kept.refl _ _).alloc _
  have hrow1 : w1.heap[W.heap.size]? = some (.cells #[u, .int .i64 r] 24 (0, 0)) := by rw [← hw1]; exact row_new _ _
  obtain ⟨cb, hcb⟩ : ∃ cb, W.heap.size = cb := ⟨_, rfl⟩
  rw [hcb] at hrow1
  have K1 := hid hk1; have R1 := hid hrow1
  have HAW := hid (awake_any w1 (HEnv.out.kept hk1))
  have HA := hid hA; have HWL := hid (cut_wl hwl); have HR := hid (And.intro hr0 hr1)
  have HLC := hid (cut_len A)
  obtain ⟨uo, uc, rfl⟩ := hA.isSlice
  clear hA hwl hr0 hr1 hk1 hrow1
  go_enter Tryd.func3, Tryd.ntmps3
  go_wp2_with fail
  refine HAW.out.mono ?_; rintro e w2 ⟨rfl, hk2⟩
  have K2 := hid (K1.out.trans hk2)
  have hrow2 := (hk2.block cb (row_lt R1.out) id).trans R1.out
  have R2 := hid hrow2
  have c0 := row_cell hrow2 0
  have c1 := row_cell hrow2 1
  simp at c0 c1
  have HB := hid (build_any r (HA.out.same K2.out))
  clear hk2 hrow2 hw1 hcb HAW R1
  go_wp2_with fail
  refine HB.out.mono ?_; rintro e w3 ⟨x, d, rfl, hE, hd, hk3⟩
  -- d's block
  obtain ⟨w4, hw4⟩ : ∃ w4, w3.alloc (.cells #[d, .int .i64 r] 24) = w4 := ⟨_, rfl⟩
  have hk4 : Kept (fun _ => False) w3 w4 := hw4 ▸ (Kept.refl _ _).alloc _
  have hrow4 : w4.heap[w3.heap.size]? = some (.cells #[d, .int .i64 r] 24 (0, 0)) := by rw [← hw4]; exact row_new _ _
  obtain ⟨db, hdb⟩ : ∃ db, w3.heap.size = db := ⟨_, rfl⟩
  rw [hdb] at hrow4
  have K4 := hid (K2.out.trans (hk3.trans hk4))
  have R4 := hid hrow4
  have hrc4 := ((hk3.trans hk4).block cb (row_lt R2.out) id).trans R2.out
  have RC4 := hid hrc4
  have HE4 := hid (hE.kept hk4)
  have HD4 := hid (hd.same hk4)
  obtain ⟨dO, dC, rfl⟩ := hd.isSlice
  have c1 := row_cell hrc4 1
  simp at c1
  clear c0 hE hd hk3 hk4 hrow4 HB HA R2 K1 hrc4
  by_cases hr : r = 0
  · have hx : x = .nilIface := by have h := HE4.out; rw [hr] at h; exact h.nil
    subst hx
    have hrb : (r == 0) = true := by simpa using hr
    clear hr
    go_wp2_with fail
    refine (code_nil _).mono ?_; rintro e w' ⟨rfl, rfl⟩
    go_wp2_with fail
    refine (fis_nil 0 _).mono ?_; rintro e w' ⟨rfl, rfl⟩
    go_wp2_with fail
    refine (links_nil _).mono ?_; rintro e w' ⟨rfl, rfl⟩
    go_wp2_with fail
    refine (text_nil _).mono ?_; rintro e w' ⟨rfl, rfl⟩
    by_cases hc : code = 0
    · have hcb : (code == 0) = true := by simpa using hc
      clear hc
      go_wp2_with fail
      go_ret
      exact ⟨rfl, K4.out.below (Nat.le_refl _) (fun _ h => h.elim)⟩
    · have hcb : (code == 0) = false := by simpa using hc
      have HN := hid (fis_nil code w4)
      rw [hcb] at HN
      clear hc
      go_wp2_with fail
      refine HN.out.mono ?_; rintro e w' ⟨rfl, rfl⟩
      go_wp2_with fail
      go_ret
      exact ⟨rfl, K4.out.below (Nat.le_refl _) (fun _ h => h.elim)⟩
  · have hrb : (r == 0) = false := by simpa using hr
    have HER := hid (HE4.out.err hr)
    obtain ⟨te, pe, rfl⟩ := HER.out.iface
    have HZ := hid hr
    clear hr hcode
    go_wp2_with fail
    clear hw4 hdb c1
    -- what holds as long as nothing older is written
    have hS : ∀ w', Kept (fun _ => False) w4 w' → w'.cell? ⟨cb, 1, none⟩ = some (.int .i64 r) ∧ w'.cell? ⟨db, 0, none⟩ = some (.slice dO (cut A).length dC) ∧ w'.cell? ⟨db, 1, none⟩ = some (.int .i64 r) := fun w' k =>
      ⟨k.cell (row_cell RC4.out 1) id, k.cell (row_cell R4.out 0) id, k.cell (row_cell R4.out 1) id⟩
    have HS := hid hS
    have k0 : Kept (fun _ => False) w4 w4.drew := (Kept.refl _ _).drew
    have s0 := hS w4.drew k0
    have HEV := hid (HEnv.out.kept K4.out)
    have H30 := hid (Nat.le_trans HLC.out.2 (by decide : 30 ≤ 1000))
    have HCODE := hid (fun w k => code_any (HER.out.kept (w' := w) k (fun _ _ => id)) (HEV.out.kept k).et)
    have HLINKS := hid (fun w k => flinks_any (HER.out.kept (w' := w) k (fun _ _ => id)) (HEV.out.kept k).et H30.out)
    have HTEXT := hid (fun w k => text_any (HER.out.kept (w' := w) k (fun _ _ => id)) (HEV.out.kept k).et (HEV.out.kept k).tab H30.out HWL.out HR.out.1 HR.out.2)
    have HDTEXT := hid (fun w k => doctext_any (HD4.out.same (w' := w) k) H30.out HWL.out HR.out.1 HR.out.2)
    have HIS := hid (fun w k => fis_any (HER.out.kept (w' := w) k (fun _ _ => id)) code)
    have HIS0 := hid (fun w k => fis_any (HER.out.kept (w' := w) k (fun _ _ => id)) 0)
    have HCC := hid (show (if code = 0 then false else (r == code)) = (code == r) by
      by_cases h0 : code = 0
      · subst h0
        rw [if_pos rfl]
        symm
        rw [beq_eq_false_iff_ne]
        exact fun e => HZ.out e.symm
      · rw [if_neg h0, Bool.eq_iff_iff]; simp; exact eq_comm)
    obtain ⟨b, hb⟩ : ∃ b, (code == r) = b := ⟨_, rfl⟩
    rw [hb] at HCC
    clear hS
    go_region_held3 (fun w' => w'.cell? ⟨cb, 1, none⟩ = some (.int .i64 r) ∧ w'.cell? ⟨db, 0, none⟩ = some (.slice dO (cut A).length dC) ∧ w'.cell? ⟨db, 1, none⟩ = some (.int .i64 r)) (first | exact s0 | exact s1 | exact s2 | exact s3 | exact s4 | exact s5 | exact s6)
      (first
        | (go_at_call 9; refine (HCODE.out _ k0).mono ?_; rintro e x1 ⟨rfl, hk⟩; have J1 := hid (k0.trans hk); have s1 := HS.out _ J1.out; clear hk s0 k0 HCODE)
        | (go_at_call 11; refine (HLINKS.out _ J1.out).mono ?_; rintro e x2 ⟨l1, rfl, hl, hk⟩; have J2 := hid (J1.out.trans hk); have s2 := HS.out _ J2.out; have HL2 := hid hl; clear hk hl s1 HLINKS)
        | (go_at_call 14; refine (lawlinks_any HL2.out H30.out).mono ?_; rintro e x3 ⟨l2, rfl, hl, hk⟩; have J3 := hid (J2.out.trans hk); have s3 := HS.out _ J3.out; have HL3 := hid hl; clear hk hl s2 HL2)
        | (go_at_call 13; refine (samelinks_any HL3.out (HD4.out.same J3.out)).mono ?_; rintro e x4 ⟨he, hk⟩; rw [decide_eq_true rfl] at he; subst he; have J4 := hid (J3.out.trans hk); have s4 := HS.out _ J4.out; clear hk s3 HL3)
        | (go_at_call 12; refine (HTEXT.out _ J4.out).mono ?_; rintro e x5 ⟨rfl, hk⟩; have J5 := hid (J4.out.trans hk); have s5 := HS.out _ J5.out; clear hk s4 HTEXT)
        | (go_at_call 15; refine (HDTEXT.out _ J5.out).mono ?_; rintro e x6 ⟨rfl, hk⟩; have J6 := hid (J5.out.trans hk); have s6 := HS.out _ J6.out; clear hk s5 HDTEXT)
        | (go_at_call 10; refine (HIS.out _ J6.out).mono ?_; rintro e x7 ⟨he, rfl⟩; rw [HCC.out] at he; subst he; clear HIS)
        | (go_at_call 10; refine (HIS0.out _ J6.out).mono ?_; rintro e x7 ⟨rfl, rfl⟩; clear HIS0))
    clear s6
    go_wp2_with fail
    go_ret
    exact ⟨rfl, (K4.out.trans J6.out).below (Nat.le_refl _) (fun _ h => h.elim)⟩
end Go.Proofs.YtlkhbepmkembgaaDoor
