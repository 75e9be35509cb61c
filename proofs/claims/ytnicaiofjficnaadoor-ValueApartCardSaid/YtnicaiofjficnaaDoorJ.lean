/- awake; the arguments; the laid tables. -/
import Derived.Test.YtnicaiofjficnaaDoorI
import Derived.LaidSub
import Derived.MakeChecks
namespace Go.Proofs.YtnicaiofjficnaaDoor
open Go.RowKit
set_option maxHeartbeats 2000000 in
set_option maxRecDepth 100000 in
theorem awake_any (w : World) (ht : Tab w) : Calls Tryd.prog 11 #[] w fun e w' => e = .returned (.bool true) ∧ Kept (fun _ => False) w w' := by
  go_enter Tryd.func11, Tryd.ntmps11
  go_wp2_with fail
  refine (write_any (1, -5, ByteArray.empty) (by decide) (by decide) (by decide) _ ht).mono ?_; rintro e w1 ⟨rfl, hk⟩
  have e1 : wrS (1, -5, ByteArray.empty) = ⟨#[45, 53]⟩ := by decide +kernel
  have f1 : chk (formB (1, -5, ByteArray.empty)) = 0 := by decide +kernel
  rw [e1, f1]
  have K1 := hid hk
  clear hk e1 f1
  go_wp2_with fail
  refine (write_any (2, 0, ⟨#[97, 46, 98]⟩) (by decide) (by decide) (by decide) _ (ht.kept K1.out)).mono ?_; rintro e w2 ⟨rfl, hk⟩
  have e1 : wrS (2, 0, ⟨#[97, 46, 98]⟩) = ⟨#[39, 97, 46, 98, 39]⟩ := by decide +kernel
  have f1 : chk (formB (2, 0, ⟨#[97, 46, 98]⟩)) = 0 := by decide +kernel
  rw [e1, f1]
  have K2 := hid (K1.out.trans hk)
  clear hk e1 f1
  go_wp2_with fail
  refine (cmp_any (1, 3, ByteArray.empty) (2, 0, ByteArray.empty) (by decide) (by decide) _).mono ?_; rintro e w3 ⟨rfl, hk⟩
  have e1 : ans (1, 3, ByteArray.empty) (2, 0, ByteArray.empty) = (-1, 0) := by decide +kernel
  rw [e1]
  have K3 := hid (K2.out.trans hk)
  clear hk e1
  go_wp2_with fail
  go_ret
  exact ⟨rfl, K3.out⟩
theorem bytesVv : Tryd.prog.cellsOf 23 = 3 := by kernel_rfl
def okV (v : Vv) : Prop := v.2.2.size ≤ 4611686018427387904 ∧ -9223372036854775808 ≤ v.2.1 ∧ v.2.1 ≤ 9223372036854775807
theorem val_read {w : World} {es : List Value} (hl : es.length = 3) (h : Rd Tryd.prog w 23 es) : ∃ v : Vv, es = encV v ∧ okV v := by
  have c1 : Tryd.prog.cellsOf 5 = 1 := by kernel_rfl
  have c2 : Tryd.prog.cellsOf 2 = 1 := by kernel_rfl
  have c3 : Tryd.prog.cellsOf 9 = 1 := by kernel_rfl
  match es, hl with
  | [x0, x1, x2], _ =>
    have h0 : Rd Tryd.prog w 5 [x0] := h.field Tryd.underlying23 0 5 0 1 rfl c1
    have h1 : Rd Tryd.prog w 2 [x1] := h.field Tryd.underlying23 1 2 1 1 rfl c2
    have h2 : Rd Tryd.prog w 9 [x2] := h.field Tryd.underlying23 2 9 2 1 rfl c3
    obtain ⟨a0, e0, _⟩ := h0.int Tryd.underlying5
    obtain ⟨a1, e1, hw⟩ := h1.int Tryd.underlying2
    obtain ⟨a2, e2, hsz⟩ := h2.string Tryd.underlying9
    simp only [List.cons.injEq, and_true] at e0 e1 e2
    subst e0 e1 e2
    have hw' : -9223372036854775808 ≤ a1 ∧ a1 ≤ 9223372036854775807 := by simpa [Lit.wf, IntKind.min, IntKind.max, IntKind.signed, IntKind.bits] using hw
    refine ⟨(a0, a1, a2), rfl, ?_, hw'.1, hw'.2⟩
    unfold reachBytes at hsz
    simp only
    omega
theorem val_arg {w : World} {v : Value} (h : RdV Tryd.prog w 23 v) : ∃ x : Vv, v = vv x ∧ okV x := by
  obtain ⟨cs, rfl, h1⟩ := h.struct Tryd.underlying23
  obtain ⟨x, ex, hx⟩ := val_read (by rw [(h1.struct Tryd.underlying23).1]; exact bytesVv) h1
  exact ⟨x, by cases cs; simp only at ex; subst ex; rfl, hx⟩
theorem tab_of {laid : List (String × DataW Unit)} {W : World} (h : laidMetH Tryd.prog laid W) (e : (laid.filter fun x => x.1 == "internal/strconv.uint64pow10") = [("internal/strconv.uint64pow10", Lib.tabData .u64 Lib.pow10Tab)]) : Tab W := by
  have h1 := laidMetH.filter (fun x => x.1 == "internal/strconv.uint64pow10") h
  rw [e, MakeChecks.laidMetH_plain _ _ _ (by kernel_rfl)] at h1
  exact Lib.tabIs_of_head tab_global (by kernel_rfl) Tryd.underlying82 Tryd.underlying65 (by kernel_rfl) (by kernel_rfl) h1
end Go.Proofs.YtnicaiofjficnaaDoor
