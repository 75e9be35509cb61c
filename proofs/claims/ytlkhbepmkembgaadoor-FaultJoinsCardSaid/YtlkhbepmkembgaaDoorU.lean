/- Faults: awake; how the arguments read. -/
import Derived.Test.YtlkhbepmkembgaaDoorT
import Derived.Test.YtlkhbepmkembgaaDoorArg
import Derived.Test.YtlkhbepmkembgaaDoorLaw
import Derived.LaidSub
import Derived.MakeChecks
namespace Go.Proofs.YtlkhbepmkembgaaDoor
open Go.RowKit
structure Env (w : World) : Prop where
  et : ErrT w
  tab : Tab w
theorem Env.kept {w w' : World} (h : Env w) (k : Kept (fun _ => False) w w') : Env w' := ⟨h.et.kept k, h.tab.kept k⟩
theorem text_awake : text [(0, 9), (2, 7)] 6 = ⟨#[111, 112, 32, 48, 32, 118, 101, 114, 116, 101, 120, 32, 57, 58, 32, 111, 112, 32, 50, 32, 118, 101, 114, 116, 101, 120, 32, 55, 58, 32, 101, 114, 114, 111, 114, 32, 54]⟩ := by
  have d : ∀ n : Nat, n < 10 → itoaB (n : Int) = ⟨#[UInt8.ofNat (48 + n)]⟩ := fun n hn => by
    unfold itoaB
    rw [Lib.itoa_nonneg, Lib.decDigits_one hn]
  have d0 : itoaB 0 = ⟨#[48]⟩ := d 0 (by decide)
  have d2 : itoaB 2 = ⟨#[50]⟩ := d 2 (by decide)
  have d6 : itoaB 6 = ⟨#[54]⟩ := d 6 (by decide)
  have d7 : itoaB 7 = ⟨#[55]⟩ := d 7 (by decide)
  have d9 : itoaB 9 = ⟨#[57]⟩ := d 9 (by decide)
  simp only [text, txt, List.foldl, fr, errB, d0, d2, d6, d7, d9]
  rfl
set_option maxHeartbeats 1000000 in
set_option maxRecDepth 100000 in
theorem awake_any (W : World) (hE : Env W) : Calls Tryd.prog 7 #[] W fun e w' => e = .returned (.bool true) ∧ Kept (fun _ => False) W w' := by
  have HE := hid hE
  have HN := hid (new_any 6 ((2, 7) : FL) W)
  simp only at HN
  clear hE
  go_enter Tryd.func7, Tryd.ntmps7
  go_wp2_with fail
  refine HN.out.mono ?_; rintro e w1 ⟨v1, rfl, he1, hk1⟩
  have HW := hid (wrap_any he1 ((0, 9) : FL))
  simp only at HW
  have K1 := hid hk1
  clear he1 hk1
  go_wp2_with fail
  refine HW.out.mono ?_; rintro e w2 ⟨v2, rfl, he2, hk2⟩
  have K2 := hid (K1.out.trans hk2)
  have hER := he2.err (by decide)
  have hT := text_any hER (HE.out.kept K2.out).et (HE.out.kept K2.out).tab (by decide) (by intro l hl; simp at hl; rcases hl with rfl | rfl <;> exact ⟨by decide, by decide⟩) (by decide) (by decide)
  rw [text_awake] at hT
  have HT := hid hT
  have HER := hid hER
  clear he2 hk2 hER hT
  go_wp2_with fail
  refine HT.out.mono ?_; rintro e w3 ⟨rfl, hk3⟩
  have K3 := hid (K2.out.trans hk3)
  have h3 := HER.out.kept hk3 (fun _ _ => id)
  have H6 := hid (fis_any h3 6)
  have H10 := hid (fis_any h3 10)
  clear hk3 h3
  go_wp2_with fail
  refine H6.out.mono ?_; rintro e w' ⟨rfl, rfl⟩
  go_wp2_with fail
  refine H10.out.mono ?_; rintro e w' ⟨rfl, rfl⟩
  go_wp2_with fail
  go_ret
  exact ⟨rfl, K3.out⟩
/-! ### arguments -/
theorem bytesL : Tryd.prog.bytesOf 42 = 16 := by kernel_rfl
theorem cellsL : Tryd.prog.cellsOf 42 = 2 := by kernel_rfl
theorem cellsSL : Tryd.prog.cellsOf 22 = 1 := by kernel_rfl
theorem cellsI : Tryd.prog.cellsOf 3 = 1 := by kernel_rfl
theorem cellsU : Tryd.prog.cellsOf 40 = 1 := by kernel_rfl
theorem cellsC : Tryd.prog.cellsOf 24 = 2 := by kernel_rfl
theorem wf64 {n : Int} (h : (Lit.int .i64 n).wf = true) : -9223372036854775808 ≤ n ∧ n ≤ 9223372036854775807 := by
  simp [Lit.wf, IntKind.min, IntKind.max, IntKind.signed, IntKind.bits] at h; omega
theorem wfu32 {n : Int} (h : (Lit.int .u32 n).wf = true) : 0 ≤ n ∧ n ≤ 4294967295 := by
  simp [Lit.wf, IntKind.min, IntKind.max, IntKind.signed, IntKind.bits] at h; omega
theorem wfu8 {n : Int} (h : (Lit.int .u8 n).wf = true) : 0 ≤ n ∧ n ≤ 255 := by
  simp [Lit.wf, IntKind.min, IntKind.max, IntKind.signed, IntKind.bits] at h; omega
theorem link_read {w : World} {es : List Value} (hl : es.length = 2) (h : Rd Tryd.prog w 42 es) : ∃ l : FL, es = lcell l ∧ Wl l := by
  match es, hl with
  | [x0, x1], _ =>
    have h0 : Rd Tryd.prog w 3 [x0] := h.field Tryd.underlying42 0 3 0 1 rfl cellsI
    have h1 : Rd Tryd.prog w 40 [x1] := h.field Tryd.underlying42 1 40 1 1 rfl cellsU
    obtain ⟨e, e0, f0⟩ := h0.int Tryd.underlying3
    obtain ⟨p, e1, f1⟩ := h1.int Tryd.underlying40
    simp only [List.cons.injEq, and_true] at e0 e1
    subst e0 e1
    exact ⟨(e, p), rfl, wf64 f0, wfu32 f1⟩
theorem links_read {w : World} {a : Option Addr} {len cap : Nat} (h : Rd Tryd.prog w 22 [.slice a len cap]) : ∃ L : List FL, LL w (.slice a len cap) L ∧ ∀ l ∈ L, Wl l := by
  obtain ⟨L, e, hv, _, hq⟩ := lies_of lcell 2 (fun _ => rfl) (by decide) (fun x u hu => by simp [lcell] at hu; rcases hu with rfl | rfl <;> rfl) ((0, 0) : FL) Tryd.underlying22 cellsL Wl (fun es => link_read) h
  subst e
  exact ⟨L, hv.mono (fun _ _ h => h.elim), hq⟩
theorem chain_read {w : World} {es : List Value} (hl : es.length = 2) (h : Rd Tryd.prog w 24 es) : ∃ (v : Value) (r : Int) (L : List FL), es = [v, .int .i64 r] ∧ LL w v L ∧ (∀ l ∈ L, Wl l) ∧ -9223372036854775808 ≤ r ∧ r ≤ 9223372036854775807 := by
  match es, hl with
  | [x0, x1], _ =>
    have h0 : Rd Tryd.prog w 22 [x0] := h.field Tryd.underlying24 0 22 0 1 rfl cellsSL
    have h1 : Rd Tryd.prog w 3 [x1] := h.field Tryd.underlying24 1 3 1 1 rfl cellsI
    obtain ⟨a, n, c, e0⟩ := h0.isSlice Tryd.underlying22
    obtain ⟨p, e1, f1⟩ := h1.int Tryd.underlying3
    simp only [List.cons.injEq, and_true] at e0 e1
    subst e0 e1
    obtain ⟨L, hL, hq⟩ := links_read h0
    exact ⟨_, p, L, rfl, hL, hq, wf64 f1⟩
theorem chain_arg {w : World} {v : Value} (h : RdV Tryd.prog w 24 v) : ∃ (u : Value) (r : Int) (L : List FL), v = .agg #[u, .int .i64 r] ∧ LL w u L ∧ (∀ l ∈ L, Wl l) ∧ -9223372036854775808 ≤ r ∧ r ≤ 9223372036854775807 := by
  obtain ⟨cs, rfl, h1⟩ := h.struct Tryd.underlying24
  obtain ⟨u, r, L, ex, hx⟩ := chain_read (by rw [(h1.struct Tryd.underlying24).1]; exact cellsC) h1
  exact ⟨u, r, L, by cases cs; simp only at ex; subst ex; rfl, hx⟩
theorem link_arg {w : World} {v : Value} (h : RdV Tryd.prog w 42 v) : ∃ l : FL, v = .agg #[.int .i64 l.1, .int .u32 l.2] ∧ Wl l := by
  obtain ⟨cs, rfl, h1⟩ := h.struct Tryd.underlying42
  obtain ⟨l, ex, hx⟩ := link_read (by rw [(h1.struct Tryd.underlying42).1]; exact cellsL) h1
  exact ⟨l, by cases cs; simp only at ex; subst ex; rfl, hx⟩
theorem tab_global : Tryd.prog.globalNamed "internal/strconv.uint64pow10" = some 1 := by kernel_rfl
theorem tab_of {laid : List (String × DataW Unit)} {W : World} (h : laidMetH Tryd.prog laid W) (e : (laid.filter fun x => x.1 == "internal/strconv.uint64pow10") = [("internal/strconv.uint64pow10", Lib.tabData .u64 Lib.pow10Tab)]) : Tab W := by
  have h1 := laidMetH.filter (fun x => x.1 == "internal/strconv.uint64pow10") h
  rw [e, MakeChecks.laidMetH_plain _ _ _ (by kernel_rfl)] at h1
  exact Lib.tabIs_of_head tab_global (by kernel_rfl) Tryd.underlying111 Tryd.underlying81 (by kernel_rfl) (by kernel_rfl) h1
theorem et_global : Tryd.prog.globalNamed "errors.errorType" = some 0 := by kernel_rfl
theorem et_rt : (Tryd.prog.cutTypes.find? (·.1 == "internal/reflectlite.rtype")).map (·.2) = some 87 := by kernel_rfl
theorem et_row : ((List.range Tryd.prog.types.size).filter fun t => Tryd.prog.rowNamed t [101, 114, 114, 111, 114]) = [27] := by kernel_rfl
theorem et_of {laid : List (String × DataW Unit)} {W : World} (h : laidMetH Tryd.prog laid W) (e : (laid.filter fun x => x.1 == "errors.errorType") = [("errors.errorType", .iface "internal/reflectlite.rtype" (.agg [.ptr (.lit (.string [101, 114, 114, 111, 114]))]))]) : ErrT W := by
  have h1 := laidMetH.filter (fun x => x.1 == "errors.errorType") h
  rw [e] at h1
  have h' : laidMet Tryd.prog [] W ∧ handlesMet Tryd.prog [("errors.errorType", .iface "internal/reflectlite.rtype" (.agg [.ptr (.lit (.string [101, 114, 114, 111, 114]))]))] W := h1
  obtain ⟨name, u, ty, e1, e2, e3, e4, e5⟩ := h'.2 _ (List.mem_singleton.2 rfl)
  have en : name = [101, 114, 114, 111, 114] := (Option.some.inj e1).symm
  subst en
  obtain rfl := Option.some.inj (et_rt.symm.trans e2)
  have hm : ty ∈ (List.range Tryd.prog.types.size).filter fun t => Tryd.prog.rowNamed t [101, 114, 114, 111, 114] := List.mem_filter.2 ⟨List.mem_range.2 e3, e4⟩
  rw [et_row] at hm
  obtain rfl := List.mem_singleton.1 hm
  have hh : typeHandle Tryd.prog 27 = .pointer (some ⟨4, 27, none⟩) := by kernel_rfl
  rw [hh] at e5
  have h9 := World.var?_cell et_global e5 0
  simp at h9
  exact h9
theorem env_of {laid : List (String × DataW Unit)} {W : World} (h : laidMetH Tryd.prog laid W) (h1 : (laid.filter fun x => x.1 == "internal/strconv.uint64pow10") = [("internal/strconv.uint64pow10", Lib.tabData .u64 Lib.pow10Tab)])
    (h2 : (laid.filter fun x => x.1 == "errors.errorType") = [("errors.errorType", .iface "internal/reflectlite.rtype" (.agg [.ptr (.lit (.string [101, 114, 114, 111, 114]))]))]) : Env W := ⟨et_of h h2, tab_of h h1⟩
end Go.Proofs.YtlkhbepmkembgaaDoor
