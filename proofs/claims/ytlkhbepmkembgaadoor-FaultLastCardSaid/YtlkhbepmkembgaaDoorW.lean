/- Faults: FaultLast's walk. -/
import Derived.Test.YtlkhbepmkembgaaDoorU
namespace Go.Proofs.YtlkhbepmkembgaaDoor
open Go.RowKit
def lastM (L : List FL) (k : Nat) : List FL := (L.take k).reverse ++ [(-1, 0)]
theorem lastM_len {L : List FL} {k : Nat} (h : k ≤ L.length) : (lastM L k).length = k + 1 := by simp [lastM, Nat.min_eq_left h]
theorem lastM_succ {L : List FL} {k : Nat} {l : FL} (h : L[k]? = some l) : lastM L (k + 1) = l :: lastM L k := by simp [lastM, List.take_add_one, h]
theorem lastM_end {L : List FL} {k : Nat} (h : k ≤ L.length) : (lastM L k)[k]? = some (-1, 0) := by
  unfold lastM
  rw [List.getElem?_append_right (by simp [Nat.min_eq_left h])]
  simp [Nat.min_eq_left h]
theorem lastM_wl {L : List FL} (h : ∀ l ∈ L, Wl l) (k : Nat) : ∀ l ∈ lastM L k, Wl l := by
  intro l hl
  simp only [lastM, List.mem_append, List.mem_reverse, List.mem_singleton] at hl
  rcases hl with hl | rfl
  · exact h l (List.mem_of_mem_take hl)
  · exact ⟨by decide, by decide⟩
set_option maxHeartbeats 2000000 in
set_option maxRecDepth 100000 in
theorem last_walk {laid : List (String × DataW Unit)} (h1 : (laid.filter fun x => x.1 == "internal/strconv.uint64pow10") = [("internal/strconv.uint64pow10", Lib.tabData .u64 Lib.pow10Tab)])
    (h2 : (laid.filter fun x => x.1 == "errors.errorType") = [("errors.errorType", .iface "internal/reflectlite.rtype" (.agg [.ptr (.lit (.string [101, 114, 114, 111, 114]))]))]) (W : World) (args : Array Value) (hL : laidMetH Tryd.prog laid W) (h : RdAll Tryd.prog W Tryd.f5.params.toList args.toList) :
    Calls Tryd.prog 5 args W fun e W' => e = .returned (.bool true) ∧ Below W.heap.size W W' := by
  have HEnv := hid (env_of hL h1 h2)
  clear hL h1 h2
  rw [Tryd.params5] at h
  obtain ⟨v0, v1, rfl⟩ : ∃ v0 v1, args = #[v0, v1] := by
    rcases args with ⟨_ | ⟨v0, _ | ⟨v1, _ | ⟨v2, l⟩⟩⟩⟩ <;> simp [RdAll] at h
    exact ⟨v0, v1, rfl⟩
  obtain ⟨r0, r1, hrest⟩ := h
  clear hrest
  obtain ⟨ao, an, ac, rfl, hrd⟩ := r0.slice Tryd.underlying22
  obtain ⟨L, hA, hwl⟩ := links_read hrd
  obtain ⟨code, rfl, hcw⟩ := r1.int Tryd.underlying5
  have hcode := wfu8 hcw
  obtain ⟨c, rfl⟩ : ∃ c : Nat, code = c := ⟨code.toNat, by omega⟩
  obtain ⟨d, hd⟩ : ∃ d, c % 15 = d := ⟨_, rfl⟩
  have hd15 : d < 15 := by omega
  have hdI : ((c : Int) % 15) = (d : Int) := by omega
  have hdw : IntKind.i64.wrap (d : Int) = (d : Int) := by simp [IntKind.wrap, IntKind.bits, IntKind.signed]; omega
  obtain ⟨r, hr⟩ : ∃ r : Int, 1 + (d : Int) = r := ⟨_, rfl⟩
  have hrw : IntKind.i64.wrap (1 + (d : Int)) = r := by rw [hr]; simp [IntKind.wrap, IntKind.bits, IntKind.signed]; omega
  have hr1w : IntKind.i64.wrap (r + 1) = r + 1 := by simp [IntKind.wrap, IntKind.bits, IntKind.signed]; omega
  have HR := hid (show 1 ≤ r ∧ r ≤ 15 by omega)
  have hrz : (r == 0) = false := by simp; omega
  have hle : an = L.length := by obtain ⟨_, _, e, _⟩ := hA; simp only [Value.slice.injEq] at e; exact e.2.1
  subst hle
  have hmx : L.length ≤ 9223372036854775807 := by obtain ⟨_, _, _, h1, h2, _⟩ := hA; unfold maxLen at h2; omega
  have HA := hid hA; have HWL := hid hwl
  have HAW := hid (awake_any W HEnv.out)
  have HNEW := hid (fun w => new_any r ((-1, 0) : FL) w)
  simp only at HNEW
  clear r0 r1 hcw hrd hA hwl hd hr hd15 hcode
  go_enter Tryd.func5, Tryd.ntmps5
  go_wp2_with fail
  refine HAW.out.mono ?_; rintro e w1 ⟨rfl, hk1⟩
  have K1 := hid hk1
  clear hk1 HAW
  go_wp2_with fail
  refine (HNEW.out _).mono ?_; rintro e w2 ⟨x, rfl, he, hk2⟩
  have K2 := hid (K1.out.trans hk2)
  have hl0 := he.links (by have := HR.out; omega)
  obtain ⟨te, pe, rfl⟩ := hl0.iface rfl
  have HL0 := hid hl0
  clear he hl0 hk2 HNEW
  go_wp2_with fail
  go_loopw [6, 20] (fun x i wr => ∃ (k : Nat) (te : TypeId) (pe : Value), k ≤ L.length ∧ k ≤ 200 ∧ i = .int .i64 k ∧ x = .iface te pe ∧ LinksAt wr (rootV r) (lastM L k) (.iface te pe) ∧ Kept (fun _ => False) w2 wr) (fun _ i _ => L.length - (RowKit.intOf i).toNat)
  case atStart => exact ⟨0, te, pe, Nat.zero_le _, by decide, rfl, rfl, HL0.out, Kept.refl _ _⟩
  case round =>
    rename World => wr
    obtain ⟨k, te2, pe2, hk, hk200, rfl, rfl, hl, hkp⟩ := hrel
    have HLK := hid hl; have HKP := hid hkp
    have KW := hid (K2.out.trans hkp)
    clear hl hkp
    -- the end: the root and no other
    have HI1 := hid (fis_any (errAt_links HLK.out) r)
    have HI2 := hid (fun w' k => fis_any (errAt_links (HLK.out.kept (w' := w') (F := fun _ => False) k (fun _ _ => id))) (r + 1))
    have hz : ¬ r = 0 := by have := HR.out; omega
    have hz1 : ¬ r + 1 = 0 := by have := HR.out; omega
    have hz2 : (r == r + 1) = false := by rw [beq_eq_false_iff_ne]; omega
    rw [if_neg hz, beq_self_eq_true] at HI1
    rw [if_neg hz1, hz2] at HI2
    clear hz hz1 hz2
    by_cases hlt : k < L.length
    · obtain ⟨l, hl⟩ : ∃ l, L[k]? = some l := ⟨_, List.getElem?_eq_getElem hlt⟩
      obtain ⟨g, off, cc, hv, d0, d1⟩ := ll_at (HA.out.same KW.out) hl
      simp only [Value.slice.injEq] at hv
      obtain ⟨rfl, _, rfl⟩ := hv
      have hkI : (k : Int) < (L.length : Int) := by omega
      obtain ⟨o, q⟩ := l
      simp only at d0 d1
      obtain ⟨wx, hwx⟩ : ∃ wx, wr.alloc (.cells #[.int .i64 o, .int .u32 q] 42) = wx := ⟨_, rfl⟩
      have hkx : Kept (fun _ => False) wr wx := hwx ▸ (Kept.refl _ _).alloc _
      have hrx : wx.heap[wr.heap.size]? = some (.cells #[.int .i64 o, .int .u32 q] 42 (0, 0)) := by rw [← hwx]; exact row_new _ _
      obtain ⟨xb, hxb⟩ : ∃ xb, wr.heap.size = xb := ⟨_, rfl⟩
      rw [hxb] at hrx
      have e0 := row_cell hrx 0
      have e1 := row_cell hrx 1
      simp at e0 e1
      have HKX := hid (HKP.out.trans hkx)
      have RX := hid hrx
      by_cases hk2 : k < 200
      · have hkI2 : (k : Int) < 200 := by omega
        have HW := hid (wrap_links (HLK.out.kept hkx (fun _ _ => id)) ((o, q) : FL))
        rw [← lastM_succ hl] at HW
        simp only at HW
        have HLT := hid hlt; have HK2 := hid hk2
        have HLAST := hid (lastM_succ hl)
        obtain ⟨j, hj⟩ : ∃ j, k + 1 = j := ⟨_, rfl⟩
        rw [hj] at HW HLAST
        have hjw : IntKind.i64.wrap ((k : Int) + 1) = (j : Int) := by simp [IntKind.wrap, IntKind.bits, IntKind.signed]; omega
        have hjL : j ≤ L.length := by omega
        obtain ⟨n, hn⟩ : ∃ n, j + 1 = n := ⟨_, rfl⟩
        have hnw : IntKind.i64.wrap ((k : Int) + 2) = (n : Int) := by simp [IntKind.wrap, IntKind.bits, IntKind.signed]; omega
        have hjn : (j : Int) < (n : Int) := by omega
        have hn0 : (0 : Int) < (n : Int) := by omega
        have hn0' : 0 < n := by omega
        have hj0 : (0 : Int) ≤ (j : Int) := by omega
        have HJ := hid hj; have HN := hid hn; have HJL := hid hjL
        clear hj hn hjL
        clear hrx hkx hl
        go_wp2_with fail
        clear hwx hxb d0 d1
        refine HW.out.mono ?_; rintro e w3 ⟨y, rfl, hl3, hk3⟩
        obtain ⟨te3, pe3, rfl⟩ := hl3.iface rfl
        have HL3 := hid hl3
        have K3 := hid (HKX.out.trans hk3)
        have hrx3 := (hk3.block xb (row_lt RX.out) id).trans RX.out
        have RX3 := hid hrx3
        have HE3 := hid (errAt_links hl3)
        have HENV3 := hid (HEnv.out.kept (K2.out.trans K3.out))
        have hlen3 := (lastM_len (L := L) (k := j) HJL.out).trans HN.out
        have HLEN3 := hid hlen3
        have HFL := hid (flinks_any HE3.out HENV3.out.et (by rw [hlen3]; have h1 := HJ.out; have h2 := HN.out; have h3 := HK2.out; omega))
        clear hl3 hk3 hrx3 hlen3 e0 e1
        go_wp2_with fail
        refine HFL.out.mono ?_; rintro e w4 ⟨u4, rfl, hu4, hk4⟩
        have K4 := hid hk4
        have HLL := hid (lawlinks_any hu4 (by rw [HLEN3.out]; have h1 := HJ.out; have h2 := HN.out; have h3 := HK2.out; omega))
        clear hu4 hk4
        go_wp2_with fail
        refine HLL.out.mono ?_; rintro e w5 ⟨u5, rfl, hu5, hk5⟩
        have K5 := hid (K4.out.trans hk5)
        obtain ⟨g5, off5, c5, hv5, y0, y1⟩ := ll_at hu5 (k := 0) (by rw [HLAST.out]; rfl)
        obtain ⟨g6, off6, c6, hv6, z0, z1⟩ := ll_at hu5 (lastM_end (L := L) (k := j) HJL.out)
        rw [hv5] at hv6
        simp only [Value.slice.injEq, Option.some.injEq, Addr.mk.injEq] at hv6
        obtain ⟨⟨rfl, rfl, _⟩, _, rfl⟩ := hv6
        rw [HLEN3.out] at hv5
        subst hv5
        simp only [Nat.zero_mul, Nat.add_zero] at y0 y1
        have hxr := (K5.out.block xb (row_lt RX3.out) id).trans RX3.out
        have HS := hid (show ∀ w', Kept (fun _ => False) w5 w' → w'.cell? ⟨g5, off5, none⟩ = some (.int .i64 o) ∧ w'.cell? ⟨g5, off5 + 1, none⟩ = some (.int .u32 q) ∧ w'.cell? ⟨g5, off5 + j * 2, none⟩ = some (.int .i64 (-1)) ∧ w'.cell? ⟨g5, off5 + j * 2 + 1, none⟩ = some (.int .u32 0) ∧ w'.cell? ⟨xb, 0, none⟩ = some (.int .i64 o) ∧ w'.cell? ⟨xb, 1, none⟩ = some (.int .u32 q) from fun w' kk =>
          ⟨kk.cell y0 id, kk.cell y1 id, kk.cell z0 id, kk.cell z1 id, kk.cell (row_cell hxr 0) id, kk.cell (row_cell hxr 1) id⟩)
        have k0 : Kept (fun _ => False) w5 w5.drew := (Kept.refl _ _).drew
        have s0 := HS.out _ k0
        have HE5 := hid (fun w' k => fis_any (HE3.out.kept (w' := w') (F := fun _ => False) (K5.out.trans k) (fun _ _ => id)) r)
        have HCO := hid (fun w' k => code_any (HE3.out.kept (w' := w') (F := fun _ => False) (K5.out.trans k) (fun _ _ => id)) (HENV3.out.kept (K5.out.trans k)).et)
        have hz : ¬ r = 0 := by have := HR.out; omega
        rw [if_neg hz, beq_self_eq_true] at HE5
        clear hz hu5 hk5 y0 y1 z0 z1 hxr HI1 HI2
        go_wp2_with fail
        go_region_held3 (fun w' => w'.cell? ⟨g5, off5, none⟩ = some (.int .i64 o) ∧ w'.cell? ⟨g5, off5 + 1, none⟩ = some (.int .u32 q) ∧ w'.cell? ⟨g5, off5 + j * 2, none⟩ = some (.int .i64 (-1)) ∧ w'.cell? ⟨g5, off5 + j * 2 + 1, none⟩ = some (.int .u32 0) ∧ w'.cell? ⟨xb, 0, none⟩ = some (.int .i64 o) ∧ w'.cell? ⟨xb, 1, none⟩ = some (.int .u32 q)) (first | exact s0 | exact s1)
          (first
            | (go_at_call 10; refine (HE5.out _ k0).mono ?_; rintro e x7 ⟨rfl, rfl⟩; clear HE5)
            | (go_at_call 9; refine (HCO.out _ k0).mono ?_; rintro e x8 ⟨rfl, hk⟩; have J1 := hid (k0.trans hk); have s1 := HS.out _ J1.out; clear hk s0 k0 HCO))
        clear s1
        go_wp2_with fail
        go_roundw
        case rel => exact ⟨j, te3, pe3, HJL.out, by have h1 := HJ.out; have h2 := HK2.out; omega, rfl, rfl, HL3.out.kept (F := fun _ => False) (K5.out.trans J1.out) (fun _ _ => id), (K3.out.trans K5.out).trans J1.out⟩
        case measure => (simp only [RowKit.intOf]; have hx3 : k < L.length := HLT.out; have hx4 := HJ.out; omega)
      · obtain rfl : k = 200 := by omega
        have HIX := hid (HI2.out _ hkx)
        have HI3 := hid (fis_any (errAt_links (HLK.out.kept hkx (fun _ _ => id))) r)
        have hz : ¬ r = 0 := by have := HR.out; omega
        rw [if_neg hz, beq_self_eq_true] at HI3
        clear hz hrx hkx hl
        go_wp2_with fail
        clear hwx hxb d0 d1
        refine HI3.out.mono ?_; rintro e w' ⟨rfl, rfl⟩
        go_wp2_with fail
        refine HIX.out.mono ?_; rintro e w' ⟨rfl, rfl⟩
        go_wp2_with fail
        go_ret
        exact ⟨rfl, (K2.out.trans HKX.out).below (Nat.le_refl _) (fun _ h => h.elim)⟩
    · obtain rfl : k = L.length := by omega
      have HIX := hid (HI2.out _ (Kept.refl _ _))
      go_wp2_with fail
      refine HI1.out.mono ?_; rintro e w' ⟨rfl, rfl⟩
      go_wp2_with fail
      refine HIX.out.mono ?_; rintro e w' ⟨rfl, rfl⟩
      go_wp2_with fail
      go_ret
      exact ⟨rfl, KW.out.below (Nat.le_refl _) (fun _ h => h.elim)⟩
end Go.Proofs.YtlkhbepmkembgaaDoor
