/- ValueSorts' walk. -/
import Derived.Test.YtnicaiofjficnaaDoorM
import Derived.Test.YtnicaiofjficnaaDoorReg
namespace Go.Proofs.YtnicaiofjficnaaDoor
open Go.RowKit
theorem set3_far {w : World} {g a b c d : Nat} {x y z u : Value} (h : w.cell? ⟨g, d, none⟩ = some u) (h1 : a ≠ d) (h2 : b ≠ d) (h3 : c ≠ d) : ((((w.setCell ⟨g, a, none⟩ x).setCell ⟨g, b, none⟩ y).setCell ⟨g, c, none⟩ z).drew).cell? ⟨g, d, none⟩ = some u := by
  show ((((w.setCell ⟨g, a, none⟩ x).setCell ⟨g, b, none⟩ y).setCell ⟨g, c, none⟩ z)).cell? ⟨g, d, none⟩ = some u
  rw [World.cell?_setCell_other _ _ _ _ (fun e => h3 (congrArg Addr.off e)), World.cell?_setCell_other _ _ _ _ (fun e => h2 (congrArg Addr.off e)), World.cell?_setCell_other _ _ _ _ (fun e => h1 (congrArg Addr.off e))]
  exact h
theorem set3_free {w : World} {g a b c d : Nat} {x y z : Value} (h : w.frozen? ⟨g, d, none⟩ = false) : ((((w.setCell ⟨g, a, none⟩ x).setCell ⟨g, b, none⟩ y).setCell ⟨g, c, none⟩ z).drew).frozen? ⟨g, d, none⟩ = false := by
  show ((((w.setCell ⟨g, a, none⟩ x).setCell ⟨g, b, none⟩ y).setCell ⟨g, c, none⟩ z)).frozen? ⟨g, d, none⟩ = false
  rw [World.frozen?_setCell, World.frozen?_setCell, World.frozen?_setCell]
  exact h
theorem lies_capV {F : Nat → Prop} {w : World} {a : Option Addr} {N c k : Nat} {news : List Value} (h : Lies F w k (.slice a N c) N news) : N ≤ c ∧ c ≤ 9223372036854775807 := by
  obtain ⟨_, _, e, h1, h2, _⟩ := h
  simp only [Value.slice.injEq] at e
  obtain ⟨_, _, rfl⟩ := e
  unfold maxLen at h2
  omega
set_option maxHeartbeats 4000000 in
set_option maxRecDepth 100000 in
theorem sorts_walk {laid : List (String × DataW Unit)} (hlaid : (laid.filter fun x => x.1 == "internal/strconv.uint64pow10") = [("internal/strconv.uint64pow10", Lib.tabData .u64 Lib.pow10Tab)]) (W : World) (args : Array Value) (hL : laidMetH Tryd.prog laid W) (h : RdAll Tryd.prog W Tryd.f5.params.toList args.toList) :
    Calls Tryd.prog 5 args W fun e W' => e = .returned (.bool true) ∧ Below W.heap.size W W' := by
  have ht := tab_of hL hlaid
  clear hL hlaid
  rw [Tryd.params5] at h
  obtain ⟨v0, rfl⟩ : ∃ v0, args = #[v0] := by
    rcases args with ⟨_ | ⟨v0, _ | ⟨v1, l⟩⟩⟩ <;> simp [RdAll] at h
    exact ⟨v0, rfl⟩
  obtain ⟨r0, _⟩ := h
  obtain ⟨a, ca, L, rfl, hA, hQ⟩ := vlist_read r0
  have HA := hid hA; have HQ := hid hQ
  obtain ⟨hN1, hN2⟩ := lies_capV hA
  clear hA
  obtain ⟨N, hN⟩ : ∃ N, L.length = N := ⟨_, rfl⟩
  rw [hN] at HA hN1
  have HN := hid hN
  clear r0 hQ
  go_enter Tryd.func5, Tryd.ntmps5
  rw [hN]
  clear hN
  go_wp2_with fail
  refine (awake_any _ ht).mono ?_; rintro e w1 ⟨rfl, hk⟩
  have K1 := hid hk
  clear hk
  go_wp2_with fail
  go_loopw [3, 15] (fun o i wr => ∃ (k m : Nat) (a' : Option Addr) (c' : Nat) (M : List Vv), i = .int .i64 k ∧ k ≤ N ∧ o = .slice a' m c' ∧ M.length = m ∧ m ≤ 40 ∧ (∀ x ∈ M, okV x ∧ formB x = true) ∧ Own wr 23 3 (.slice a' m c') m (M.flatMap encV) ∧ (∀ b, (Value.slice a' m c').ownBlock = some b → W.heap.size ≤ b) ∧ Kept (fun _ => False) W wr) (fun _ i _ => N - (RowKit.intOf i).toNat)
  case atStart => exact ⟨0, 0, none, 0, [], rfl, Nat.zero_le _, rfl, rfl, by omega, (fun x hx => nomatch hx), Own.nil _ _ _, fun b hb => by simp [Value.ownBlock] at hb, K1.out⟩
  case round =>
    rename World => wA
    obtain ⟨k, m, a', c', M, rfl, hk, rfl, hm, hm40, hM, ho, hf, hkp⟩ := hrel
    have OM := hid ho; have OF := hid hf; have KA := hid hkp; have MM := hid hM; have ML := hid hm
    clear hM ho hf hkp hm
    by_cases hlt : k < N
    · have hltI : (k : Int) < (N : Int) := by omega
      obtain ⟨x, hx⟩ : ∃ x, L[k]? = some x := ⟨_, List.getElem?_eq_getElem (by rw [HN.out]; exact hlt)⟩
      obtain ⟨g, o, rfl, q0, q1, q2⟩ := val_cells HA.out KA.out hx hlt
      have hxo := HQ.out x (List.mem_of_getElem? hx)
      have HXO := hid hxo
      obtain ⟨fx, hfx⟩ : ∃ b, formB x = b := ⟨_, rfl⟩
      have HFX := hid hfx
      clear hx hxo hfx
      obtain ⟨x1, x2, x3⟩ := x
      simp only at q0 q1 q2
      by_cases h40 : (m : Int) < 40
      · go_wp2_with fail
        have hr := row_new wA (.cells #[.int .u8 x1, .int .i64 x2, .string x3] 23)
        have hk1 := (Kept.refl (fun _ => False) wA).alloc (.cells #[.int .u8 x1, .int .i64 x2, .string x3] 23)
        obtain ⟨wo, hwo⟩ : ∃ wo, wA.alloc (.cells #[.int .u8 x1, .int .i64 x2, .string x3] 23) = wo := ⟨_, rfl⟩
        obtain ⟨xb, hxb⟩ : ∃ xb, wA.heap.size = xb := ⟨_, rfl⟩
        rw [hwo] at hr hk1 ⊢
        rw [hxb] at hr ⊢
        have XB := hid hr; have OM1 := hid (OM.out.kept hk1 (fun _ _ => id)); have KO := hid (KA.out.trans hk1)
        clear hr hk1 hwo hxb OM KA q0 q1 q2
        refine (form_any (x1, x2, x3) HXO.out.1 _).mono ?_; rintro e w2 ⟨rfl, hk2⟩
        rw [HFX.out]
        have XB2 := hid ((hk2.block xb (row_lt XB.out) id).trans XB.out); have OM2 := hid (OM1.out.kept hk2 (fun _ _ => id)); have K2 := hid (KO.out.trans hk2)
        clear hk2 XB OM1 KO
        obtain ⟨q0, q1, q2⟩ := encV_cells (v := (x1, x2, x3)) XB2.out
        simp only at q0 q1 q2
        cases fx with
        | false =>
          go_wp2
          go_roundw
          case rel => exact ⟨k + 1, m, a', c', M, by go_num, by omega, rfl, ML.out, hm40, MM.out, OM2.out, OF.out, K2.out⟩
          case measure => (simp only [RowKit.intOf]; omega)
        | true =>
          go_wp2_with (at_builtin; refine wpList_app rfl _ _ 34 rfl 23 _ 3 32 Tryd.underlying34 infoV3 rfl (by decide) _ m (M.flatMap encV) rfl (by exact OM2.out.alloc _) _ rfl 1 _ (val_src _ x1 x2 x3 _ (by simp)) (by unfold maxLen; omega) (by omega) ?_; intro a3 c3 w3 ho3 hk3 hf3 hj; clear hj; have HA3 := hid ho3; have HK3 := hid hk3; have HF3 := hid hf3; clear ho3 hk3 hf3)
          go_roundw
          case rel =>
            have hfl : (M ++ [(x1, x2, x3)]).flatMap encV = M.flatMap encV ++ encV (x1, x2, x3) := by simp
            refine ⟨k + 1, m + 1, a3, c3, M ++ [(x1, x2, x3)], by go_num, by omega, rfl, by simp [ML.out], by omega, fun x hx => ?_, by rw [hfl]; exact HA3.out, fun b hb => ?_, (K2.out.alloc _).trans' HK3.out (fun i hi => .inr (OF.out i hi))⟩
            · rcases List.mem_append.1 hx with hx | hx
              · exact MM.out x hx
              · rw [List.mem_singleton] at hx; subst hx; exact ⟨HXO.out, HFX.out⟩
            · rcases HF3.out b hb with h | h
              · exact OF.out b h
              · simp at h; have := K2.out.size; omega
          case measure => (simp only [RowKit.intOf]; omega)
      · go_wp2
        go_roundw
        case rel => exact ⟨k + 1, m, a', c', M, by go_num, by omega, rfl, ML.out, hm40, MM.out, OM.out.alloc _, OF.out, KA.out.alloc _⟩
        case measure => (simp only [RowKit.intOf]; omega)
    · obtain rfl : k = N := by omega
      obtain ⟨f, hMf, hfM⟩ := arr_of M
      rw [ML.out] at hMf hfM
      have hok : ∀ p, p < m → okV (f p) ∧ formB (f p) = true := fun p hp => MM.out _ (hfM p hp)
      have VM := hid (show Vs wA (.slice a' m c') m f from by have := OM.out; rw [hMf] at this; exact this)
      have HOK := hid hok
      clear hMf hfM hok MM ML OM
      clear HA HQ HN hN1 hN2 hk hlt K1
      go_wp2_with fail
      go_loopw [33] (fun i wr => ∃ (p : Nat) (f : Nat → Vv), p ≤ m ∧ i = .int .i64 p ∧ Vs wr (.slice a' m c') m f ∧ Up f p ∧ (∀ q, q < m → okV (f q) ∧ formB (f q) = true) ∧ Kept (fun _ => False) W wr) (fun i _ => m - (RowKit.intOf i).toNat)
      case atStart => exact ⟨0, f, Nat.zero_le _, rfl, VM.out, fun p q _ h => absurd h (Nat.not_lt_zero _), HOK.out, KA.out⟩
      case round =>
        rename World => wB
        clear VM HOK KA
        obtain ⟨p, f, hp, rfl, hv, hup, hok, hkp⟩ := hrel
        have VB := hid hv; have UB := hid hup; have HOK := hid hok; have KB := hid hkp
        clear hv hup hok hkp
        by_cases hlt : p < m
        · have hltI : (p : Int) < (m : Int) := by omega
          obtain ⟨g, cap, hse, hs1, hs2⟩ := VB.out.some_of_pos (by omega)
          simp only [Value.slice.injEq] at hse
          obtain ⟨rfl, _, rfl⟩ := hse
          unfold maxLen at hs2
          have HG := hid (OF.out g rfl)
          go_wp2_with fail
          go_loopw [7] (fun jv wr => ∃ (j : Nat) (f : Nat → Vv), j ≤ p ∧ jv = .int .i64 j ∧ Vs wr (.slice (some ⟨g, 0, none⟩) m c') m f ∧ Ins f p j ∧ (∀ q, q < m → okV (f q) ∧ formB (f q) = true) ∧ Kept (fun _ => False) W wr) (fun jv _ => (RowKit.intOf jv).toNat)
          case atStart => exact ⟨p, f, Nat.le_refl _, rfl, VB.out, UB.out.ins, HOK.out, KB.out⟩
          case round =>
            rename World => wr
            clear VB UB HOK KB
            obtain ⟨j, f, hj, rfl, hv, hin, hok, hkp⟩ := hrel
            have VR := hid hv; have IR := hid hin; have HOK := hid hok; have KR := hid hkp
            clear hv hin hok hkp
            by_cases hj0 : j = 0
            · subst hj0
              have UP := hid IR.out.up0
              go_wp2
              go_roundw
              case rel => exact ⟨p + 1, f, by omega, by go_num, VR.out, UP.out, HOK.out, KR.out⟩
              case measure => (simp only [RowKit.intOf]; omega)
            · obtain ⟨k, hkj⟩ : ∃ k, k + 1 = j := ⟨j - 1, by omega⟩
              have HKJ := hid hkj
              have hjI : (0 : Int) < (j : Int) := by omega
              have hkm : k < m := by omega
              have hkm1 : j < m := by omega
              have hkmI : (k : Int) < (m : Int) := by omega
              have hkmI1 : (j : Int) < (m : Int) := by omega
              have hw1 : IntKind.i64.wrap ((j : Int) - 1) = (k : Int) := by simp [IntKind.wrap, IntKind.bits, IntKind.signed]; omega
              clear hj0 hkj
              obtain ⟨ha1, ha2⟩ := HOK.out k hkm
              obtain ⟨hb1, hb2⟩ := HOK.out j hkm1
              have s1' := And.intro (VR.out.cells hkm) (VR.out.cells hkm1)
              obtain ⟨⟨k1, n1, s1⟩, hx⟩ : ∃ x, f k = x := ⟨_, rfl⟩
              obtain ⟨⟨k2, n2, s2⟩, hy⟩ : ∃ x, f j = x := ⟨_, rfl⟩
              rw [hx] at ha1 ha2 s1'
              rw [hy] at hb1 hb2 s1'
              simp only [and_assoc] at s1'
              have HA1 := hid ha1; have HB1 := hid hb1; have HX := hid hx; have HY := hid hy
              have HV := hid (ans_yes (a := (k1, n1, s1)) (b := (k2, n2, s2)) (by rw [ha2, hb2]; rfl))
              obtain ⟨c, hc⟩ : ∃ c, cmpV (k1, n1, s1) (k2, n2, s2) = c := ⟨_, rfl⟩
              rw [hc] at HV
              have HC := hid hc
              clear ha1 ha2 hb1 hb2 hx hy hc
              go_wp2_with fail
              have s2' : wr.drew.cell? ⟨g, k * 3, none⟩ = some (.int .u8 k1) ∧ wr.drew.cell? ⟨g, k * 3 + 1, none⟩ = some (.int .i64 n1) ∧ wr.drew.cell? ⟨g, k * 3 + 2, none⟩ = some (.string s1) ∧ wr.drew.cell? ⟨g, j * 3, none⟩ = some (.int .u8 k2) ∧ wr.drew.cell? ⟨g, j * 3 + 1, none⟩ = some (.int .i64 n2) ∧ wr.drew.cell? ⟨g, j * 3 + 2, none⟩ = some (.string s2) := s1'
              go_region_held3 (fun w' => w'.cell? ⟨g, k * 3, none⟩ = some (.int .u8 k1) ∧ w'.cell? ⟨g, k * 3 + 1, none⟩ = some (.int .i64 n1) ∧ w'.cell? ⟨g, k * 3 + 2, none⟩ = some (.string s1) ∧ w'.cell? ⟨g, j * 3, none⟩ = some (.int .u8 k2) ∧ w'.cell? ⟨g, j * 3 + 1, none⟩ = some (.int .i64 n2) ∧ w'.cell? ⟨g, j * 3 + 2, none⟩ = some (.string s2)) (first | exact s1' | exact s2' | exact s3')
                (first
                  | (go_at_call 8; refine (cmp_any (k1, n1, s1) (k2, n2, s2) HA1.out.1 HB1.out.1 _).mono ?_; rintro e w2 ⟨rfl, hk⟩; rw [HV.out]; have HK := hid hk; have s3' : w2.cell? ⟨g, k * 3, none⟩ = some (.int .u8 k1) ∧ w2.cell? ⟨g, k * 3 + 1, none⟩ = some (.int .i64 n1) ∧ w2.cell? ⟨g, k * 3 + 2, none⟩ = some (.string s1) ∧ w2.cell? ⟨g, j * 3, none⟩ = some (.int .u8 k2) ∧ w2.cell? ⟨g, j * 3 + 1, none⟩ = some (.int .i64 n2) ∧ w2.cell? ⟨g, j * 3 + 2, none⟩ = some (.string s2) := (by obtain ⟨e0, e1, e2, e3, e4, e5⟩ := s2'; exact ⟨hk.cell e0 id, hk.cell e1 id, hk.cell e2 id, hk.cell e3 id, hk.cell e4 id, hk.cell e5 id⟩); clear hk))
              have HKW := hid (((Kept.refl (fun _ => False) wr).drew).trans HK.out)
              have V2 := hid (VR.out.kept HKW.out (fun _ _ => id)); have K2 := hid (KR.out.trans HKW.out)
              clear s1' s2' HK HKW VR KR
              by_cases hc0 : c ≤ 0
              · have UP := hid (show Up f (p + 1) from by
                  have h := IR.out
                  rw [← HKJ.out] at h
                  exact h.up (by rw [HX.out, HKJ.out, HY.out, HC.out]; exact hc0))
                clear s3'
                go_wp2
                go_roundw
                case rel => exact ⟨p + 1, f, by omega, by go_num, V2.out, UP.out, HOK.out, K2.out⟩
                case measure => (simp only [RowKit.intOf]; omega)
              · have hfr := fun i => V2.out.free (g := g) rfl i
                have hsw := Vs.swap V2.out (k := k) (by have := HKJ.out; omega)
                have IN := hid (show Ins (sw f k) p k from Ins.swap (f := f) (i := p) (k := k) (by have := HKJ.out; omega) (by have h := IR.out; rw [← HKJ.out] at h; exact h) (by rw [HX.out, HKJ.out, HY.out, HC.out]; exact hc0))
                have HOK2 := hid (sw_all (P := fun x => okV x ∧ formB x = true) (f := f) (m := m) (k := k) (by have := HKJ.out; omega) HOK.out)
                rw [HKJ.out, HX.out, HY.out] at hsw
                simp only at hsw
                obtain ⟨w3, hw3, hv3, hk3⟩ := hsw
                have V3 := hid hv3; have K3 := hid (K2.out.trans' hk3 (fun i h => .inr (by rw [h]; exact HG.out))); have HW3 := hid hw3
                clear hv3 hk3 hw3
                have x0 : ∀ i, w2.drew.frozen? ⟨g, i, none⟩ = false := hfr
                obtain ⟨e0, e1, e2, e3, e4, e5⟩ := s3'
                have z0 : w2.drew.cell? ⟨g, k * 3, none⟩ = some (.int .u8 k1) := e0
                have z1 : w2.drew.cell? ⟨g, k * 3 + 1, none⟩ = some (.int .i64 n1) := e1
                have z2 : w2.drew.cell? ⟨g, k * 3 + 2, none⟩ = some (.string s1) := e2
                have z3 : w2.drew.cell? ⟨g, j * 3, none⟩ = some (.int .u8 k2) := e3
                have z4 : w2.drew.cell? ⟨g, j * 3 + 1, none⟩ = some (.int .i64 n2) := e4
                have z5 : w2.drew.cell? ⟨g, j * 3 + 2, none⟩ = some (.string s2) := e5
                have x1 : ∀ i, ((((w2.setCell ⟨g, k * 3, none⟩ (.int .u8 k2)).setCell ⟨g, k * 3 + 1, none⟩ (.int .i64 n2)).setCell ⟨g, k * 3 + 2, none⟩ (.string s2)).drew).frozen? ⟨g, i, none⟩ = false := fun i => set3_free (hfr i)
                have hne1 : ¬ k = j := by have := HKJ.out; omega
                have hne2 : ¬ j = k := by have := HKJ.out; omega
                go_wp2_with fail
                go_region
                rw [HW3.out]
                clear hfr x0 x1 e0 e1 e2 e3 e4 e5 z0 z1 z2 z3 z4 z5 HW3
                go_wp2
                go_roundw
                case rel => exact ⟨k, sw f k, by have := HKJ.out; omega, by go_num, V3.out.drew, IN.out, HOK2.out, K3.out.drew⟩
                case measure => (have := HKJ.out; simp only [RowKit.intOf]; omega)
        · obtain rfl : p = m := by omega
          go_wp2_with fail
          go_loopw [10] (fun iv wr => ∃ i : Nat, 1 ≤ i ∧ i ≤ p + 1 ∧ iv = .int .i64 i ∧ Kept (fun _ => False) wB wr) (fun iv _ => p + 1 - (RowKit.intOf iv).toNat)
          case atStart => exact ⟨1, by omega, by omega, rfl, Kept.refl _ _⟩
          case round =>
            rename World => wr
            obtain ⟨j, hj1, hj2, rfl, hkp⟩ := hrel
            have KR := hid (KB.out.trans hkp); have VR : Hid (Vs wr (.slice a' p c') p f) := hid (VB.out.kept hkp (fun _ _ => id)); have KP := hid hkp
            clear hkp
            by_cases hjl : j < p
            · obtain ⟨g, cap, hse, hs1, hs2⟩ := VR.out.some_of_pos (by omega)
              simp only [Value.slice.injEq] at hse
              obtain ⟨rfl, _, rfl⟩ := hse
              unfold maxLen at hs2
              obtain ⟨k, hkj⟩ : ∃ k, k + 1 = j := ⟨j - 1, by omega⟩
              have HKJ := hid hkj
              have hkm : k < p := by omega
              have hjI : (j : Int) < (p : Int) := by omega
              have hkI : (k : Int) < (p : Int) := by omega
              have hw1 : IntKind.i64.wrap ((j : Int) - 1) = (k : Int) := by simp [IntKind.wrap, IntKind.bits, IntKind.signed]; omega
              have hle := UB.out k j (by omega) hjl
              clear hkj
              obtain ⟨ha1, ha2⟩ := HOK.out k hkm
              obtain ⟨hb1, hb2⟩ := HOK.out j hjl
              have s1' := And.intro (VR.out.cells hkm) (VR.out.cells hjl)
              obtain ⟨⟨k1, n1, s1⟩, hx⟩ : ∃ x, f k = x := ⟨_, rfl⟩
              obtain ⟨⟨k2, n2, s2⟩, hy⟩ : ∃ x, f j = x := ⟨_, rfl⟩
              rw [hx] at ha1 ha2 s1' hle
              rw [hy] at hb1 hb2 s1' hle
              simp only [and_assoc] at s1'
              have hls : lessV (k2, n2, s2) (k1, n1, s1) = false := by
                have h1 := cmpV_doc hb2 ha2
                have h2 := (cmpV_flip (k1, n1, s1) (k2, n2, s2)).1
                cases hl : lessV (k2, n2, s2) (k1, n1, s1) with
                | false => rfl
                | true => rw [hl] at h1; simp only [if_true] at h1; omega
              have HA1 := hid ha1; have HB1 := hid hb1; have HLS := hid hls
              clear ha1 ha2 hb1 hb2 hx hy hls hle
              go_wp2_with fail
              have s2' : wr.drew.cell? ⟨g, k * 3, none⟩ = some (.int .u8 k1) ∧ wr.drew.cell? ⟨g, k * 3 + 1, none⟩ = some (.int .i64 n1) ∧ wr.drew.cell? ⟨g, k * 3 + 2, none⟩ = some (.string s1) ∧ wr.drew.cell? ⟨g, j * 3, none⟩ = some (.int .u8 k2) ∧ wr.drew.cell? ⟨g, j * 3 + 1, none⟩ = some (.int .i64 n2) ∧ wr.drew.cell? ⟨g, j * 3 + 2, none⟩ = some (.string s2) := s1'
              go_region_held3 (fun w' => w'.cell? ⟨g, k * 3, none⟩ = some (.int .u8 k1) ∧ w'.cell? ⟨g, k * 3 + 1, none⟩ = some (.int .i64 n1) ∧ w'.cell? ⟨g, k * 3 + 2, none⟩ = some (.string s1) ∧ w'.cell? ⟨g, j * 3, none⟩ = some (.int .u8 k2) ∧ w'.cell? ⟨g, j * 3 + 1, none⟩ = some (.int .i64 n2) ∧ w'.cell? ⟨g, j * 3 + 2, none⟩ = some (.string s2)) (first | exact s1' | exact s2' | exact s3')
                (first
                  | (go_at_call 13; refine (less_any (k2, n2, s2) (k1, n1, s1) HB1.out.1 HA1.out.1 _).mono ?_; rintro e w2 ⟨rfl, hk⟩; rw [HLS.out]; have HK := hid hk; have s3' : w2.cell? ⟨g, k * 3, none⟩ = some (.int .u8 k1) ∧ w2.cell? ⟨g, k * 3 + 1, none⟩ = some (.int .i64 n1) ∧ w2.cell? ⟨g, k * 3 + 2, none⟩ = some (.string s1) ∧ w2.cell? ⟨g, j * 3, none⟩ = some (.int .u8 k2) ∧ w2.cell? ⟨g, j * 3 + 1, none⟩ = some (.int .i64 n2) ∧ w2.cell? ⟨g, j * 3 + 2, none⟩ = some (.string s2) := (by obtain ⟨e0, e1, e2, e3, e4, e5⟩ := s2'; exact ⟨hk.cell e0 id, hk.cell e1 id, hk.cell e2 id, hk.cell e3 id, hk.cell e4 id, hk.cell e5 id⟩); clear hk))
              have K2 := hid (((Kept.refl (fun _ => False) wr).drew).trans HK.out)
              clear s1' s2' s3'
              go_wp2
              go_roundw
              case rel => exact ⟨j + 1, by omega, by omega, by go_num, KP.out.trans K2.out⟩
              case measure => (simp only [RowKit.intOf]; omega)
            · have hjI : ¬ (j : Int) < (p : Int) := by omega
              go_wp2
              go_ret
              exact ⟨rfl, KR.out.below (Nat.le_refl _) (fun _ h => h.elim)⟩
end Go.Proofs.YtnicaiofjficnaaDoor
