/- play. -/
import Derived.Test.YtekapdankpamiaaO
import Derived.Deep.RegionHeld3
namespace Go.Proofs.Ytekapdankpamiaa
open Go.RowKit
theorem six_cells {w : World} {b T : Nat} {x0 x1 x2 x3 x4 x5 : Value} (h : w.heap[b]? = some (.cells #[x0, x1, x2, x3, x4, x5] T (0, 0))) : w.cell? ⟨b, 0, none⟩ = some x0 ∧ w.cell? ⟨b, 1, none⟩ = some x1 ∧ w.cell? ⟨b, 2, none⟩ = some x2 ∧ w.cell? ⟨b, 3, none⟩ = some x3 ∧ w.cell? ⟨b, 4, none⟩ = some x4 ∧ w.cell? ⟨b, 5, none⟩ = some x5 :=
  ⟨by rw [row_cell h]; rfl, by rw [row_cell h]; rfl, by rw [row_cell h]; rfl, by rw [row_cell h]; rfl, by rw [row_cell h]; rfl, by rw [row_cell h]; rfl⟩
set_option maxRecDepth 100000 in
set_option maxHeartbeats 2000000 in
theorem play_any {B : Nat} {w : World} {pd px : Option Addr} {n : Int} {g : Gm} (h : PS B w.heap.size w pd px n g g) (v u tt nd ep si : Int) (hb : MvB (v, u, tt, nd, ep, si)) :
    Calls Try.prog 13 #[.pointer pd, .pointer px, .agg #[.int .u32 v, .int .u32 u, .int .u8 tt, .int .u8 nd, .int .u32 ep, .int .u32 si]] w fun e w' =>
      e = .returned (.bool true) ∧ PS B w.heap.size w' pd px n (mvA pd n g v tt ep).2 (mvA pd n g v tt ep).2 ∧ Kept (In B w.heap.size) w w' := by
  obtain ⟨b0, b1, b2, b3, b4, b5⟩ := hb
  simp only at b0 b1 b2 b3 b4 b5
  have hk0 := (Kept.refl (fun _ => False) w).alloc (.cells #[.int .u32 v, .int .u32 u, .int .u8 tt, .int .u8 nd, .int .u32 ep, .int .u32 si] 30)
  have hr0 := row_new w (.cells #[.int .u32 v, .int .u32 u, .int .u8 tt, .int .u8 nd, .int .u32 ep, .int .u32 si] 30)
  have HP := hid (h.same hk0)
  go_enter Try.func13, Try.ntmps13
  go_wp2_with fail
  obtain ⟨w1, hw1⟩ : ∃ w1, w.alloc (.cells #[.int .u32 v, .int .u32 u, .int .u8 tt, .int .u8 nd, .int .u32 ep, .int .u32 si] 30) = w1 := ⟨_, rfl⟩
  rw [hw1] at hk0 hr0 HP ⊢
  obtain ⟨ob, hob⟩ : ∃ ob, w.heap.size = ob := ⟨_, rfl⟩
  rw [hob] at hr0 HP ⊢
  have HOB := hid hob; have K1 := hid hk0; have R1 := hid hr0
  obtain ⟨c0, c1, c2, c3, c4, c5⟩ := six_cells R1.out
  clear hw1 hob h hk0 hr0
  obtain ⟨r1, hr1⟩ : ∃ r, (mvA pd n g v tt ep).1 = r := ⟨_, rfl⟩
  obtain ⟨G, hG⟩ : ∃ r, (mvA pd n g v tt ep).2 = r := ⟨_, rfl⟩
  obtain ⟨r2, hr2⟩ : ∃ r, chkA pd n G u nd si = r := ⟨_, rfl⟩
  have HR1 := hid hr1; have HG := hid hG; have HR2 := hid hr2
  clear hr1 hG hr2
  have PD := hid (HP.out.same (Kept.refl _ _).drew)
  have RD1 := hid (show w1.drew.heap[ob]? = _ from R1.out)
  have s1 := six_cells RD1.out
  clear c0 c1 c2 c3 c4 c5
  go_region_held3 (fun w' => w'.cell? ⟨ob, 0, none⟩ = some (.int .u32 v) ∧ w'.cell? ⟨ob, 1, none⟩ = some (.int .u32 u) ∧ w'.cell? ⟨ob, 2, none⟩ = some (.int .u8 tt) ∧ w'.cell? ⟨ob, 3, none⟩ = some (.int .u8 nd) ∧ w'.cell? ⟨ob, 4, none⟩ = some (.int .u32 ep) ∧ w'.cell? ⟨ob, 5, none⟩ = some (.int .u32 si)) (first | exact s1 | exact s3 | exact s4 | exact s5 | exact s6)
    (first
      | (go_at_call 9; refine (ps_move (T := ob) PD.out v tt ep b2).mono ?_; rintro e w3 ⟨he, hp, hk⟩; rw [HR1.out] at he; rw [HG.out] at hp; subst he; have P3 := hid hp; have K3 := hid hk; have R3 := hid ((hk.block ob (row_lt RD1.out) (fun h => absurd h.2 (Nat.lt_irrefl _))).trans RD1.out); have s3 := six_cells R3.out; clear hp hk s1)
      | (go_at_call 18; refine (ps_docmove P3.out v tt ep b0 b2).mono ?_; rintro e w4 ⟨he, hp, hk⟩; rw [HR1.out] at he; rw [HG.out] at hp; subst he; have P4 := hid hp; have K4 := hid hk; have R4 := hid ((hk.block ob (row_lt R3.out) (fun h => absurd h.2 (Nat.lt_irrefl _))).trans R3.out); have s4 := six_cells R4.out; clear hp hk s3)
      | (go_at_call 11; refine (ps_check P4.out u nd si b3).mono ?_; rintro e w5 ⟨he, hk⟩; rw [HR2.out] at he; subst he; have P5 := hid (P4.out.same hk); have K5 := hid hk; have R5 := hid ((hk.block ob (row_lt R4.out) id).trans R4.out); have s5 := six_cells R5.out; clear hk s4)
      | (go_at_call 19; refine (ps_doccheck P5.out u nd si b1 b3).mono ?_; rintro e w6 ⟨he, hk⟩; rw [HR2.out] at he; subst he; have P6 := hid (P5.out.same hk); have K6 := hid hk; have R6 := hid ((hk.block ob (row_lt R5.out) id).trans R5.out); have s6 := six_cells R6.out; clear hk s5))
  have hK : Kept (In B ob) w w1.drew := (K1.out.trans ((Kept.refl (fun _ => False) w1).drew)).mono (fun _ _ h => h.elim)
  have K7 := hid ((((hK.trans' K3.out (fun i h => .inl h)).trans' K4.out (fun i h => .inl h)).trans' K5.out (fun i h => h.elim)).trans' K6.out (fun i h => h.elim))
  obtain ⟨c0, c1, _⟩ := s6
  clear hK K1 K3 K4 K5 K6 HP PD P3 P4 P5 R1 RD1 R3 R4 R5
  go_wp2_with fail
  have hk7 := (Kept.refl (fun _ => False) w6).alloc (.cells #[.int .u32 v, .int .u32 u] 23)
  have hr7 := row_new w6 (.cells #[.int .u32 v, .int .u32 u] 23)
  have P7 := hid (P6.out.same hk7); have K8 := hid (K7.out.trans' hk7 (fun i h => h.elim))
  obtain ⟨w7, hw7⟩ : ∃ w7, w6.alloc (.cells #[.int .u32 v, .int .u32 u] 23) = w7 := ⟨_, rfl⟩
  rw [hw7] at hr7 P7 K8 ⊢
  obtain ⟨lb, hlb⟩ : ∃ lb, w6.heap.size = lb := ⟨_, rfl⟩
  rw [hlb] at hr7 ⊢
  have R7 := hid hr7
  clear hw7 hlb hk7 hr7 c0 c1 P6 R6 K7
  go_loopw [55] (fun i wr => ∃ k : Nat, k ≤ 2 ∧ i = .int .i64 k ∧ Kept (fun _ => False) w7 wr) (fun i _ => 2 - (RowKit.intOf i).toNat)
  case atStart => exact ⟨0, by omega, rfl, Kept.refl _ _⟩
  case round =>
    rename World => wA
    obtain ⟨k, hk, rfl, hkp⟩ := hrel
    have KA := hid hkp; have PA := hid (P7.out.same hkp)
    have ra := (hkp.block lb (row_lt R7.out) id).trans R7.out
    clear hkp
    by_cases hlt : k < 2
    · have hltI : (k : Int) < 2 := by omega
      obtain ⟨y, hy0, hyc⟩ : ∃ y : Int, (0 ≤ y ∧ y ≤ 4294967295) ∧ wA.cell? ⟨lb, k, none⟩ = some (.int .u32 y) := by
        rcases Nat.lt_succ_iff_lt_or_eq.1 hlt with h1 | rfl
        · obtain rfl : k = 0 := by omega
          exact ⟨v, b0, by rw [row_cell ra]; rfl⟩
        · exact ⟨u, b1, by rw [row_cell ra]; rfl⟩
      obtain ⟨xa, xb, xc, xd, hx⟩ : ∃ a b c d, ownA pd n G y = (a, b, c, d) := ⟨_, _, _, _, rfl⟩
      have HX := hid (show ownV (ownA pd n G y) = .tuple #[.agg #[.int .u32 xa, .int .u8 xb, .int .u32 xc], .int .i64 xd] from by rw [hx]; rfl)
      clear hx ra
      go_wp2_with fail
      refine (ps_owner PA.out y hy0).mono ?_
      rintro e wB ⟨he, hk1⟩
      rw [HX.out] at he
      subst he
      have KB := hid (KA.out.trans hk1); have PB := hid (PA.out.same hk1)
      clear hk1 hyc
      go_wp2_with fail
      have hk2 := (Kept.refl (fun _ => False) wB).alloc (.cells #[.int .u32 xa, .int .u8 xb, .int .u32 xc] 33)
      have hr2 := row_new wB (.cells #[.int .u32 xa, .int .u8 xb, .int .u32 xc] 33)
      have PC := hid (PB.out.same hk2); have KC := hid (KB.out.trans hk2)
      obtain ⟨wC, hwC⟩ : ∃ wC, wB.alloc (.cells #[.int .u32 xa, .int .u8 xb, .int .u32 xc] 33) = wC := ⟨_, rfl⟩
      rw [hwC] at hr2 PC KC ⊢
      obtain ⟨eb, heb⟩ : ∃ eb, wB.heap.size = eb := ⟨_, rfl⟩
      rw [heb] at hr2 ⊢
      have R2 := hid hr2
      clear hwC heb hk2 hr2 KB PB
      refine (ps_docowner PC.out y hy0).mono ?_
      rintro e wD ⟨he, hk1⟩
      rw [HX.out] at he
      subst he
      have KD := hid (KC.out.trans hk1)
      have rd := (hk1.block eb (row_lt R2.out) id).trans R2.out
      have f0 : ∀ o, (wD.alloc o).cell? ⟨eb, 0, none⟩ = some (.int .u32 xa) := fun o => ((Kept.refl (fun _ => False) wD).alloc o).cell (three_cells rd).1 id
      have f1 : ∀ o, (wD.alloc o).cell? ⟨eb, 1, none⟩ = some (.int .u8 xb) := fun o => ((Kept.refl (fun _ => False) wD).alloc o).cell (three_cells rd).2.1 id
      have f2 : ∀ o, (wD.alloc o).cell? ⟨eb, 2, none⟩ = some (.int .u32 xc) := fun o => ((Kept.refl (fun _ => False) wD).alloc o).cell (three_cells rd).2.2 id
      clear hk1 rd PC KC
      go_wp2
      go_roundw
      case rel => exact ⟨k + 1, by omega, by go_num, KD.out.alloc _⟩
      case measure => (simp only [RowKit.intOf]; omega)
    · go_wp2
      go_ret
      rw [HG.out, HOB.out]
      exact ⟨rfl, P7.out.same KA.out, K8.out.trans' KA.out (fun i h => h.elim)⟩
end Go.Proofs.Ytekapdankpamiaa
