/- play, kind 1: once more; two messages alike at opaque cells. -/
import Derived.Test.YtnlbdlbinoebgaaZe
namespace Go.Proofs.Ytnlbdlbinoebgaa
open Go.RowKit
theorem same_ms {w : World} {F F' : Nat → Prop} {ms ms2 : Array Value} {m0 m1 m2 m3 m4 m5 m6 m7 m8 m9 rk rv rn rt ae ap m23 m24 m25 : Int} {oa va la wa xa da na oa2 va2 la2 wa2 xa2 da2 na2 : Option Addr} {oq vq lq wq xq dq nq oq2 vq2 lq2 wq2 xq2 dq2 nq2 : Nat} {ops : List O} {V : List Val} {L : List Int} {WL : List (Int × Int)} {X : List Vt} {D : List (Int × Int × Int)} {NB : List Int}
    (hms : Hid (ms = #[.int .u8 m0, .int .u8 m1, .int .u8 m2, .int .u8 m3, .int .u32 m4, .int .u32 m5, .int .u64 m6, .int .u32 m7, .int .u8 m8, .int .u32 m9, .int .u8 rk, .slice oa (List.length ops) oq, .int .u32 rv, .int .i64 rn, .int .i64 rt, .int .i64 ae, .int .i64 ap, .slice va (List.length V) vq, .slice la (List.length L) lq, .slice wa (List.length WL) wq, .slice xa (List.length X) xq, .slice da (List.length D) dq, .slice na (List.length NB) nq, .int .u64 m23, .int .u64 m24, .int .i64 m25])) (hms2 : Hid (ms2 = #[.int .u8 m0, .int .u8 m1, .int .u8 m2, .int .u8 m3, .int .u32 m4, .int .u32 m5, .int .u64 m6, .int .u32 m7, .int .u8 m8, .int .u32 m9, .int .u8 rk, .slice oa2 (List.length ops) oq2, .int .u32 rv, .int .i64 rn, .int .i64 rt, .int .i64 ae, .int .i64 ap, .slice va2 (List.length V) vq2, .slice la2 (List.length L) lq2, .slice wa2 (List.length WL) wq2, .slice xa2 (List.length X) xq2, .slice da2 (List.length D) dq2, .slice na2 (List.length NB) nq2, .int .u64 m23, .int .u64 m24, .int .i64 m25])) (h : MsgIn F w rk rv rn rt oa va la wa xa da na oq vq lq wq xq dq nq ops V L WL X D NB) (h2 : MsgIn F' w rk rv rn rt oa2 va2 la2 wa2 xa2 da2 na2 oq2 vq2 lq2 wq2 xq2 dq2 nq2 ops V L WL X D NB) :
    Calls Try.prog 16 #[.agg ms, .agg ms2] w (YesK w) := by
  have e := hms.out
  have e2 := hms2.out
  subst e e2
  exact same_msg h.ho.l h2.ho.l h.hv h2.hv rfl h.hl h2.hl rfl h.hw h2.hw rfl h.hx h2.hx h.hd h2.hd rfl h.hn h2.hn rfl
/-- two empty messages -/
theorem same_zero {w : World} : Calls Try.prog 16 #[.agg msgZero.toArray, .agg msgZero.toArray] w (YesK w) :=
  same_msg (F := fun _ => False) (F' := fun _ => False) (m0 := 0) (m1 := 0) (m2 := 0) (m3 := 0) (m4 := 0) (m5 := 0) (m6 := 0) (m7 := 0) (m8 := 0) (m9 := 0) (rk := 0) (rv := 0) (rn := 0) (rt := 0) (ae := 0) (ap := 0) (m23 := 0) (m24 := 0) (m25 := 0) (ops := []) (V := []) (L := []) (WL := []) (D := []) (NB := []) (X := [])
    (Lies.nil _ w 7) (Lies.nil _ w 7) (Lies.nil _ w 3) (Lies.nil _ w 3) rfl (Lies.nil _ w 1) (Lies.nil _ w 1) rfl (Lies.nil _ w 2) (Lies.nil _ w 2) rfl verts_nil verts_nil (Lies.nil _ w 3) (Lies.nil _ w 3) rfl (Lies.nil _ w 1) (Lies.nil _ w 1) rfl
/-- Again's answer, for play -/
def AP (P : Bool → Array Value → World → Prop) (w1 : World) (e : Ending) (w' : World) : Prop :=
  ∃ ok ms, e = .returned (.tuple #[.agg ms, .bool ok]) ∧ Hid (ms.size = 26 ∧ ms.all (·.oneCell') = true) ∧ P ok ms w' ∧ Kept (fun _ => False) w1 w'
def AD (ok : Bool) (ms : Array Value) (w3 : World) (e : Ending) (w' : World) : Prop :=
  ∃ ms2, e = .returned (.tuple #[.agg ms2, .bool ok]) ∧ Hid (ms2.size = 26 ∧ ms2.all (·.oneCell') = true) ∧ Hid (∀ w4, Kept (fun _ => False) w' w4 → Calls Try.prog 16 #[.agg ms, .agg ms2] w4 (YesK w4)) ∧ Kept (fun _ => False) w3 w'
set_option maxRecDepth 100000 in
set_option maxHeartbeats 8000000 in
theorem play_1 {w : World} {cp xp : Option Addr} {P : Bool → Array Value → World → Prop} {os : Array Value} (o0 : os[0]? = some (.int .u8 1))
    (hag : ∀ w1, Kept (fun _ => False) w w1 → Calls Try.prog 15 #[.pointer cp] w1 (AP P w1))
    (hda : ∀ ok ms w2 w3, P ok ms w2 → Kept (fun _ => False) w2 w3 → Kept (fun _ => False) w w3 → Calls Try.prog 24 #[.pointer xp] w3 (AD ok ms w3)) :
    Calls Try.prog 13 #[.pointer cp, .pointer xp, .agg os] w (YesK w) := by
  have HAG := hid hag; have HDA := hid hda
  have N0 := hid (row_new w (.cells os 57))
  have K0 := hid ((Kept.refl (fun _ => False) w).alloc (.cells os 57))
  obtain ⟨w0, hw0⟩ : ∃ w0, w.alloc (.cells os 57) = w0 := ⟨_, rfl⟩
  obtain ⟨b, hb⟩ : ∃ b, w.heap.size = b := ⟨_, rfl⟩
  have HB := hid hb
  rw [hw0] at N0 K0
  rw [hb] at N0
  have x0 : w0.cell? ⟨b, 0, none⟩ = some (.int .u8 1) := (row_cell N0.out 0).trans o0
  have W0 := hid hw0
  clear hag hda o0 hw0 hb
  go_enter Try.func13, Try.ntmps13
  have hw0 := W0.out
  have hb := HB.out
  go_wp2_with fail
  refine (HAG.out w0 K0.out).mono ?_
  rintro e w1 ⟨ok, ms, rfl, hms, hp, hk1⟩
  have HMS := hms; have HP := hid hp; have K1 := hid (K0.out.trans hk1)
  clear hms hp hk1 x0 hw0 HAG N0
  go_wp2_with (refine wpList_store_row rfl 44 (.tmp 15) (.tmp 100) rfl ms msgZero.toArray (by rfl) (by rfl) (by exact row_new w1 _) (by rw [HMS.out.1]; rfl) (by rw [HMS.out.1]; exact infoM) HMS.out.2 ?_; intro w2 hb2 hk2; have K12 := hid (((Kept.refl (fun _ => False) w1).alloc (.cells msgZero.toArray 44)).trans' hk2 (fun g hg => .inr (by rw [hg]; exact Nat.le_refl _))); have M2 := hid hb2; clear hb2 hk2; refine Hid.out ?_)
  refine hid ?_
  obtain ⟨mb, hmb⟩ : ∃ mb, w1.heap.size = mb := ⟨_, rfl⟩
  rw [hmb] at M2 ⊢
  clear hmb
  have K2 := hid (K1.out.trans K12.out)
  clear K1
  go_wp2_with fail
  refine (HDA.out ok ms w1 w2 HP.out K12.out K2.out).mono ?_
  rintro e w3 ⟨ms2, rfl, hms2, hsame, hk3⟩
  have HMS2 := hms2; have HSAME := hsame; have K3 := hid (K2.out.trans hk3)
  have M3 := hid ((hk3.block _ (row_lt M2.out) (fun h => h)).trans M2.out)
  clear hms2 hsame hk3 K2 M2 HDA HP K12
  go_wp2_with (refine wpList_store_row rfl 44 (.tmp 17) (.tmp 105) rfl ms2 msgZero.toArray (by rfl) (by rfl) (by exact row_new w3 _) (by rw [HMS2.out.1]; rfl) (by rw [HMS2.out.1]; exact infoM) HMS2.out.2 ?_; intro w4 hb4 hk4; have K34 := hid (((Kept.refl (fun _ => False) w3).alloc (.cells msgZero.toArray 44)).trans' hk4 (fun g hg => .inr (by rw [hg]; exact Nat.le_refl _))); have D4 := hid hb4; clear hb4 hk4; refine Hid.out ?_)
  refine hid ?_
  obtain ⟨db, hdb⟩ : ∃ db, w3.heap.size = db := ⟨_, rfl⟩
  rw [hdb] at D4 ⊢
  clear hdb
  have K4 := hid (K3.out.trans K34.out)
  have M4 := hid ((K34.out.block _ (row_lt M3.out) (fun h => h)).trans M3.out)
  clear K3 M3
  go_wp2_with (first
    | (refine wpList_load_rowc rfl 44 (.tmp 15) rfl _ rfl M4.out Try.underlying44 rfl (by rw [HMS.out.1]; exact infoM) ?_)
    | (refine wpList_load_rowc rfl 44 (.tmp 17) rfl _ rfl D4.out Try.underlying44 rfl (by rw [HMS2.out.1]; exact infoM) ?_))
  refine (HSAME.out w4 K34.out).mono ?_
  rintro e w5 ⟨rfl, hk5⟩
  have K5 := hid (K4.out.trans hk5)
  clear hk5
  cases ok with
  | true => go_wp2; go_ret; exact ⟨rfl, K5.out⟩
  | false => go_wp2; go_ret; exact ⟨rfl, K5.out⟩
set_option maxRecDepth 100000 in
set_option maxHeartbeats 8000000 in
theorem play_3 {w : World} {cp xp : Option Addr} {os : Array Value} {kn : Int} (o0 : os[0]? = some (.int .u8 kn)) (n0 : kn ≠ 0) (n1 : kn ≠ 1) (n2 : kn ≠ 2) :
    Calls Try.prog 13 #[.pointer cp, .pointer xp, .agg os] w (YesK w) := by
  have N0 := hid (row_new w (.cells os 57))
  have K0 := hid ((Kept.refl (fun _ => False) w).alloc (.cells os 57))
  obtain ⟨w0, hw0⟩ : ∃ w0, w.alloc (.cells os 57) = w0 := ⟨_, rfl⟩
  obtain ⟨b, hb⟩ : ∃ b, w.heap.size = b := ⟨_, rfl⟩
  have HB := hid hb
  rw [hw0] at N0 K0
  rw [hb] at N0
  have x0 : w0.cell? ⟨b, 0, none⟩ = some (.int .u8 kn) := (row_cell N0.out 0).trans o0
  have W0 := hid hw0
  clear o0 hw0 hb
  go_enter Try.func13, Try.ntmps13
  have hw0 := W0.out
  have hb := HB.out
  go_wp2
  go_ret
  exact ⟨rfl, K0.out⟩
end Go.Proofs.Ytnlbdlbinoebgaa
