/- play, kind 0: a call. -/
import Derived.Test.YtnlbdlbinoebgaaZd
namespace Go.Proofs.Ytnlbdlbinoebgaa
open Go.RowKit
/-- u32 cells at place r of n elements of 7 cells that may be written, in blocks G -/
def Fl (G : Nat → Prop) (s : Nat) (w : World) (a : Option Addr) (n r : Nat) : Prop := ∀ j, j < n → ∃ g o u, a = some ⟨g, o, none⟩ ∧ G g ∧ g < w.heap.size ∧ w.cell? ⟨g, o + j * s + r, none⟩ = some (.int .u32 u) ∧ w.frozen? ⟨g, o + j * s + r, none⟩ = false
theorem Fl.kept {G H : Nat → Prop} {s : Nat} {w w' : World} {a : Option Addr} {n r : Nat} (h : Fl G s w a n r) (k : Kept H w w') (hg : ∀ g, g < w.heap.size → G g → ¬ H g) : Fl G s w' a n r := fun j hj => by
  obtain ⟨g, o, u, e, h1, h2, h3, h4⟩ := h j hj
  exact ⟨g, o, u, e, h1, Nat.lt_of_lt_of_le h2 k.size, k.cell h3 (hg g h2 h1), (k.ice h2 (hg g h2 h1) _).trans h4⟩
theorem Fl.imp {G H : Nat → Prop} {s : Nat} {w : World} {a : Option Addr} {n r : Nat} (h : Fl G s w a n r) (hg : ∀ g, g < w.heap.size → G g → H g) : Fl H s w a n r := fun j hj => by
  obtain ⟨g, o, u, e, h1, h2, h3, h4⟩ := h j hj
  exact ⟨g, o, u, e, hg g h2 h1, h2, h3, h4⟩
theorem Fl.set {G : Nat → Prop} {s : Nat} {w : World} {g o n r k : Nat} (h : Fl G s w (some ⟨g, o, none⟩) n r) (hs : 0 < s) (u : Int) : Fl G s (w.setCell ⟨g, o + k * s + r, none⟩ (.int .u32 u)) (some ⟨g, o, none⟩) n r := fun j hj => by
  obtain ⟨g', o', u', e, h1, h2, h3, h4⟩ := h j hj
  cases e
  by_cases hjk : j = k
  · subst hjk
    exact ⟨g, o, u, rfl, h1, by simpa using h2, World.cell?_setCell_same _ _ _ (by rw [h3]), (World.frozen?_setCell _ _ _ _).trans h4⟩
  · refine ⟨g, o, u', rfl, h1, by simpa using h2, (World.cell?_setCell_other _ _ _ _ (fun e => hjk ?_)).trans h3, (World.frozen?_setCell _ _ _ _).trans h4⟩
    have e2 := congrArg Addr.off e
    simp only at e2
    have e3 : j * s = k * s := by omega
    exact Nat.eq_of_mul_eq_mul_right hs e3
theorem Fl.of {F G : Nat → Prop} {w : World} {a : Option Addr} {l : List O} {c r : Nat} (h : Lies F w 7 (.slice a l.length c) l.length (ocells l)) (t : Thaw F w a l.length) (hG : ∀ g, g < w.heap.size → ¬ F g → G g) (hr : r = 1 ∨ r = 2) : Fl G 7 w a l.length r := fun j hj => by
  obtain ⟨g, o, e1, n1, l1, f1⟩ := t (by omega)
  obtain ⟨g', o', e2, h2⟩ := Lies.el (enc := ocell) (fun _ => rfl) h rfl (Kept.refl _ w) (k := j) (x := l[j]) (List.getElem?_eq_getElem hj)
  rw [e1] at e2
  cases e2
  rcases hr with rfl | rfl
  · exact ⟨g, o, l[j].a, e1, hG g l1 n1, l1, h2 1 _ rfl, f1 _⟩
  · exact ⟨g, o, l[j].b, e1, hG g l1 n1, l1, h2 2 _ rfl, f1 _⟩
theorem Fl.nil {G : Nat → Prop} {s : Nat} {w : World} {a : Option Addr} {r : Nat} : Fl G s w a 0 r := fun j hj => absurd hj (Nat.not_lt_zero j)
/-- what is true, nothing turned -/
def YesK (w : World) (e : Ending) (w' : World) : Prop := e = .returned (.bool true) ∧ Kept (fun _ => False) w w'
/-- Call's answer, for play -/
def CP (P : World → Nat → Int → Array Value → World → Prop) (cb : Nat) (w1 : World) (e : Ending) (w' : World) : Prop :=
  ∃ m er ms a1 n1 c1, e = .returned (.tuple #[.agg ms, .int .i64 er]) ∧ Hid (ms.size = 26 ∧ ms.all (·.oneCell') = true ∧ ms[11]? = some (.slice a1 n1 c1)) ∧ Fl (fun g => m ≤ g) 7 w' a1 n1 2 ∧ w1.heap.size ≤ m ∧ n1 ≤ 9223372036854775807 ∧ P w1 m er ms w' ∧ Kept (fun g => g = cb) w1 w'
/-- DocCall's, for play -/
def DP (P2 : World → Nat → World → Prop) (xb : Nat) (w1 : World) (m : Nat) (er : Int) (ms : Array Value) (w3 : World) (e : Ending) (w' : World) : Prop :=
  ∃ ms2, e = .returned (.tuple #[.agg ms2, .int .i64 er]) ∧ Hid (ms2.size = 26 ∧ ms2.all (·.oneCell') = true) ∧ Hid (∀ w4, Kept (fun _ => False) w' w4 → Calls Try.prog 16 #[.agg ms, .agg ms2] w4 (YesK w4)) ∧ P2 w1 m w' ∧ Kept (fun g => g = xb) w3 w'
/-- play's end -/
def PP (P2 : World → Nat → World → Prop) (cb xb : Nat) (w : World) (e : Ending) (w' : World) : Prop :=
  e = .returned (.bool true) ∧ ∃ w1 m w2, P2 w1 m w2 ∧ w.heap.size ≤ w1.heap.size ∧ w1.heap.size ≤ m ∧ Kept (fun g => (w.heap.size ≤ g ∧ g < w1.heap.size) ∨ m ≤ g) w2 w' ∧ Kept (fun g => g = cb ∨ g = xb) w w'
set_option maxRecDepth 100000 in
set_option maxHeartbeats 8000000 in
theorem play_0 {w : World} {F : Nat → Prop} {cp xp : Option Addr} {cb xb : Nat} {P : World → Nat → Int → Array Value → World → Prop} {P2 : World → Nat → World → Prop} {R : Rq} {ao : Option Addr} {c : Nat} {os : Array Value}
    (hos : os.size = 32) (o0 : os[0]? = some (.int .u8 0)) (o1 : os[1]? = some (.int .u8 R.kd)) (o2 : os[2]? = some (.slice ao R.ops.length c)) (o3 : os[3]? = some (.int .u32 R.v)) (o4 : os[4]? = some (.int .i64 R.k)) (o5 : os[5]? = some (.int .i64 R.t))
    (hR : ReqIn F w (.slice ao R.ops.length c) R) (hFc : F cb) (hFx : F xb) (hcb : cb < w.heap.size) (hxb : xb < w.heap.size)
    (hcall : ∀ w1 a q, Kept (fun _ => False) w w1 → ReqIn (fun g => g < w.heap.size) w1 (.slice a R.ops.length q) R → Calls Try.prog 8 #[.pointer cp, .agg #[.int .u8 R.kd, .slice a R.ops.length q, .int .u32 R.v, .int .i64 R.k, .int .i64 R.t]] w1 (CP P cb w1))
    (hdoc : ∀ w1 m er ms w2 w3, P w1 m er ms w2 → Kept (fun _ => False) w2 w3 → ReqIn F w3 (.slice ao R.ops.length c) R → Kept (fun g => g = cb) w w3 → Calls Try.prog 22 #[.pointer xp, .agg #[.int .u8 R.kd, .slice ao R.ops.length c, .int .u32 R.v, .int .i64 R.k, .int .i64 R.t]] w3 (DP P2 xb w1 m er ms w3)) :
    Calls Try.prog 13 #[.pointer cp, .pointer xp, .agg os] w (PP P2 cb xb w) := by
  have HR := hid hR; have HCALL := hid hcall; have HDOC := hid hdoc; have HOS := hid hos
  have HQ := hid (show os[0]? = some (.int .u8 0) ∧ os[1]? = some (.int .u8 R.kd) ∧ os[2]? = some (.slice ao R.ops.length c) ∧ os[3]? = some (.int .u32 R.v) ∧ os[4]? = some (.int .i64 R.k) ∧ os[5]? = some (.int .i64 R.t) from ⟨o0, o1, o2, o3, o4, o5⟩)
  have HF := hid (show F cb ∧ F xb ∧ cb < w.heap.size ∧ xb < w.heap.size from ⟨hFc, hFx, hcb, hxb⟩)
  obtain ⟨kd, ops, vv, k, t⟩ := R
  have N0 := hid (row_new w (.cells os 57))
  have K0 := hid ((Kept.refl (fun _ => False) w).alloc (.cells os 57))
  obtain ⟨w0, hw0⟩ : ∃ w0, w.alloc (.cells os 57) = w0 := ⟨_, rfl⟩
  obtain ⟨b, hb⟩ : ∃ b, w.heap.size = b := ⟨_, rfl⟩
  have HB := hid hb
  rw [hw0] at N0 K0
  rw [hb] at N0
  have x0 : w0.cell? ⟨b, 0, none⟩ = some (.int .u8 0) := (row_cell N0.out 0).trans o0
  have x1 : w0.cell? ⟨b, 1, none⟩ = some (.int .u8 kd) := (row_cell N0.out 1).trans o1
  have x2 : w0.cell? ⟨b, 2, none⟩ = some (.slice ao ops.length c) := (row_cell N0.out 2).trans o2
  have x3 : w0.cell? ⟨b, 3, none⟩ = some (.int .u32 vv) := (row_cell N0.out 3).trans o3
  have x4 : w0.cell? ⟨b, 4, none⟩ = some (.int .i64 k) := (row_cell N0.out 4).trans o4
  have x5 : w0.cell? ⟨b, 5, none⟩ = some (.int .i64 t) := (row_cell N0.out 5).trans o5
  have W0 := hid hw0
  clear hR hcall hdoc hos o0 o1 o2 o3 o4 o5 hFc hFx hcb hxb hw0 hb
  go_enter Try.func13, Try.ntmps13
  have hw0 := W0.out
  have hb := HB.out
  go_wp2_with fail
  refine (twinreq_t (R := ⟨kd, ops, vv, k, t⟩) (by exact HR.out.same K0.out)).mono ?_
  rintro e w1 ⟨a1, c1, rfl, hv1, hk1, ht1⟩
  have HV1 := hid hv1; have K1 := hid (K0.out.trans hk1)
  have N1 := hid ((hk1.block _ (row_lt N0.out) (fun h => h)).trans N0.out)
  have hwl := hk1.size
  have L0 := hid (show w0.heap.size = b + 1 by rw [← W0.out]; simp [HB.out])
  have FM1 := hid (Fl.of (r := 1) (G := fun g => b ≤ g ∧ g < w1.heap.size) (by exact hv1.l) ht1 (fun g h1 h2 => by have := L0.out; omega) (.inl rfl))
  have HLB := hid (show b + 1 ≤ w1.heap.size by have := L0.out; omega)
  clear hv1 ht1 hk1 x0 x1 x2 x3 x4 x5 hw0 hwl K0 N0
  go_wp2_with (refine wpList_store_row rfl 31 (.tmp 7) (.tmp 32) rfl #[.int .u8 kd, .slice a1 ops.length c1, .int .u32 vv, .int .i64 k, .int .i64 t] #[.int .u8 0, .slice none 0 0, .int .u32 0, .int .i64 0, .int .i64 0] (by rfl) (by rfl) (by exact row_new w1 _) rfl infoR (by simp [Value.oneCell']) ?_; intro w2 hb2 hk2; have K12 := hid (((Kept.refl (fun _ => False) w1).alloc (.cells #[.int .u8 0, .slice none 0 0, .int .u32 0, .int .i64 0, .int .i64 0] 31)).trans' hk2 (fun g hg => .inr (by rw [hg]; exact Nat.le_refl _))); have R2 := hid hb2; clear hb2 hk2; refine Hid.out ?_)
  refine hid ?_
  obtain ⟨rb, hrb⟩ : ∃ rb, w1.heap.size = rb := ⟨_, rfl⟩
  rw [hrb] at R2 FM1 ⊢
  have HRB := hid hrb
  have HRW := hid (show rb < w2.heap.size from row_lt R2.out)
  have K2 := hid (K1.out.trans K12.out)
  have N2 := hid ((K12.out.block _ (row_lt N1.out) (fun h => h)).trans N1.out)
  have HV2 := hid (HV1.out.same K12.out); have FM2 := hid (FM1.out.kept K12.out (fun _ _ _ h => h))
  obtain ⟨y0, y1, y2, y3, y4, y5⟩ := cells5 R2.out
  clear hrb K1 N1 HV1 FM1 K12 y5
  go_wp2_with fail
  refine (HCALL.out w2 a1 c1 K2.out (HV2.out.mono fun g _ hg => by have := L0.out; show g < w0.heap.size; omega)).mono ?_
  rintro e w3 ⟨m, er, ms, a2, n2, c2, rfl, hms, hfl, hm, hn2, hp, hk3⟩
  have HMS := hms; have FL3 := hid hfl; have HP := hid hp; have HM := hid (show w2.heap.size ≤ m from hm)
  have HN2 := hid hn2
  have hf := HF.out
  have N3 := hid ((hk3.block _ (row_lt N2.out) (by omega)).trans N2.out)
  have l0 := L0.out
  have lrb := HRB.out
  have lw2 := row_lt R2.out
  have lw1 := K2.out.size
  have R3 := hid ((hk3.block _ (row_lt R2.out) (by have := HLB.out; omega)).trans R2.out)
  have HV3 := hid (HV2.out.kept hk3 (fun g _ hg => by show g < w0.heap.size; omega)); have FM3 := hid (FM2.out.kept hk3 (fun g _ hg h => by have := hg.1; omega))
  have K3 := hid ((K2.out.mono (fun _ _ h => h.elim)).trans hk3)
  clear hms hfl hm hp hk3 hn2 y0 y1 y2 y3 y4 R2 N2 HV2 FM2 lw2 lw1 l0 lrb hf HCALL
  go_wp2_with (refine wpList_store_row rfl 44 (.tmp 8) (.tmp 37) rfl ms msgZero.toArray (by rfl) (by rfl) (by exact row_new w3 _) (by rw [HMS.out.1]; rfl) (by rw [HMS.out.1]; exact infoM) HMS.out.2.1 ?_; intro w4 hb4 hk4; have K34 := hid (((Kept.refl (fun _ => False) w3).alloc (.cells msgZero.toArray 44)).trans' hk4 (fun g hg => .inr (by rw [hg]; exact Nat.le_refl _))); have M4 := hid hb4; clear hb4 hk4; refine Hid.out ?_)
  refine hid ?_
  obtain ⟨mb, hmb⟩ : ∃ mb, w3.heap.size = mb := ⟨_, rfl⟩
  rw [hmb] at M4 ⊢
  have HMB := hid hmb
  have HRM := hid (show rb < mb by have := row_lt R3.out; omega)
  have HMBL := hid (show b < mb by have := K3.out.size; have := row_lt N3.out; omega)
  clear hmb
  have N4 := hid ((K34.out.block _ (row_lt N3.out) (fun h => h)).trans N3.out)
  have R4 := hid ((K34.out.block _ (row_lt R3.out) (fun h => h)).trans R3.out)
  have HV4 := hid (HV3.out.same K34.out); have FM4 := hid (FM3.out.kept K34.out (fun _ _ _ h => h))
  have FL4 := hid ((FL3.out.imp (H := fun g => m ≤ g ∧ g < mb) (fun g h1 h2 => ⟨h2, by have := HMB.out; omega⟩)).kept K34.out (fun _ _ _ h => h))
  have K4 := hid (K3.out.trans (K34.out.mono (fun _ _ h => h.elim)))
  have x1 : w4.cell? ⟨b, 1, none⟩ = some (.int .u8 kd) := (row_cell N4.out 1).trans HQ.out.2.1
  have x2 : w4.cell? ⟨b, 2, none⟩ = some (.slice ao ops.length c) := (row_cell N4.out 2).trans HQ.out.2.2.1
  have x3 : w4.cell? ⟨b, 3, none⟩ = some (.int .u32 vv) := (row_cell N4.out 3).trans HQ.out.2.2.2.1
  have x4 : w4.cell? ⟨b, 4, none⟩ = some (.int .i64 k) := (row_cell N4.out 4).trans HQ.out.2.2.2.2.1
  have x5 : w4.cell? ⟨b, 5, none⟩ = some (.int .i64 t) := (row_cell N4.out 5).trans HQ.out.2.2.2.2.2
  clear HV3 FM3 FL3 R3 N3 K3
  go_wp2_with fail
  refine (HDOC.out w2 m er ms w3 w4 HP.out K34.out (HR.out.kept K4.out fun g _ hg => by rw [hg]; exact HF.out.1) K4.out).mono ?_
  rintro e w5 ⟨ms2, rfl, hms2, hsame, hp2, hk5⟩
  have HMS2 := hms2; have HSAME := hsame; have HP2 := hid hp2
  have hf := HF.out
  have hlb := HLB.out
  have hrb := HRB.out
  have hm := HM.out
  have l3 := HMB.out
  have l23 := row_lt N4.out
  have l2 := K2.out.size
  have lrb := row_lt R4.out
  have N5 := hid ((hk5.block _ (row_lt N4.out) (by omega)).trans N4.out)
  have R5 := hid ((hk5.block _ (row_lt R4.out) (by omega)).trans R4.out)
  have hmb3 := HMBL.out
  have M5 := hid ((hk5.block _ (row_lt M4.out) (by omega)).trans M4.out)
  have HV5 := hid (HV4.out.kept hk5 (fun g _ hg => by have := L0.out; show g < w0.heap.size; omega)); have FM5 := hid (FM4.out.kept hk5 (fun g _ hg h => by have := hg.1; omega))
  have FL5 := hid (FL4.out.kept hk5 (fun g _ hg h => by have : m ≤ g := hg.1; omega))
  have K5 := hid ((K4.out.mono (G := fun g => g = cb ∨ g = xb) (fun _ _ h => .inl h)).trans (hk5.mono (fun _ _ h => .inr h)))
  have HR5 := hid ((HR.out.kept K4.out fun g _ hg => by rw [hg]; exact HF.out.1).kept hk5 fun g _ hg => by rw [hg]; exact HF.out.2.1)
  clear hms2 hsame hp2 hk5 x1 x2 x3 x4 x5 N4 R4 M4 HV4 FM4 FL4 K4 HP hf hlb hrb hm l3 l23 l2 lrb hmb3 HDOC
  go_wp2_with (refine wpList_store_row rfl 44 (.tmp 10) (.tmp 44) rfl ms2 msgZero.toArray (by rfl) (by rfl) (by exact row_new w5 _) (by rw [HMS2.out.1]; rfl) (by rw [HMS2.out.1]; exact infoM) HMS2.out.2 ?_; intro w6 hb6 hk6; have K56 := hid (((Kept.refl (fun _ => False) w5).alloc (.cells msgZero.toArray 44)).trans' hk6 (fun g hg => .inr (by rw [hg]; exact Nat.le_refl _))); have D6 := hid hb6; clear hb6 hk6; refine Hid.out ?_)
  refine hid ?_
  obtain ⟨db, hdb⟩ : ∃ db, w5.heap.size = db := ⟨_, rfl⟩
  rw [hdb] at D6 ⊢
  clear hdb
  have N6 := hid ((K56.out.block _ (row_lt N5.out) (fun h => h)).trans N5.out)
  have R6 := hid ((K56.out.block _ (row_lt R5.out) (fun h => h)).trans R5.out)
  have M6 := hid ((K56.out.block _ (row_lt M5.out) (fun h => h)).trans M5.out)
  have HV6 := hid (HV5.out.same K56.out); have FM6 := hid (FM5.out.kept K56.out (fun _ _ _ h => h)); have HR6 := hid (HR5.out.same K56.out)
  have FL6 := hid (FL5.out.kept K56.out (fun _ _ _ h => h))
  have K6 := hid (K5.out.trans (K56.out.mono (fun _ _ h => h.elim)))
  clear HV5 FM5 FL5 R5 N5 M5 K5 HR5
  go_wp2_with (first
    | (refine wpList_load_rowc rfl 44 (.tmp 8) rfl _ rfl M6.out Try.underlying44 rfl (by rw [HMS.out.1]; exact infoM) ?_)
    | (refine wpList_load_rowc rfl 44 (.tmp 10) rfl _ rfl D6.out Try.underlying44 rfl (by rw [HMS2.out.1]; exact infoM) ?_))
  refine (HSAME.out w6 K56.out).mono ?_
  rintro e w7 ⟨rfl, hk7⟩
  have K67 := hid hk7
  have N7 := hid ((K67.out.block _ (row_lt N6.out) (fun h => h)).trans N6.out)
  have R7 := hid ((K67.out.block _ (row_lt R6.out) (fun h => h)).trans R6.out)
  have M7 := hid ((K67.out.block _ (row_lt M6.out) (fun h => h)).trans M6.out)
  have HV7 := hid (HV6.out.same K67.out); have FM7 := hid (FM6.out.kept K67.out (fun _ _ _ h => h)); have HR7 := hid (HR6.out.same K67.out)
  have FL7 := hid (FL6.out.kept K67.out (fun _ _ _ h => h))
  have K7 := hid (K6.out.trans (K67.out.mono (fun _ _ h => h.elim)))
  obtain ⟨y0, y1, y2, y3, y4, y5⟩ := cells5 R7.out
  have x1 : w7.cell? ⟨b, 1, none⟩ = some (.int .u8 kd) := (row_cell N7.out 1).trans HQ.out.2.1
  have x2 : w7.cell? ⟨b, 2, none⟩ = some (.slice ao ops.length c) := (row_cell N7.out 2).trans HQ.out.2.2.1
  have x3 : w7.cell? ⟨b, 3, none⟩ = some (.int .u32 vv) := (row_cell N7.out 3).trans HQ.out.2.2.2.1
  have x4 : w7.cell? ⟨b, 4, none⟩ = some (.int .i64 k) := (row_cell N7.out 4).trans HQ.out.2.2.2.2.1
  have x5 : w7.cell? ⟨b, 5, none⟩ = some (.int .i64 t) := (row_cell N7.out 5).trans HQ.out.2.2.2.2.2
  clear hk7 HV6 FM6 FL6 R6 N6 M6 K6 HR6 D6 y5
  go_wp2_with fail
  refine (same_req (L := ops) (by exact HV7.out.l) (by exact HR7.out.l) rfl).mono ?_
  rintro e w8 ⟨rfl, hk8⟩
  have K78 := hid hk8
  have R8 := hid ((K78.out.block _ (row_lt R7.out) (fun h => h)).trans R7.out)
  have M8 := hid ((K78.out.block _ (row_lt M7.out) (fun h => h)).trans M7.out)
  have FL8 := hid (FL7.out.kept K78.out (fun _ _ _ h => h)); have FM8 := hid (FM7.out.kept K78.out (fun _ _ _ h => h))
  have K8 := hid (K7.out.trans (K78.out.mono (fun _ _ h => h.elim)))
  have K58 := hid ((K56.out.trans K67.out).trans K78.out)
  have HBN := hid (show ops.length * 48 ≤ 140737488351232 from HR.out.b)
  obtain ⟨y0, y1, y2, y3, y4, y5⟩ := cells5 R8.out
  clear hk8 x1 x2 x3 x4 x5 HV7 HR7 R7 M7 FL7 FM7 N7 K7 K78 K67 K56 y0 y2 y3 y4 y5 HSAME
  go_wp2_with fail
  go_loopw [63] (fun i wr => ∃ j : Nat, j ≤ ops.length ∧ i = .int .i64 j ∧ Fl (fun g => b ≤ g ∧ g < rb) 7 wr a1 ops.length 1 ∧ Kept (fun g => b ≤ g ∧ g < rb) w8 wr) (fun i _ => ops.length - (intOf i).toNat)
  case atStart => exact ⟨0, Nat.zero_le _, rfl, FM8.out, Kept.refl _ _⟩
  case round =>
    rename World => wr
    obtain ⟨j, hj, rfl, hfl, hkp⟩ := hrel
    have FR := hid hfl; have KR := hid hkp
    clear hfl hkp
    have l8 := row_lt R8.out
    have RR := hid ((KR.out.block _ l8 (by omega)).trans R8.out)
    clear l8
    by_cases hlt : j < ops.length
    · have hltI : (j : Int) < (ops.length : Int) := by omega
      have hbN := HBN.out
      obtain ⟨y0, y1, y2, y3, y4, y5⟩ := cells5 RR.out
      obtain ⟨g, o, u, rfl, hG, hgs, hc, hf⟩ := FR.out j hlt
      have HG := hid hG
      clear hG y0 y2 y3 y4 y5
      go_wp2
      go_roundw
      case rel => exact ⟨j + 1, by omega, by go_num, FR.out.set (by decide) _, KR.out.setCell (.inl HG.out) _⟩
      case measure => (simp only [intOf]; omega)
    · have l8 := row_lt M8.out
      have MR := hid ((KR.out.block _ l8 (by have := HRM.out; omega)).trans M8.out)
      have zr : wr.cell? ⟨mb, 11, none⟩ = some (.slice a2 n2 c2) := (row_cell MR.out 11).trans HMS.out.2.2
      have KR5 := hid ((K58.out.mono (fun _ _ h => h.elim)).trans KR.out)
      have KR0 := hid (K8.out.trans' KR.out (fun g hg => .inr (by have := HB.out; omega)))
      have FR8 := hid (FL8.out.kept KR.out (fun g _ h1 h2 => by have := HM.out; have := HRB.out; have := HRW.out; omega))
      clear l8 K8 FL8 FM8 FR KR y1 K58
      go_wp2_with fail
      go_loopw [80] (fun i wz => ∃ j : Nat, j ≤ n2 ∧ i = .int .i64 j ∧ Fl (fun g => m ≤ g ∧ g < mb) 7 wz a2 n2 2 ∧ Kept (fun g => m ≤ g ∧ g < mb) wr wz) (fun i _ => n2 - (intOf i).toNat)
      case atStart => exact ⟨0, Nat.zero_le _, rfl, FR8.out, Kept.refl _ _⟩
      case round =>
        rename World => wz
        obtain ⟨j, hj, rfl, hfl, hkp⟩ := hrel
        have FZ := hid hfl; have KZ := hid hkp
        clear hfl hkp zr
        have lr := row_lt MR.out
        have MZ := hid ((KZ.out.block _ lr (by omega)).trans MR.out)
        clear lr
        by_cases hlt : j < n2
        · have hltI : (j : Int) < (n2 : Int) := by omega
          have hbN := HN2.out
          have zz : wz.cell? ⟨mb, 11, none⟩ = some (.slice a2 n2 c2) := (row_cell MZ.out 11).trans HMS.out.2.2
          obtain ⟨g, o, u, rfl, hG, hgs, hc, hf⟩ := FZ.out j hlt
          have HG := hid hG
          clear hG
          go_wp2
          go_roundw
          case rel => exact ⟨j + 1, by omega, by go_num, FZ.out.set (by decide) _, KZ.out.setCell (.inl HG.out) _⟩
          case measure => (simp only [intOf]; omega)
        · go_wp2
          go_ret
          refine ⟨rfl, w2, m, w5, HP2.out, ?_, HM.out, ?_, ?_⟩
          · exact K2.out.size
          · refine (KR5.out.mono (fun g _ h => .inl ?_)).trans (KZ.out.mono (fun g _ h => .inr h.1))
            have := HB.out; have := HRW.out
            omega
          · exact KR0.out.trans' KZ.out (fun g hg => .inr (by have := HM.out; have := K2.out.size; omega))
end Go.Proofs.Ytnlbdlbinoebgaa
