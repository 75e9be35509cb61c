/- play, kind 2: an answer comes. -/
import Derived.Test.YtnlbdlbinoebgaaZg
namespace Go.Proofs.Ytnlbdlbinoebgaa
open Go.RowKit
section
variable {P : Program} {w : World} {ops : Array Oper} {rest : List Oper} {op : Oper} {a : Act} {Q : Exit → Act → World → Prop} {b : Nat} {T : TypeId}
/-- some cells of a row are loaded by a guarded operation that is wanted -/
theorem wpList_load_midg (hwt : Region.wanted op (yielded ops a.tmps) = true) (ty : TypeId) (x : Operand) (ho : op.op = .load ty x) (o : Nat) (cells : Array Value) (d : TypeDesc) (hx : a.eval x = .pointer (some ⟨b, o, none⟩)) (hr : w.rangeAt b o cells.toList) (hu : P.underlying ty = some d) (hd : d.isRow = true) (hi : (P.info? ty).map (·.size) = some cells.size)
    (h : wpList P ops Q rest (a.put op.dst (.agg cells)) w) : wpList P ops Q (op :: rest) a w := by
  refine wpList_step fun K hK => ?_
  rw [if_pos hwt]
  refine wp_load_mid ty x ho b o hx cells.toList d hr hu hd (by simpa using hi) ?_
  rw [Array.toArray_toList]
  exact hK _ _ h
end
theorem MsgIn.mono {F G : Nat → Prop} {w : World} {rk rv rn rt : Int} {oa va la wa xa da na : Option Addr} {oq vq lq wq xq dq nq : Nat} {ops : List O} {V : List Val} {L : List Int} {WL : List (Int × Int)} {X : List Vt} {D : List (Int × Int × Int)} {NB : List Int} (h : MsgIn F w rk rv rn rt oa va la wa xa da na oq vq lq wq xq dq nq ops V L WL X D NB) (hg : ∀ g, g < w.heap.size → G g → F g) : MsgIn G w rk rv rn rt oa va la wa xa da na oq vq lq wq xq dq nq ops V L WL X D NB :=
  ⟨h.ho.mono hg, h.hv.mono hg, h.hl.mono hg, h.hw.mono hg, h.hx.mono hg, h.hd.mono hg, h.hn.mono hg, h.bv, h.bl, h.bw, h.bd, h.bn⟩
theorem MsgIn.kept {F G : Nat → Prop} {w w' : World} {rk rv rn rt : Int} {oa va la wa xa da na : Option Addr} {oq vq lq wq xq dq nq : Nat} {ops : List O} {V : List Val} {L : List Int} {WL : List (Int × Int)} {X : List Vt} {D : List (Int × Int × Int)} {NB : List Int} (h : MsgIn F w rk rv rn rt oa va la wa xa da na oq vq lq wq xq dq nq ops V L WL X D NB) (k : Kept G w w') (hg : ∀ g, g < w.heap.size → G g → F g) : MsgIn F w' rk rv rn rt oa va la wa xa da na oq vq lq wq xq dq nq ops V L WL X D NB :=
  ⟨h.ho.kept k hg, h.hv.kept k hg, h.hl.kept k hg, h.hw.kept k hg, h.hx.kept k hg, h.hd.kept k hg, h.hn.kept k hg, h.bv, h.bl, h.bw, h.bd, h.bn⟩
def ansA (ae ap : Int) (va la : Option Addr) (n vq m lq : Nat) : Array Value := #[.int .i64 ae, .int .i64 ap, .slice va n vq, .slice la m lq]
/-- Receive's answer, for play -/
def RP (P : World → Bool → Int → Int → List Val → List Int → World → Prop) (cb : Nat) (w1 : World) (e : Ending) (w' : World) : Prop :=
  ∃ ok ae ap V L va vq la lq, e = .returned (.tuple #[.agg (ansA ae ap va la (List.length V) vq (List.length L) lq), .bool ok]) ∧ Lies (fun g => g < w1.heap.size) w' 3 (.slice va V.length vq) V.length (V.flatMap vcell) ∧ Lies (fun g => g < w1.heap.size) w' 1 (.slice la L.length lq) L.length (L.flatMap nuC) ∧ Fl (fun g => w1.heap.size ≤ g) 1 w' la L.length 0 ∧ L.length ≤ 9223372036854775807 ∧ P w1 ok ae ap V L w' ∧ Kept (fun g => g = cb) w1 w'
def RD (P2 : World → World → Prop) (F : Nat → Prop) (xb : Nat) (w1 : World) (ok : Bool) (ae ap : Int) (V : List Val) (L : List Int) (w3 : World) (e : Ending) (w' : World) : Prop :=
  ∃ va vq la lq, e = .returned (.tuple #[.agg (ansA ae ap va la V.length vq L.length lq), .bool ok]) ∧ Lies F w' 3 (.slice va V.length vq) V.length (V.flatMap vcell) ∧ Lies F w' 1 (.slice la L.length lq) L.length (L.flatMap nuC) ∧ P2 w1 w' ∧ Kept (fun g => g = xb) w3 w'
def PR (P2 : World → World → Prop) (cb xb : Nat) (w : World) (e : Ending) (w' : World) : Prop :=
  e = .returned (.bool true) ∧ ∃ w1 w2, P2 w1 w2 ∧ w.heap.size ≤ w1.heap.size ∧ Kept (fun g => w1.heap.size ≤ g) w2 w' ∧ Kept (fun g => g = cb ∨ g = xb) w w'
set_option maxRecDepth 100000 in
set_option maxHeartbeats 8000000 in
theorem play_2 {w : World} {F : Nat → Prop} {cp xp : Option Addr} {cb xb : Nat} {P : World → Bool → Int → Int → List Val → List Int → World → Prop} {P2 : World → World → Prop} {os ms : Array Value} {m0 m1 m2 m3 m4 m5 m6 m7 m8 m9 rk rv rn rt ae ap m23 m24 m25 : Int} {oa va la wa xa da na : Option Addr} {oq vq lq wq xq dq nq : Nat} {ops : List O} {V : List Val} {L : List Int} {WL : List (Int × Int)} {X : List Vt} {D : List (Int × Int × Int)} {NB : List Int}
    (hms : Hid (ms = #[.int .u8 m0, .int .u8 m1, .int .u8 m2, .int .u8 m3, .int .u32 m4, .int .u32 m5, .int .u64 m6, .int .u32 m7, .int .u8 m8, .int .u32 m9, .int .u8 rk, .slice oa (List.length ops) oq, .int .u32 rv, .int .i64 rn, .int .i64 rt, .int .i64 ae, .int .i64 ap, .slice va (List.length V) vq, .slice la (List.length L) lq, .slice wa (List.length WL) wq, .slice xa (List.length X) xq, .slice da (List.length D) dq, .slice na (List.length NB) nq, .int .u64 m23, .int .u64 m24, .int .i64 m25])) (hM : MsgIn F w rk rv rn rt oa va la wa xa da na oq vq lq wq xq dq nq ops V L WL X D NB)
    (o0 : os[0]? = some (.int .u8 2)) (hmid : ∀ j u, ms.toList[j]? = some u → os[6 + j]? = some u)
    (hFc : F cb) (hFx : F xb) (hcb : cb < w.heap.size) (hxb : xb < w.heap.size)
    (hrc : ∀ w1 (ms' : Array Value) oa va la wa xa da na oq vq lq wq xq dq nq, Hid (ms' = #[.int .u8 m0, .int .u8 m1, .int .u8 m2, .int .u8 m3, .int .u32 m4, .int .u32 m5, .int .u64 m6, .int .u32 m7, .int .u8 m8, .int .u32 m9, .int .u8 rk, .slice oa (List.length ops) oq, .int .u32 rv, .int .i64 rn, .int .i64 rt, .int .i64 ae, .int .i64 ap, .slice va (List.length V) vq, .slice la (List.length L) lq, .slice wa (List.length WL) wq, .slice xa (List.length X) xq, .slice da (List.length D) dq, .slice na (List.length NB) nq, .int .u64 m23, .int .u64 m24, .int .i64 m25]) → Kept (fun _ => False) w w1 → MsgIn (fun g => g < w.heap.size) w1 rk rv rn rt oa va la wa xa da na oq vq lq wq xq dq nq ops V L WL X D NB → Calls Try.prog 11 #[.pointer cp, .agg ms'] w1 (RP P cb w1))
    (hrd : ∀ w1 ok ae ap V' L' w2 w3, P w1 ok ae ap V' L' w2 → Kept (fun _ => False) w2 w3 → MsgIn F w3 rk rv rn rt oa va la wa xa da na oq vq lq wq xq dq nq ops V L WL X D NB → Kept (fun g => g = cb) w w3 → Calls Try.prog 25 #[.pointer xp, .agg ms] w3 (RD P2 F xb w1 ok ae ap V' L' w3)) :
    Calls Try.prog 13 #[.pointer cp, .pointer xp, .agg os] w (PR P2 cb xb w) := by
  have HMS := hms; have HMI := hid (hM.mono (G := fun g => F g ∨ w.heap.size ≤ g) (fun g hg h => h.elim id (fun h => absurd hg (Nat.not_lt_of_le h)))); have HRC := hid hrc; have HRD := hid hrd; have HMID := hid hmid
  have HF := hid (show F cb ∧ F xb ∧ cb < w.heap.size ∧ xb < w.heap.size from ⟨hFc, hFx, hcb, hxb⟩)
  have HS := hid (show 26 = ms.size by rw [hms.out]; rfl)
  have N0 := hid (row_new w (.cells os 57))
  have K0 := hid ((Kept.refl (fun _ => False) w).alloc (.cells os 57))
  obtain ⟨w0, hw0⟩ : ∃ w0, w.alloc (.cells os 57) = w0 := ⟨_, rfl⟩
  obtain ⟨b, hb⟩ : ∃ b, w.heap.size = b := ⟨_, rfl⟩
  have HB := hid hb
  rw [hw0] at N0 K0
  rw [hb] at N0
  have x0 : w0.cell? ⟨b, 0, none⟩ = some (.int .u8 2) := (row_cell N0.out 0).trans o0
  have W0 := hid hw0
  have HRG := hid (fun (w' : World) (h : w'.heap[b]? = some (.cells os 57 (0, 0))) => show w'.rangeAt b 6 ms.toList from fun j u hj => (row_cell h (6 + j)).trans (HMID.out j u hj))
  clear hms hM hrc hrd hmid hFc hFx hcb hxb o0 hw0 hb HMID
  go_enter Try.func13, Try.ntmps13
  have hw0 := W0.out
  have hb := HB.out
  go_wp2_with (refine wpList_load_midg (by rfl) 44 (.tmp 117) rfl 6 ms _ rfl (HRG.out _ N0.out) Try.underlying44 rfl (by rw [← HS.out]; exact infoM) ?_)
  refine (twin_ms HMS (by exact HMI.out.same K0.out)).mono ?_
  rintro e w1 ⟨ms', oa', va', la', wa', xa', da', na', oq', vq', lq', wq', xq', dq', nq', rfl, HMS', hM', hk1⟩
  have M1 := hid hM'; have K1 := hid (K0.out.trans hk1)
  have N1 := hid ((hk1.block _ (row_lt N0.out) (fun h => h)).trans N0.out)
  have L0 := hid (show w0.heap.size = b + 1 by rw [← W0.out]; simp [HB.out])
  have HS' := hid (show 26 = ms'.size by rw [HMS'.out]; rfl)
  have H1' := hid (show ms'.all (·.oneCell') = true by rw [HMS'.out]; simp [Value.oneCell'])
  have HLB := hid (show b + 1 ≤ w1.heap.size by have := L0.out; have := hk1.size; omega)
  clear hM' hk1 x0 hw0 N0
  go_wp2_with (refine wpList_store_row rfl 44 (.tmp 19) (.tmp 119) rfl ms' msgZero.toArray (by rfl) (by rfl) (by exact row_new w1 _) (by rw [← HS'.out]; rfl) (by rw [← HS'.out]; exact infoM) H1'.out ?_; intro w2 hb2 hk2; have K12 := hid (((Kept.refl (fun _ => False) w1).alloc (.cells msgZero.toArray 44)).trans' hk2 (fun g hg => .inr (by rw [hg]; exact Nat.le_refl _))); have R2 := hid hb2; clear hb2 hk2; refine Hid.out ?_)
  refine hid ?_
  obtain ⟨rb, hrb⟩ : ∃ rb, w1.heap.size = rb := ⟨_, rfl⟩
  rw [hrb] at R2 ⊢
  have HRB := hid hrb
  have K2 := hid (K1.out.trans K12.out)
  have N2 := hid ((K12.out.block _ (row_lt N1.out) (fun h => h)).trans N1.out)
  have M2 := hid ((M1.out.same K12.out).mono (G := fun g => g < w0.heap.size ∨ w2.heap.size ≤ g) (fun g hg h => by show g < w0.heap.size; omega))
  clear hrb K1 N1 M1 K12
  go_wp2_with (refine wpList_load_rowc rfl 44 (.tmp 19) rfl _ rfl R2.out Try.underlying44 rfl (by rw [← HS'.out]; exact infoM) ?_)
  refine (HRC.out w2 ms' _ _ _ _ _ _ _ _ _ _ _ _ _ _ HMS' K2.out (M2.out.mono fun g _ hg => by have := L0.out; show g < w0.heap.size ∨ _; omega)).mono ?_
  rintro e w3 ⟨ok, ae3, ap3, V3, L3, va3, vq3, la3, lq3, rfl, hv3, hl3, hfl, hn3, hp, hk3⟩
  have HV3 := hid hv3; have HL3 := hid hl3; have FL3 := hid hfl; have HN3 := hid hn3; have HP := hid hp
  have hf := HF.out
  have hlb := HLB.out
  have hrb := HRB.out
  have l2 := K2.out.size
  have lrb := row_lt R2.out
  have HRW := hid (show rb < w2.heap.size from row_lt R2.out)
  have L23 := hid hk3.size
  have N3 := hid ((hk3.block _ (row_lt N2.out) (by omega)).trans N2.out)
  have R3 := hid ((hk3.block _ (row_lt R2.out) (by omega)).trans R2.out)
  have M3 := hid (M2.out.kept (G := fun g => g = cb) hk3 (fun g _ hg => by have := L0.out; show g < w0.heap.size ∨ _; omega))
  have K3 := hid ((K2.out.mono (fun _ _ h => h.elim)).trans hk3)
  clear hv3 hl3 hfl hn3 hp hk3 hf hlb hrb l2 lrb N2 R2 M2 HRC
  go_wp2_with (refine wpList_store_row rfl 38 (.tmp 20) (.tmp 124) rfl (ansA ae3 ap3 va3 la3 V3.length vq3 L3.length lq3) #[.int .i64 0, .int .i64 0, .slice none 0 0, .slice none 0 0] (by rfl) (by rfl) (by exact row_new w3 _) rfl infoAn (by simp [ansA, Value.oneCell']) ?_; intro w4 hb4 hk4; have K34 := hid (((Kept.refl (fun _ => False) w3).alloc (.cells #[.int .i64 0, .int .i64 0, .slice none 0 0, .slice none 0 0] 38)).trans' hk4 (fun g hg => .inr (by rw [hg]; exact Nat.le_refl _))); have A4 := hid hb4; clear hb4 hk4; refine Hid.out ?_)
  refine hid ?_
  obtain ⟨ab, hab⟩ : ∃ ab, w3.heap.size = ab := ⟨_, rfl⟩
  rw [hab] at A4 ⊢
  have HAB := hid hab
  have FL4 := hid ((FL3.out.imp (H := fun g => w2.heap.size ≤ g ∧ g < ab) (fun g h1 h2 => ⟨h2, by omega⟩)).kept K34.out (fun _ _ _ h => h))
  clear hab
  have N4 := hid ((K34.out.block _ (row_lt N3.out) (fun h => h)).trans N3.out)
  have R4 := hid ((K34.out.block _ (row_lt R3.out) (fun h => h)).trans R3.out)
  have M4 := hid (M3.out.same K34.out)
  have HV4 := hid (HV3.out.same K34.out); have HL4 := hid (HL3.out.same K34.out)
  have K4 := hid (K3.out.trans (K34.out.mono (fun _ _ h => h.elim)))
  have HO4 := hid (HMI.out.kept K4.out (fun g _ hg => by rw [hg]; exact .inl HF.out.1))
  clear HV3 HL3 FL3 R3 N3 K3 M3
  go_wp2_with (refine wpList_load_midg (by rfl) 44 (.tmp 128) rfl 6 ms _ rfl (HRG.out _ N4.out) Try.underlying44 rfl (by rw [← HS.out]; exact infoM) ?_)
  refine (HRD.out w2 ok ae3 ap3 V3 L3 w3 w4 HP.out K34.out (HO4.out.mono fun g _ h => .inl h) K4.out).mono ?_
  rintro e w5 ⟨vb, vqb, lb, lqb, rfl, hv5, hl5, hp2, hk5⟩
  have HVB := hid hv5; have HLS := hid hl5; have HP2 := hid hp2
  have hf := HF.out
  have hlb := HLB.out
  have hrb := HRB.out
  have hwb := HB.out
  have l3 := HAB.out
  have l23 := L23.out
  have hrw := HRW.out
  have N5 := hid ((hk5.block _ (row_lt N4.out) (by omega)).trans N4.out)
  have R5 := hid ((hk5.block _ (row_lt R4.out) (by omega)).trans R4.out)
  have A5 := hid ((hk5.block _ (row_lt A4.out) (by omega)).trans A4.out)
  have M5 := hid (M4.out.kept (G := fun g => g = xb) hk5 (fun g _ hg => by have := L0.out; show g < w0.heap.size ∨ _; omega))
  have HO5 := hid (HO4.out.kept (G := fun g => g = xb) hk5 (fun g _ hg => by rw [hg]; exact .inl HF.out.2.1))
  have HV5 := hid (HV4.out.kept (G := fun g => g = xb) hk5 (fun g _ hg => by show g < w2.heap.size; omega)); have HL5 := hid (HL4.out.kept (G := fun g => g = xb) hk5 (fun g _ hg => by show g < w2.heap.size; omega))
  have FL5 := hid (FL4.out.kept hk5 (fun g _ hg h => by have := hg.1; omega))
  have K5 := hid ((K4.out.mono (G := fun g => g = cb ∨ g = xb) (fun _ _ h => .inl h)).trans (hk5.mono (fun _ _ h => .inr h)))
  clear hv5 hl5 hp2 hk5 N4 R4 A4 M4 HV4 HL4 FL4 K4 HO4 HP hf hlb hrb l3 l23 hrw hwb HRD
  go_wp2_with (refine wpList_store_row rfl 38 (.tmp 22) (.tmp 131) rfl (ansA ae3 ap3 vb lb V3.length vqb L3.length lqb) #[.int .i64 0, .int .i64 0, .slice none 0 0, .slice none 0 0] (by rfl) (by rfl) (by exact row_new w5 _) rfl infoAn (by simp [ansA, Value.oneCell']) ?_; intro w6 hb6 hk6; have K56 := hid (((Kept.refl (fun _ => False) w5).alloc (.cells #[.int .i64 0, .int .i64 0, .slice none 0 0, .slice none 0 0] 38)).trans' hk6 (fun g hg => .inr (by rw [hg]; exact Nat.le_refl _))); have D6 := hid hb6; clear hb6 hk6; refine Hid.out ?_)
  refine hid ?_
  obtain ⟨db, hdb⟩ : ∃ db, w5.heap.size = db := ⟨_, rfl⟩
  rw [hdb] at D6 ⊢
  clear hdb
  have N6 := hid ((K56.out.block _ (row_lt N5.out) (fun h => h)).trans N5.out)
  have R6 := hid ((K56.out.block _ (row_lt R5.out) (fun h => h)).trans R5.out)
  have A6 := hid ((K56.out.block _ (row_lt A5.out) (fun h => h)).trans A5.out)
  have M6 := hid (M5.out.same K56.out); have HO6 := hid (HO5.out.same K56.out)
  have HV6 := hid (HV5.out.same K56.out); have HL6 := hid (HL5.out.same K56.out); have VB6 := hid (HVB.out.same K56.out); have LS6 := hid (HLS.out.same K56.out)
  have FL6 := hid (FL5.out.kept K56.out (fun _ _ _ h => h))
  have K6 := hid (K5.out.trans (K56.out.mono (fun _ _ h => h.elim)))
  clear HV5 HL5 FL5 R5 N5 M5 K5 HO5 A5 HVB HLS
  go_wp2_with (first
    | (refine wpList_load_rowc rfl 38 (.tmp 20) rfl _ rfl A6.out Try.underlying38 rfl (by exact infoAn) ?_)
    | (refine wpList_load_rowc rfl 38 (.tmp 22) rfl _ rfl D6.out Try.underlying38 rfl (by exact infoAn) ?_))
  refine (same_ans HV6.out VB6.out rfl HL6.out LS6.out rfl).mono ?_
  rintro e w7 ⟨rfl, hk7⟩
  have K67 := hid hk7
  have N7 := hid ((K67.out.block _ (row_lt N6.out) (fun h => h)).trans N6.out)
  have R7 := hid ((K67.out.block _ (row_lt R6.out) (fun h => h)).trans R6.out)
  have A7 := hid ((K67.out.block _ (row_lt A6.out) (fun h => h)).trans A6.out)
  have M7 := hid (M6.out.same K67.out); have HO7 := hid (HO6.out.same K67.out)
  have FL7 := hid (FL6.out.kept K67.out (fun _ _ _ h => h))
  have K7 := hid (K6.out.trans (K67.out.mono (fun _ _ h => h.elim)))
  have K57 := hid (K56.out.trans K67.out)
  clear hk7 HV6 HL6 VB6 LS6 FL6 R6 N6 M6 K6 HO6 D6 A6 K56 K67
  have hok : (ok == ok) = true := by cases ok <;> rfl
  go_wp2_with (first
    | (refine wpList_load_rowg (by rfl) 44 (.tmp 19) rfl _ rfl R7.out Try.underlying44 rfl (by rw [← HS'.out]; exact infoM) ?_)
    | (refine wpList_load_midg (by rfl) 44 (.tmp 143) rfl 6 ms _ rfl (HRG.out _ N7.out) Try.underlying44 rfl (by rw [← HS.out]; exact infoM) ?_))
  refine (same_ms HMS' HMS M7.out HO7.out).mono ?_
  rintro e w8 ⟨rfl, hk8⟩
  have K78 := hid hk8
  have N8 := hid ((K78.out.block _ (row_lt N7.out) (fun h => h)).trans N7.out)
  have R8 := hid ((K78.out.block _ (row_lt R7.out) (fun h => h)).trans R7.out)
  have A8 := hid ((K78.out.block _ (row_lt A7.out) (fun h => h)).trans A7.out)
  have M8 := hid (M7.out.same K78.out); have HO8 := hid (HO7.out.same K78.out)
  have FL8 := hid (FL7.out.kept K78.out (fun _ _ _ h => h))
  have K8 := hid (K7.out.trans (K78.out.mono (fun _ _ h => h.elim)))
  have K58 := hid (K57.out.trans K78.out)
  have z3 : w8.cell? ⟨ab, 3, none⟩ = some (.slice la3 L3.length lq3) := row_cell A8.out 3
  clear hk8 FL7 R7 N7 M7 K7 HO7 A7 K57 K78 hok
  go_wp2_with fail
  go_loopw [150] (fun i wr => ∃ j : Nat, j ≤ L3.length ∧ i = .int .i64 j ∧ Fl (fun g => w2.heap.size ≤ g ∧ g < ab) 1 wr la3 L3.length 0 ∧ Kept (fun g => w2.heap.size ≤ g ∧ g < ab) w8 wr) (fun i _ => L3.length - (intOf i).toNat)
  case atStart => exact ⟨0, Nat.zero_le _, rfl, FL8.out, Kept.refl _ _⟩
  case round =>
    rename World => wr
    obtain ⟨j, hj, rfl, hfl, hkp⟩ := hrel
    have FR := hid hfl; have KR := hid hkp
    clear hfl hkp z3
    have l8 := row_lt A8.out
    have AR := hid ((KR.out.block _ l8 (by omega)).trans A8.out)
    clear l8
    by_cases hlt : j < L3.length
    · have hltI : (j : Int) < (L3.length : Int) := by omega
      have hbN := HN3.out
      have zz : wr.cell? ⟨ab, 3, none⟩ = some (.slice la3 L3.length lq3) := row_cell AR.out 3
      obtain ⟨g, o, u, rfl, hG, hgs, hc, hf⟩ := FR.out j hlt
      simp only [Nat.mul_one, Nat.add_zero] at hc hf
      have HG := hid hG
      have HST := hid (fun z => by have := FR.out.set (k := j) (by decide) z; simpa only [Nat.mul_one, Nat.add_zero] using this)
      clear hG
      go_wp2
      go_roundw
      case rel => exact ⟨j + 1, by omega, by go_num, HST.out _, KR.out.setCell (.inl HG.out) _⟩
      case measure => (simp only [intOf]; omega)
    · have l8 := row_lt R8.out
      have l9 := row_lt N8.out
      have hrw := HRW.out
      have hlb := HLB.out
      have hrb := HRB.out
      have RR := hid ((KR.out.block _ l8 (by omega)).trans R8.out)
      have NR := hid ((KR.out.block _ l9 (by omega)).trans N8.out)
      have MR := hid (M8.out.kept KR.out (fun g _ hg => .inr hg.1))
      have HOR := hid (HO8.out.kept KR.out (fun g _ hg => .inr (by have := HB.out; have := hg.1; omega)))
      have KR5 := hid ((K58.out.mono (fun _ _ h => h.elim)).trans KR.out)
      have KR0 := hid (K8.out.trans' KR.out (fun g hg => .inr (by have := HB.out; have := hg.1; omega)))
      clear l8 l9 hrw hlb hrb K8 FL8 FR KR K58 A8 R8 N8 M8 HO8 AR
      go_wp2_with (first
        | (refine wpList_load_rowg (by rfl) 44 (.tmp 19) rfl _ rfl RR.out Try.underlying44 rfl (by rw [← HS'.out]; exact infoM) ?_)
        | (refine wpList_load_midg (by rfl) 44 (.tmp 164) rfl 6 ms _ rfl (HRG.out _ NR.out) Try.underlying44 rfl (by rw [← HS.out]; exact infoM) ?_))
      refine (same_ms HMS' HMS MR.out HOR.out).mono ?_
      rintro e w9 ⟨rfl, hk9⟩
      have K9 := hid hk9
      clear hk9
      go_wp2
      go_ret
      refine ⟨rfl, w2, w5, HP2.out, K2.out.size, ?_, KR0.out.trans (K9.out.mono (fun _ _ h => h.elim))⟩
      exact (KR5.out.mono (fun g _ h => h.1)).trans (K9.out.mono (fun _ _ h => h.elim))
end Go.Proofs.Ytnlbdlbinoebgaa
