/- The walk of ClientOne. -/
import Derived.Test.YtnlbdlbinoebgaaR
namespace Go.Proofs.Ytnlbdlbinoebgaa
open Go.RowKit
theorem Lies.nilv {F : Nat → Prop} {w : World} {s : Nat} : Lies F w s (.slice none 0 0) 0 [] := Lies.nil F w s
theorem verts_nil {F : Nat → Prop} {w : World} : VertsIn F w (.slice none 0 0) (([] : List Vt).map vxOf) := ⟨⟨[], rfl, Lies.nil F w 4, fun i x p h => by simp at h⟩, by decide⟩
/-- two messages of one call are alike -/
theorem same_sent {F F' : Nat → Prop} {w : World} {id tt seq : Int} {R : Rq} {a b : Option Addr} {c d : Nat} (h : ReqIn F w (.slice a R.ops.length c) R) (h' : ReqIn F' w (.slice b R.ops.length d) R) :
    Calls Try.prog 16 #[.agg (msgCells id tt seq R (.slice a R.ops.length c)).toArray, .agg (msgCells id tt seq R (.slice b R.ops.length d)).toArray] w fun e w' => e = .returned (.bool true) ∧ Kept (fun _ => False) w w' :=
  same_msg (m0 := 1) (m1 := id) (m2 := tt) (m3 := 0) (m4 := 0) (m5 := 0) (m6 := 0) (m7 := 0) (m8 := id) (m9 := seq) (rk := R.kd) (rv := R.v) (rn := R.k) (rt := R.t) (ae := 0) (ap := 0) (m23 := 0) (m24 := 0) (m25 := 0) (ops := R.ops) (V := []) (L := []) (WL := []) (D := []) (NB := []) (X := [])
    h.l h'.l (Lies.nil F w 3) (Lies.nil F' w 3) rfl (Lies.nil F w 1) (Lies.nil F' w 1) rfl (Lies.nil F w 2) (Lies.nil F' w 2) rfl verts_nil verts_nil (Lies.nil F w 3) (Lies.nil F' w 3) rfl (Lies.nil F w 1) (Lies.nil F' w 1) rfl
theorem MsgIn.same {F : Nat → Prop} {w w' : World} {rk rv rn rt : Int} {oa va la wa xa da na : Option Addr} {oq vq lq wq xq dq nq : Nat} {ops : List O} {V : List Val} {L : List Int} {WL : List (Int × Int)} {X : List Vt} {D : List (Int × Int × Int)} {NB : List Int} (h : MsgIn F w rk rv rn rt oa va la wa xa da na oq vq lq wq xq dq nq ops V L WL X D NB) (k : Kept (fun _ => False) w w') : MsgIn F w' rk rv rn rt oa va la wa xa da na oq vq lq wq xq dq nq ops V L WL X D NB :=
  ⟨h.ho.same k, h.hv.same k, h.hl.same k, h.hw.same k, h.hx.same k, h.hd.same k, h.hn.same k, h.bv, h.bl, h.bw, h.bd, h.bn⟩
/-- twin_msg at opaque cells -/
theorem twin_ms {w : World} {F : Nat → Prop} {ms : Array Value} {m0 m1 m2 m3 m4 m5 m6 m7 m8 m9 rk rv rn rt ae ap m23 m24 m25 : Int} {oa va la wa xa da na : Option Addr} {oq vq lq wq xq dq nq : Nat} {ops : List O} {V : List Val} {L : List Int} {WL : List (Int × Int)} {X : List Vt} {D : List (Int × Int × Int)} {NB : List Int}
    (hms : Hid (ms = #[.int .u8 m0, .int .u8 m1, .int .u8 m2, .int .u8 m3, .int .u32 m4, .int .u32 m5, .int .u64 m6, .int .u32 m7, .int .u8 m8, .int .u32 m9, .int .u8 rk, .slice oa (List.length ops) oq, .int .u32 rv, .int .i64 rn, .int .i64 rt, .int .i64 ae, .int .i64 ap, .slice va (List.length V) vq, .slice la (List.length L) lq, .slice wa (List.length WL) wq, .slice xa (List.length X) xq, .slice da (List.length D) dq, .slice na (List.length NB) nq, .int .u64 m23, .int .u64 m24, .int .i64 m25])) (h : MsgIn F w rk rv rn rt oa va la wa xa da na oq vq lq wq xq dq nq ops V L WL X D NB) :
    Calls Try.prog 14 #[.agg ms] w fun e w' => ∃ ms' oa va la wa xa da na oq vq lq wq xq dq nq, e = .returned (.agg ms') ∧ Hid (ms' = #[.int .u8 m0, .int .u8 m1, .int .u8 m2, .int .u8 m3, .int .u32 m4, .int .u32 m5, .int .u64 m6, .int .u32 m7, .int .u8 m8, .int .u32 m9, .int .u8 rk, .slice oa (List.length ops) oq, .int .u32 rv, .int .i64 rn, .int .i64 rt, .int .i64 ae, .int .i64 ap, .slice va (List.length V) vq, .slice la (List.length L) lq, .slice wa (List.length WL) wq, .slice xa (List.length X) xq, .slice da (List.length D) dq, .slice na (List.length NB) nq, .int .u64 m23, .int .u64 m24, .int .i64 m25]) ∧ MsgIn (fun g => g < w.heap.size) w' rk rv rn rt oa va la wa xa da na oq vq lq wq xq dq nq ops V L WL X D NB ∧ Kept (fun _ => False) w w' := by
  have e := hms.out
  subst e
  have hx : VertsIn F w (.slice xa (X.map vxOf).length xq) (X.map vxOf) := by rw [List.length_map]; exact h.hx
  have := twin_msg (m0 := m0) (m1 := m1) (m2 := m2) (m3 := m3) (m4 := m4) (m5 := m5) (m6 := m6) (m7 := m7) (m8 := m8) (m9 := m9) (ae := ae) (ap := ap) (m23 := m23) (m24 := m24) (m25 := m25) h.ho h.hv h.hl h.hw hx h.hd h.hn h.bv h.bl h.bw h.bd h.bn
  rw [List.length_map] at this
  refine this.mono ?_
  rintro e w' ⟨oa', oq', va', vq', la', lq', wa', wq', xa', xq', da', dq', na', nq', rfl, h1, h2, h3, h4, h5, h6, h7, hk⟩
  exact ⟨_, oa', va', la', wa', xa', da', na', oq', vq', lq', wq', xq', dq', nq', rfl, hid rfl, ⟨h1, h2, h3, h4, h5, h6, h7, h.bv, h.bl, h.bw, h.bd, h.bn⟩, hk⟩
theorem recv_ms_no {w : World} {cb : Nat} {id n seq : Int} {rp : Option Addr} {ms : Array Value} {m0 m1 m2 m3 m4 m5 m6 m7 m8 m9 rk rv rn rt ae ap m23 m24 m25 : Int} {oa va la wa xa da na : Option Addr} {oq vq lq wq xq dq nq : Nat} {ops : List O} {V : List Val} {L : List Int} {WL : List (Int × Int)} {X : List Vt} {D : List (Int × Int × Int)} {NB : List Int}
    (hms : Hid (ms = #[.int .u8 m0, .int .u8 m1, .int .u8 m2, .int .u8 m3, .int .u32 m4, .int .u32 m5, .int .u64 m6, .int .u32 m7, .int .u8 m8, .int .u32 m9, .int .u8 rk, .slice oa (List.length ops) oq, .int .u32 rv, .int .i64 rn, .int .i64 rt, .int .i64 ae, .int .i64 ap, .slice va (List.length V) vq, .slice la (List.length L) lq, .slice wa (List.length WL) wq, .slice xa (List.length X) xq, .slice da (List.length D) dq, .slice na (List.length NB) nq, .int .u64 m23, .int .u64 m24, .int .i64 m25])) (hc : w.heap[cb]? = some (cliRow id n seq rp)) (hno : rp = none ∨ m0 ≠ 2 ∨ m8 ≠ id ∨ m9 ≠ seq) :
    Calls Try.prog 11 #[.pointer (some ⟨cb, 0, none⟩), .agg ms] w fun e w' => e = .returned (.tuple #[.agg ansZero, .bool false]) ∧ Kept (fun _ => False) w w' := by
  have e := hms.out
  subst e
  exact recv_no hc hno
theorem recv_ms_yes {w : World} {F : Nat → Prop} {cb : Nat} (hF : F cb) {id n seq : Int} {rb : Addr} {ms : Array Value} {m1 m2 m3 m4 m5 m6 m7 rk rv rn rt ae ap m23 m24 m25 : Int} {oa va la wa xa da na : Option Addr} {oq vq lq wq xq dq nq : Nat} {ops : List O} {V : List Val} {L : List Int} {WL : List (Int × Int)} {X : List Vt} {D : List (Int × Int × Int)} {NB : List Int}
    {m0 m8 m9 : Int} (hms : Hid (ms = #[.int .u8 m0, .int .u8 m1, .int .u8 m2, .int .u8 m3, .int .u32 m4, .int .u32 m5, .int .u64 m6, .int .u32 m7, .int .u8 m8, .int .u32 m9, .int .u8 rk, .slice oa (List.length ops) oq, .int .u32 rv, .int .i64 rn, .int .i64 rt, .int .i64 ae, .int .i64 ap, .slice va (List.length V) vq, .slice la (List.length L) lq, .slice wa (List.length WL) wq, .slice xa (List.length X) xq, .slice da (List.length D) dq, .slice na (List.length NB) nq, .int .u64 m23, .int .u64 m24, .int .i64 m25])) (e0 : m0 = 2) (e8 : m8 = id) (e9 : m9 = seq) (h : MsgIn F w rk rv rn rt oa va la wa xa da na oq vq lq wq xq dq nq ops V L WL X D NB) (hc : w.heap[cb]? = some (cliRow id n seq (some rb))) :
    Calls Try.prog 11 #[.pointer (some ⟨cb, 0, none⟩), .agg ms] w fun e w' => ∃ ans va' vq' la' lq', e = .returned (.tuple #[.agg ans, .bool true]) ∧ Hid (ans = #[.int .i64 ae, .int .i64 ap, .slice va' V.length vq', .slice la' L.length lq']) ∧
      Lies (fun g => g < w.heap.size) w' 3 (.slice va' V.length vq') V.length (V.flatMap vcell) ∧ Lies (fun g => g < w.heap.size) w' 1 (.slice la' L.length lq') L.length (L.flatMap nuC) ∧ w'.heap[cb]? = some (cliRow id n seq none) ∧ Kept (fun g => g = cb) w w' := by
  subst e0 e8 e9
  have e := hms.out
  subst e
  refine (recv_yes hF hc h.hv h.hl h.bv h.bl).mono ?_
  rintro e w' ⟨va', vq', la', lq', rfl, h1, h2, h3, h4⟩
  exact ⟨_, va', vq', la', lq', rfl, hid rfl, h1, h2, h3, h4⟩
section
variable {P : Program} {w : World} {ops : Array Oper} {rest : List Oper} {op : Oper} {a : Act} {Q : Exit → Act → World → Prop} {b : Nat} {T : TypeId}
/-- a whole row is loaded by a guarded operation that is wanted -/
theorem wpList_load_rowg {cells : Array Value} (hwt : Region.wanted op (yielded ops a.tmps) = true) (ty : TypeId) (x : Operand) (ho : op.op = .load ty x) (d : TypeDesc) (hx : a.eval x = .pointer (some ⟨b, 0, none⟩)) (hb : w.heap[b]? = some (.cells cells T (0, 0))) (hu : P.underlying ty = some d) (hd : d.isRow = true) (hi : (P.info? ty).map (·.size) = some cells.size)
    (h : wpList P ops Q rest (a.put op.dst (.agg cells)) w) : wpList P ops Q (op :: rest) a w := by
  refine wpList_step fun K hK => ?_
  rw [if_pos hwt]
  refine wp_load_mid ty x ho b 0 hx cells.toList d (range_of hb) hu hd (by simpa using hi) ?_
  rw [Array.toArray_toList]
  exact hK _ _ h
end
set_option maxRecDepth 100000 in
set_option maxHeartbeats 8000000 in
theorem one_walk (W : World) (args : Array Value) (h : RdAll Try.prog W Try.f5.params.toList args.toList) :
    Calls Try.prog 5 args W fun e W' => e = .returned (.bool true) ∧ Below W.heap.size W W' := by
  rw [Try.params5] at h
  obtain ⟨v0, v1, v2, v3, rfl⟩ : ∃ v0 v1 v2 v3, args = #[v0, v1, v2, v3] := by
    rcases args with ⟨_ | ⟨v0, _ | ⟨v1, _ | ⟨v2, _ | ⟨v3, _ | ⟨v4, l⟩⟩⟩⟩⟩⟩ <;> simp [RdAll] at h
    exact ⟨v0, v1, v2, v3, rfl⟩
  obtain ⟨r0, r1, r2, r3, _⟩ := h
  obtain ⟨a0, len0, cap0, rfl, h0⟩ := r3.slice Try.underlying62
  obtain ⟨l0, m0, z0, _, c0⟩ := h0.row Try.underlying62 cellsMs (by decide)
  obtain ⟨ci, rfl, wc⟩ := r0.int Try.underlying5
  obtain ⟨nd, rfl, wn⟩ := r1.int Try.underlying5
  obtain ⟨cs, rfl, h2⟩ := r2.struct Try.underlying31
  obtain ⟨R, v, hcs, hR⟩ := req_read ((h2.struct Try.underlying31).1.trans cellsR) h2
  obtain rfl : cs = #[.int .u8 R.kd, v, .int .u32 R.v, .int .i64 R.k, .int .i64 R.t] := by rw [← cs.toArray_toList, hcs]
  obtain ⟨ao, cq, rfl, q1, q2, _⟩ := hR.l
  have HR := hid hR
  have wc := wf8 wc
  have wn := wf8 wn
  unfold maxLen at m0
  have C0 := hid c0
  clear c0 h0 r0 r1 r2 r3 z0 h2 hcs hR q1 q2
  obtain ⟨B0, hB0⟩ : ∃ B0, W.heap.size = B0 := ⟨_, rfl⟩
  have HB0 := hid hB0
  have N0 := hid (row_new W (.cells #[.int .u8 R.kd, .slice ao R.ops.length cq, .int .u32 R.v, .int .i64 R.k, .int .i64 R.t] 31))
  have K0 := hid ((Kept.refl (fun _ => False) W).alloc (.cells #[.int .u8 R.kd, .slice ao R.ops.length cq, .int .u32 R.v, .int .i64 R.k, .int .i64 R.t] 31))
  rw [hB0] at N0
  go_enter Try.func5, Try.ntmps5
  go_wp2_with fail
  refine (awake_any _).mono ?_; rintro e w1 ⟨rfl, hk1⟩
  try rw [hB0]
  have K1 := hid (K0.out.trans hk1)
  have N1 := hid ((hk1.block _ (row_lt N0.out) (fun h => h)).trans N0.out)
  clear hk1 hB0 K0 N0
  have p0 : 0 ≤ ci % 4 := by omega
  have p1 : ci % 4 ≤ 3 := by omega
  have n1 : 1 ≤ 1 + nd % 4 := by omega
  have n4 : 1 + nd % 4 ≤ 4 := by omega
  go_wp2_with fail
  refine (new_ok (ci % 4) (1 + nd % 4) _ p0 p1 n1 n4).mono ?_; rintro e w2 ⟨rfl, rfl⟩
  obtain ⟨cb, hcb⟩ : ∃ cb, w1.heap.size = cb := ⟨_, rfl⟩
  have HC0 := hid (row_new w1 (cliRow (ci % 4) (1 + nd % 4) 0 none))
  rw [hcb] at HC0 ⊢
  have K2 := hid (K1.out.alloc (cliRow (ci % 4) (1 + nd % 4) 0 none))
  have N2 := hid (row_old N1.out (cliRow (ci % 4) (1 + nd % 4) 0 none))
  have HBC := hid (show W.heap.size ≤ cb by have := K1.out.size; omega)
  obtain ⟨w2, hw2⟩ : ∃ w2, w1.alloc (cliRow (ci % 4) (1 + nd % 4) 0 none) = w2 := ⟨_, rfl⟩
  rw [hw2] at HC0 K2 N2 ⊢
  obtain ⟨s0, s1, s2, s3, s4, s5⟩ := cells5 N2.out
  clear hw2 hcb K1 N1 s5
  go_wp2_with fail
  refine (twinreq_any (R := R) (by exact HR.out.same K2.out)).mono ?_
  rintro e w4 ⟨a4, c4, rfl, hr4, hk4⟩
  have HR4 := hid hr4; have K4 := hid (K2.out.trans hk4)
  have HC4 := hid ((hk4.block _ (row_lt HC0.out) (fun h => h)).trans HC0.out)
  clear hr4 hk4 s0 s1 s2 s3 s4 HC0 K2 N2
  go_wp2_with fail
  refine (call_free (R := R) (fun _ => True) (fun w1 hk => (check_some (HR4.out.same hk)).mono fun e w' ⟨i, h1, h2⟩ => ⟨i, trivial, h1, h2⟩) (by exact HC4.out) HR4.out p0 p1 n1 n4 (by omega) (by omega)).mono ?_
  rintro e w5 (⟨er, hne, _, rfl, hk5⟩ | ⟨rb, a5, c5, a6, c6, rfl, hr5, hcb, hrb, hr6, hle, hk5⟩)
  · have K5 := hid (K4.out.trans hk5); have HC5 := hid ((hk5.block _ (row_lt HC4.out) (fun h => h)).trans HC4.out)
    have hne' : (er != 0) = true := by simpa using hne
    clear hk5 hne
    go_wp2_with (refine wpList_store_row rfl 44 (.tmp 11) (.tmp 38) rfl msgZero.toArray msgZero.toArray (by rfl) (by rfl) (by exact row_new w5 _) rfl infoM (by simp [msgZero, Value.oneCell']) ?_; intro w6 hb6 hk6; have HC6 := hid ((hk6.block _ (Nat.lt_of_lt_of_le (row_lt HC5.out) (by simp)) (by have := row_lt HC5.out; omega)).trans (row_old HC5.out _)); have K6 := hid ((K5.out.alloc (.cells msgZero.toArray 44)).trans' hk6 (fun g hg => .inr (by have := K5.out.size; omega))); clear hb6 hk6)
    refine (seq_any (by exact HC6.out)).mono ?_
    rintro e w7 ⟨rfl, rfl⟩
    go_wp2
    go_ret
    exact ⟨rfl, K6.out.below (Nat.le_refl _) (fun _ h => h.elim)⟩
  · have HC5 := hid hcb; have HQ5 := hid hrb; have HA5 := hid hr5; have HI5 := hid hr6
    have K5 := hid (K4.out.trans' hk5 (fun g hg => .inr (by rw [hg]; exact HBC.out)))
    clear hk5 hcb hrb hr5 hr6 hle HC4 HR4 K4
    go_wp2_with (refine wpList_store_row rfl 44 (.tmp 11) (.tmp 38) rfl (msgCells (ci % 4) (ci % 4 % (1 + nd % 4)) (0 + 1) R (.slice a5 R.ops.length c5)).toArray msgZero.toArray (by rfl) (by rfl) (by exact row_new w5 _) rfl infoM (by simp [msgCells, Value.oneCell']) ?_; intro w6 hb6 hk6; have F6 := hid hb6; have K56 := hid (((Kept.refl (fun _ => False) w5).alloc (.cells msgZero.toArray 44)).trans' hk6 (fun g hg => .inr (by rw [hg]; exact Nat.le_refl _))); clear hb6 hk6; refine Hid.out ?_)
    refine hid ?_
    obtain ⟨fb, hfb⟩ : ∃ fb, w5.heap.size = fb := ⟨_, rfl⟩
    rw [hfb] at F6 ⊢
    clear hfb
    have K6 := hid (K5.out.trans K56.out)
    have C6 := hid ((K56.out.block _ (row_lt HC5.out) (fun h => h)).trans HC5.out)
    have Q6 := hid ((K56.out.block _ (row_lt HQ5.out) (fun h => h)).trans HQ5.out)
    have A6 := hid (HA5.out.same K56.out)
    have I6 := hid (HI5.out.same K56.out)
    clear K5 K56 HC5 HQ5 HA5 HI5
    go_wp2_with fail
    go_loopw [47] (fun i wr => ∃ k : Nat, k ≤ len0 ∧ i = .int .i64 k ∧ Kept (fun _ => False) w6 wr) (fun i _ => len0 - (RowKit.intOf i).toNat)
    case atStart => exact ⟨0, Nat.zero_le _, rfl, Kept.refl _ _⟩
    case round =>
      rename World => wr
      obtain ⟨k, hk, rfl, hkp⟩ := hrel
      have KR := hid hkp
      clear hkp
      by_cases hlt : k < len0
      · have hltI : (k : Int) < (len0 : Int) := by omega
        obtain ⟨b, off, es, rfl, hbl, hes, hcv, hr⟩ := C0.out k (by omega)
        obtain ⟨m0, m1, m2, m3, m4, m5, m6, m7, m8, m9, rk, rv, rn, rt, ae, ap, m23, m24, m25, oa, va, la, wa, xa, da, na, oq, vq, lq, wq, xq, dq, nq, ops, V, L, WL, X, D, NB, rfl, hM⟩ := msg_read hes hr
        obtain ⟨ms, hms⟩ : ∃ ms : Array Value, ms = #[.int .u8 m0, .int .u8 m1, .int .u8 m2, .int .u8 m3, .int .u32 m4, .int .u32 m5, .int .u64 m6, .int .u32 m7, .int .u8 m8, .int .u32 m9, .int .u8 rk, .slice oa (List.length ops) oq, .int .u32 rv, .int .i64 rn, .int .i64 rt, .int .i64 ae, .int .i64 ap, .slice va (List.length V) vq, .slice la (List.length L) lq, .slice wa (List.length WL) wq, .slice xa (List.length X) xq, .slice da (List.length D) dq, .slice na (List.length NB) nq, .int .u64 m23, .int .u64 m24, .int .i64 m25] := ⟨_, rfl⟩
        have hrg : wr.rangeAt b (off + k * 26) ms.toList := fun j u hj => (K6.out.trans KR.out).cell (by rw [hcv j (by have := (List.getElem?_eq_some_iff.1 hj).1; rw [hms] at this; exact this)]; rw [hms] at hj; exact hj) (fun h => h)
        have HRG := hid hrg
        have hsz : 26 = ms.size := by rw [hms]; rfl
        have hms1 : ms.all (·.oneCell') = true := by rw [hms]; simp [Value.oneCell']
        have HMS := hid hms
        have HS := hid hsz; have H1 := hid hms1
        have HM := hid hM
        clear hcv hr hes hM hrg hms hsz hms1
        go_wp2_with (first
          | (refine wpList_load_mid rfl 44 (.tmp 50) rfl b (off + k * 26) rfl ms.toList _ HRG.out Try.underlying44 rfl (by rw [Array.length_toList, ← HS.out]; exact infoM) ?_; simp only [Array.toArray_toList])
          | (refine wpList_store_row rfl 44 (.tmp 14) (.tmp 51) rfl ms msgZero.toArray (by rfl) (by rfl) (by exact row_new wr _) (by rw [← HS.out]; rfl) (by rw [← HS.out]; exact infoM) H1.out ?_; intro w7 hb7 hk7; have E7 := hid hb7; have K7 := hid (((Kept.refl (fun _ => False) wr).alloc (.cells msgZero.toArray 44)).trans' hk7 (fun g hg => .inr (by rw [hg]; exact Nat.le_refl _))); clear hb7 hk7; refine Hid.out ?_))
        refine hid ?_
        obtain ⟨eb, heb⟩ : ∃ eb, wr.heap.size = eb := ⟨_, rfl⟩
        rw [heb] at E7 ⊢
        have HEB := hid (show ¬ eb = cb by have := row_lt C6.out; have := KR.out.size; omega)
        clear heb
        have KR7 := hid (KR.out.trans K7.out)
        have M7 := hid (HM.out.same (K6.out.trans KR7.out))
        have hF7 := hid (show cb < w7.heap.size from Nat.lt_of_lt_of_le (row_lt C6.out) KR7.out.size)
        clear HRG HM KR K7
        by_cases h30 : (30 : Int) ≤ (k : Int)
        · go_wp2
          go_ret
          exact ⟨rfl, (K6.out.trans KR7.out).below (Nat.le_refl _) (fun _ h => h.elim)⟩
        · go_wp2_with (refine wpList_load_rowc rfl 44 (.tmp 14) rfl _ rfl E7.out Try.underlying44 rfl (by rw [← HS.out]; exact infoM) ?_)
          refine (twin_ms HMS M7.out).mono ?_
          rintro e w8 ⟨ms', oa', va', la', wa', xa', da', na', oq', vq', lq', wq', xq', dq', nq', rfl, HMS', hM', hk8⟩
          have E8 := hid ((hk8.block _ (row_lt E7.out) (fun h => h)).trans E7.out)
          have K8 := hid (KR7.out.trans hk8)
          have C8 := hid ((K8.out.block _ (row_lt C6.out) (fun h => h)).trans C6.out)
          have M8 := hid hM'
          clear hk8 hM' M7 E7 KR7
          go_wp2_with fail
          have ct := hid (show ci.tmod 4 = ci % 4 from Int.tmod_eq_emod_of_nonneg wc.1)
          by_cases q0 : m0 = 2
          · by_cases q8 : m8 = ci % 4
            · by_cases q9 : m9 = 0 + 1
              · have b0 : (m0 == 2) = true := by simpa using q0
                have b8 : (m8 == ci % 4) = true := by simpa using q8
                have b9 : (m9 == 1) = true := by simpa using q9
                refine (recv_ms_yes (F := fun g => g < w7.heap.size) hF7.out HMS' q0 q8 q9 M8.out (by exact C8.out)).mono ?_
                rintro e w9 ⟨ans, va2, vq2, la2, lq2, rfl, HAN, _, _, hc9, hk9⟩
                have E9 := hid ((hk9.block _ (row_lt E8.out) HEB.out).trans E8.out)
                have K9 := hid ((K6.out.trans K8.out).trans' hk9 (fun g hg => .inr (by rw [hg]; exact HBC.out)))
                have C9 := hid hc9
                clear hk9 hc9 K8 E8 C8 M8 q0 q8 q9
                go_wp2_with (refine wpList_store_row rfl 38 (.tmp 15) (.tmp 59) rfl ans #[.int .i64 0, .int .i64 0, .slice none 0 0, .slice none 0 0] (by rfl) (by rfl) (by exact row_new w9 _) (by rw [HAN.out]; rfl) (by rw [HAN.out]; exact infoAn) (by rw [HAN.out]; simp [Value.oneCell']) ?_; intro w10 hb10 hk10; have K910 := hid (((Kept.refl (fun _ => False) w9).alloc (.cells #[.int .i64 0, .int .i64 0, .slice none 0 0, .slice none 0 0] 38)).trans' hk10 (fun g hg => .inr (by rw [hg]; exact Nat.le_refl _))); clear hb10 hk10; have E10 := hid ((K910.out.block _ (row_lt E9.out) (fun h => h)).trans E9.out); have d0 : w10.cell? ⟨eb, 0, none⟩ = some (.int .u8 m0) := (by rw [row_cell E10.out, HMS.out]; rfl); have d8 : w10.cell? ⟨eb, 8, none⟩ = some (.int .u8 m8) := (by rw [row_cell E10.out, HMS.out]; rfl); have d9 : w10.cell? ⟨eb, 9, none⟩ = some (.int .u32 m9) := (by rw [row_cell E10.out, HMS.out]; rfl); have ctt := ct.out)
                clear d0 d8 d9 ctt
                have K10 := hid (K9.out.trans K910.out)
                have C10 := hid ((K910.out.block _ (row_lt C9.out) (fun h => h)).trans C9.out)
                clear K9 K910 E9 E10 C9
                refine (again_none (by exact C10.out)).mono ?_
                rintro e w11 ⟨rfl, hk11⟩
                have K11 := hid (K10.out.trans hk11)
                clear hk11 K10 C10
                go_wp2_with (refine wpList_store_row rfl 44 (.tmp 17) (.tmp 81) rfl msgZero.toArray msgZero.toArray (by rfl) (by rfl) (by exact row_new w11 _) rfl infoM (by simp [msgZero, Value.oneCell']) ?_; intro w12 hb12 hk12; have K112 := hid (((Kept.refl (fun _ => False) w11).alloc (.cells msgZero.toArray 44)).trans' hk12 (fun g hg => .inr (by rw [hg]; exact Nat.le_refl _))); clear hb12 hk12)
                go_ret
                exact ⟨rfl, (K11.out.trans K112.out).below (Nat.le_refl _) (fun _ h => h.elim)⟩
              · have b0 : (m0 == 2) = true := by simpa using q0
                have b8 : (m8 == ci % 4) = true := by simpa using q8
                have b9 : (m9 == 1) = false := by simpa using q9
                refine (recv_ms_no HMS' (by exact C8.out) (.inr (.inr (.inr q9)))).mono ?_
                rintro e w9 ⟨rfl, hk9⟩
                try clear q0
                try clear q8
                try clear q9
                have hsw := row_lt E8.out
                have E9 := hid ((hk9.block _ (row_lt E8.out) (fun h => h)).trans E8.out)
                have K9 := hid (K8.out.trans hk9)
                clear hk9 K8 E8 C8 M8 hsw
                go_wp2_with (refine wpList_store_row rfl 38 (.tmp 15) (.tmp 59) rfl ansZero #[.int .i64 0, .int .i64 0, .slice none 0 0, .slice none 0 0] (by rfl) (by rfl) (by exact row_new w9 _) rfl infoAn (by simp [ansZero, Value.oneCell']) ?_; intro w10 hb10 hk10; have K910 := hid (((Kept.refl (fun _ => False) w9).alloc (.cells #[.int .i64 0, .int .i64 0, .slice none 0 0, .slice none 0 0] 38)).trans' hk10 (fun g hg => .inr (by rw [hg]; exact Nat.le_refl _))); clear hb10 hk10; have E10 := hid ((K910.out.block _ (row_lt E9.out) (fun h => h)).trans E9.out); have d0 : w10.cell? ⟨eb, 0, none⟩ = some (.int .u8 m0) := (by rw [row_cell E10.out, HMS.out]; rfl); have d8 : w10.cell? ⟨eb, 8, none⟩ = some (.int .u8 m8) := (by rw [row_cell E10.out, HMS.out]; rfl); have d9 : w10.cell? ⟨eb, 9, none⟩ = some (.int .u32 m9) := (by rw [row_cell E10.out, HMS.out]; rfl); have ctt := ct.out)
                clear d0 d8 d9 ctt
                have K10 := hid (K9.out.trans K910.out)
                have C10 := hid ((K10.out.block _ (row_lt C6.out) (fun h => h)).trans C6.out)
                have Q10 := hid ((K10.out.block _ (row_lt Q6.out) (fun h => h)).trans Q6.out)
                clear K9 K910 E9 E10
                refine (again_some (id := ci % 4) (n := 1 + nd % 4) (seq := 0 + 1) (R := R) (by exact C10.out) (by exact Q10.out) (by exact I6.out.same K10.out) p0 p1 n1 n4).mono ?_
                rintro e w11 ⟨a11, c11, rfl, hr11, hk11⟩
                have A11 := hid hr11
                have K11 := hid (K10.out.trans hk11)
                clear hr11 hk11 K10 C10 Q10
                go_wp2_with (refine wpList_store_row rfl 44 (.tmp 17) (.tmp 81) rfl (msgCells (ci % 4) (ci % 4 % (1 + nd % 4)) (0 + 1) R (.slice a11 R.ops.length c11)).toArray msgZero.toArray (by rfl) (by rfl) (by exact row_new w11 _) rfl infoM (by simp [msgCells, Value.oneCell']) ?_; intro w12 hb12 hk12; have G12 := hid hb12; have K112 := hid (((Kept.refl (fun _ => False) w11).alloc (.cells msgZero.toArray 44)).trans' hk12 (fun g hg => .inr (by rw [hg]; exact Nat.le_refl _))); clear hb12 hk12; refine Hid.out ?_)
                refine hid ?_
                have K12 := hid (K11.out.trans K112.out)
                have F12 := hid ((K12.out.block _ (row_lt F6.out) (fun h => h)).trans F6.out)
                have A12 := hid (A11.out.same K112.out)
                go_wp2_with (first
                  | (refine wpList_load_rowg (by rfl) 44 (.tmp 17) rfl _ rfl G12.out Try.underlying44 rfl (by exact infoM) ?_)
                  | (refine wpList_load_rowg (by rfl) 44 (.tmp 11) rfl _ rfl F12.out Try.underlying44 rfl (by exact infoM) ?_))
                refine (same_sent A12.out (A6.out.same K12.out)).mono ?_
                rintro e w13 ⟨rfl, hk13⟩
                have K13 := hid (K12.out.trans hk13)
                clear hk13
                go_wp2
                go_roundw
                case rel => exact ⟨k + 1, by omega, by go_num, K13.out⟩
                case measure => (simp only [RowKit.intOf]; omega)
            · have b0 : (m0 == 2) = true := by simpa using q0
              have b8 : (m8 == ci % 4) = false := by simpa using q8
              refine (recv_ms_no HMS' (by exact C8.out) (.inr (.inr (.inl q8)))).mono ?_
              rintro e w9 ⟨rfl, hk9⟩
              try clear q0
              try clear q8
              try clear q9
              have hsw := row_lt E8.out
              have E9 := hid ((hk9.block _ (row_lt E8.out) (fun h => h)).trans E8.out)
              have K9 := hid (K8.out.trans hk9)
              clear hk9 K8 E8 C8 M8 hsw
              go_wp2_with (refine wpList_store_row rfl 38 (.tmp 15) (.tmp 59) rfl ansZero #[.int .i64 0, .int .i64 0, .slice none 0 0, .slice none 0 0] (by rfl) (by rfl) (by exact row_new w9 _) rfl infoAn (by simp [ansZero, Value.oneCell']) ?_; intro w10 hb10 hk10; have K910 := hid (((Kept.refl (fun _ => False) w9).alloc (.cells #[.int .i64 0, .int .i64 0, .slice none 0 0, .slice none 0 0] 38)).trans' hk10 (fun g hg => .inr (by rw [hg]; exact Nat.le_refl _))); clear hb10 hk10; have E10 := hid ((K910.out.block _ (row_lt E9.out) (fun h => h)).trans E9.out); have d0 : w10.cell? ⟨eb, 0, none⟩ = some (.int .u8 m0) := (by rw [row_cell E10.out, HMS.out]; rfl); have d8 : w10.cell? ⟨eb, 8, none⟩ = some (.int .u8 m8) := (by rw [row_cell E10.out, HMS.out]; rfl); have d9 : w10.cell? ⟨eb, 9, none⟩ = some (.int .u32 m9) := (by rw [row_cell E10.out, HMS.out]; rfl); have ctt := ct.out)
              clear d0 d8 d9 ctt
              have K10 := hid (K9.out.trans K910.out)
              have C10 := hid ((K10.out.block _ (row_lt C6.out) (fun h => h)).trans C6.out)
              have Q10 := hid ((K10.out.block _ (row_lt Q6.out) (fun h => h)).trans Q6.out)
              clear K9 K910 E9 E10
              refine (again_some (id := ci % 4) (n := 1 + nd % 4) (seq := 0 + 1) (R := R) (by exact C10.out) (by exact Q10.out) (by exact I6.out.same K10.out) p0 p1 n1 n4).mono ?_
              rintro e w11 ⟨a11, c11, rfl, hr11, hk11⟩
              have A11 := hid hr11
              have K11 := hid (K10.out.trans hk11)
              clear hr11 hk11 K10 C10 Q10
              go_wp2_with (refine wpList_store_row rfl 44 (.tmp 17) (.tmp 81) rfl (msgCells (ci % 4) (ci % 4 % (1 + nd % 4)) (0 + 1) R (.slice a11 R.ops.length c11)).toArray msgZero.toArray (by rfl) (by rfl) (by exact row_new w11 _) rfl infoM (by simp [msgCells, Value.oneCell']) ?_; intro w12 hb12 hk12; have G12 := hid hb12; have K112 := hid (((Kept.refl (fun _ => False) w11).alloc (.cells msgZero.toArray 44)).trans' hk12 (fun g hg => .inr (by rw [hg]; exact Nat.le_refl _))); clear hb12 hk12; refine Hid.out ?_)
              refine hid ?_
              have K12 := hid (K11.out.trans K112.out)
              have F12 := hid ((K12.out.block _ (row_lt F6.out) (fun h => h)).trans F6.out)
              have A12 := hid (A11.out.same K112.out)
              go_wp2_with (first
                | (refine wpList_load_rowg (by rfl) 44 (.tmp 17) rfl _ rfl G12.out Try.underlying44 rfl (by exact infoM) ?_)
                | (refine wpList_load_rowg (by rfl) 44 (.tmp 11) rfl _ rfl F12.out Try.underlying44 rfl (by exact infoM) ?_))
              refine (same_sent A12.out (A6.out.same K12.out)).mono ?_
              rintro e w13 ⟨rfl, hk13⟩
              have K13 := hid (K12.out.trans hk13)
              clear hk13
              go_wp2
              go_roundw
              case rel => exact ⟨k + 1, by omega, by go_num, K13.out⟩
              case measure => (simp only [RowKit.intOf]; omega)
          · have b0 : (m0 == 2) = false := by simpa using q0
            refine (recv_ms_no HMS' (by exact C8.out) (.inr (.inl q0))).mono ?_
            rintro e w9 ⟨rfl, hk9⟩
            try clear q0
            try clear q8
            try clear q9
            have hsw := row_lt E8.out
            have E9 := hid ((hk9.block _ (row_lt E8.out) (fun h => h)).trans E8.out)
            have K9 := hid (K8.out.trans hk9)
            clear hk9 K8 E8 C8 M8 hsw
            go_wp2_with (refine wpList_store_row rfl 38 (.tmp 15) (.tmp 59) rfl ansZero #[.int .i64 0, .int .i64 0, .slice none 0 0, .slice none 0 0] (by rfl) (by rfl) (by exact row_new w9 _) rfl infoAn (by simp [ansZero, Value.oneCell']) ?_; intro w10 hb10 hk10; have K910 := hid (((Kept.refl (fun _ => False) w9).alloc (.cells #[.int .i64 0, .int .i64 0, .slice none 0 0, .slice none 0 0] 38)).trans' hk10 (fun g hg => .inr (by rw [hg]; exact Nat.le_refl _))); clear hb10 hk10; have E10 := hid ((K910.out.block _ (row_lt E9.out) (fun h => h)).trans E9.out); have d0 : w10.cell? ⟨eb, 0, none⟩ = some (.int .u8 m0) := (by rw [row_cell E10.out, HMS.out]; rfl); have d8 : w10.cell? ⟨eb, 8, none⟩ = some (.int .u8 m8) := (by rw [row_cell E10.out, HMS.out]; rfl); have d9 : w10.cell? ⟨eb, 9, none⟩ = some (.int .u32 m9) := (by rw [row_cell E10.out, HMS.out]; rfl); have ctt := ct.out)
            clear d0 d8 d9 ctt
            have K10 := hid (K9.out.trans K910.out)
            have C10 := hid ((K10.out.block _ (row_lt C6.out) (fun h => h)).trans C6.out)
            have Q10 := hid ((K10.out.block _ (row_lt Q6.out) (fun h => h)).trans Q6.out)
            clear K9 K910 E9 E10
            refine (again_some (id := ci % 4) (n := 1 + nd % 4) (seq := 0 + 1) (R := R) (by exact C10.out) (by exact Q10.out) (by exact I6.out.same K10.out) p0 p1 n1 n4).mono ?_
            rintro e w11 ⟨a11, c11, rfl, hr11, hk11⟩
            have A11 := hid hr11
            have K11 := hid (K10.out.trans hk11)
            clear hr11 hk11 K10 C10 Q10
            go_wp2_with (refine wpList_store_row rfl 44 (.tmp 17) (.tmp 81) rfl (msgCells (ci % 4) (ci % 4 % (1 + nd % 4)) (0 + 1) R (.slice a11 R.ops.length c11)).toArray msgZero.toArray (by rfl) (by rfl) (by exact row_new w11 _) rfl infoM (by simp [msgCells, Value.oneCell']) ?_; intro w12 hb12 hk12; have G12 := hid hb12; have K112 := hid (((Kept.refl (fun _ => False) w11).alloc (.cells msgZero.toArray 44)).trans' hk12 (fun g hg => .inr (by rw [hg]; exact Nat.le_refl _))); clear hb12 hk12; refine Hid.out ?_)
            refine hid ?_
            have K12 := hid (K11.out.trans K112.out)
            have F12 := hid ((K12.out.block _ (row_lt F6.out) (fun h => h)).trans F6.out)
            have A12 := hid (A11.out.same K112.out)
            go_wp2_with (first
              | (refine wpList_load_rowg (by rfl) 44 (.tmp 17) rfl _ rfl G12.out Try.underlying44 rfl (by exact infoM) ?_)
              | (refine wpList_load_rowg (by rfl) 44 (.tmp 11) rfl _ rfl F12.out Try.underlying44 rfl (by exact infoM) ?_))
            refine (same_sent A12.out (A6.out.same K12.out)).mono ?_
            rintro e w13 ⟨rfl, hk13⟩
            have K13 := hid (K12.out.trans hk13)
            clear hk13
            go_wp2
            go_roundw
            case rel => exact ⟨k + 1, by omega, by go_num, K13.out⟩
            case measure => (simp only [RowKit.intOf]; omega)
      · go_wp2
        go_ret
        exact ⟨rfl, (K6.out.trans KR.out).below (Nat.le_refl _) (fun _ h => h.elim)⟩
end Go.Proofs.Ytnlbdlbinoebgaa
