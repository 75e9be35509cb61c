/- A whole message that is handed in. -/
import Derived.Test.YtnlbdlbinoebgaaQ
namespace Go.Proofs.Ytnlbdlbinoebgaa
open Go.RowKit
/-- What a message holds. -/
structure MsgIn (F : Nat → Prop) (w : World) (rk rv rn rt : Int) (oa va la wa xa da na : Option Addr) (oq vq lq wq xq dq nq : Nat) (ops : List O) (V : List Val) (L : List Int) (WL : List (Int × Int)) (X : List Vt) (D : List (Int × Int × Int)) (NB : List Int) : Prop where
  ho : ReqIn F w (.slice oa ops.length oq) ⟨rk, ops, rv, rn, rt⟩
  hv : Lies F w 3 (.slice va V.length vq) V.length (V.flatMap vcell)
  hl : Lies F w 1 (.slice la L.length lq) L.length (L.flatMap nuC)
  hw : Lies F w 2 (.slice wa WL.length wq) WL.length (WL.flatMap wtC)
  hx : VertsIn F w (.slice xa X.length xq) (X.map vxOf)
  hd : Lies F w 3 (.slice da D.length dq) D.length (D.flatMap enC)
  hn : Lies F w 1 (.slice na NB.length nq) NB.length (NB.flatMap ubC)
  bv : V.length * 32 ≤ 140737488351232
  bl : L.length * 4 ≤ 140737488351232
  bw : WL.length * 8 ≤ 140737488351232
  bd : D.length * 12 ≤ 140737488351232
  bn : NB.length ≤ 140737488351232
set_option maxRecDepth 100000 in
set_option maxHeartbeats 1000000 in
theorem msg_read {w : World} {es : List Value} (hl : es.length = 26) (h : Rd Try.prog w 44 es) :
    ∃ m0 m1 m2 m3 m4 m5 m6 m7 m8 m9 rk rv rn rt ae ap m23 m24 m25 oa va la wa xa da na oq vq lq wq xq dq nq ops V L WL X D NB,
      es = [.int .u8 m0, .int .u8 m1, .int .u8 m2, .int .u8 m3, .int .u32 m4, .int .u32 m5, .int .u64 m6, .int .u32 m7, .int .u8 m8, .int .u32 m9, .int .u8 rk, .slice oa (List.length ops) oq, .int .u32 rv, .int .i64 rn, .int .i64 rt, .int .i64 ae, .int .i64 ap, .slice va (List.length V) vq, .slice la (List.length L) lq, .slice wa (List.length WL) wq, .slice xa (List.length X) xq, .slice da (List.length D) dq, .slice na (List.length NB) nq, .int .u64 m23, .int .u64 m24, .int .i64 m25] ∧
      MsgIn (fun g => w.heap.size ≤ g) w rk rv rn rt oa va la wa xa da na oq vq lq wq xq dq nq ops V L WL X D NB := by
  match es, hl with
  | [x0, x1, x2, x3, x4, x5, x6, x7, x8, x9, x10, x11, x12, x13, x14, x15, x16, x17, x18, x19, x20, x21, x22, x23, x24, x25], _ =>
    have h0 : Rd Try.prog w 5 [x0] := h.field Try.underlying44 0 5 0 1 rfl cells8
    have h1 : Rd Try.prog w 5 [x1] := h.field Try.underlying44 1 5 1 1 rfl cells8
    have h2 : Rd Try.prog w 5 [x2] := h.field Try.underlying44 2 5 2 1 rfl cells8
    have h3 : Rd Try.prog w 33 [x3, x4, x5] := h.field Try.underlying44 3 33 3 3 rfl cellsTx
    have h4 : Rd Try.prog w 34 [x6] := h.field Try.underlying44 4 34 6 1 rfl cellsU64
    have h5 : Rd Try.prog w 28 [x7] := h.field Try.underlying44 5 28 7 1 rfl cellsN
    have h6 : Rd Try.prog w 5 [x8] := h.field Try.underlying44 6 5 8 1 rfl cells8
    have h7 : Rd Try.prog w 28 [x9] := h.field Try.underlying44 7 28 9 1 rfl cellsN
    have h8 : Rd Try.prog w 31 [x10, x11, x12, x13, x14] := h.field Try.underlying44 8 31 10 5 rfl cellsR
    have h9 : Rd Try.prog w 38 [x15, x16, x17, x18] := h.field Try.underlying44 9 38 15 4 rfl cellsAn
    have h10 : Rd Try.prog w 39 [x19] := h.field Try.underlying44 10 39 19 1 rfl cellsLW
    have h11 : Rd Try.prog w 40 [x20] := h.field Try.underlying44 11 40 20 1 rfl cellsLX
    have h12 : Rd Try.prog w 41 [x21] := h.field Try.underlying44 12 41 21 1 rfl cellsLD
    have h13 : Rd Try.prog w 42 [x22] := h.field Try.underlying44 13 42 22 1 rfl cellsLB
    have h14 : Rd Try.prog w 34 [x23] := h.field Try.underlying44 14 34 23 1 rfl cellsU64
    have h15 : Rd Try.prog w 34 [x24] := h.field Try.underlying44 15 34 24 1 rfl cellsU64
    have h16 : Rd Try.prog w 3 [x25] := h.field Try.underlying44 16 3 25 1 rfl cellsI
    have t0 : Rd Try.prog w 5 [x3] := h3.field Try.underlying33 0 5 0 1 rfl cells8
    have t1 : Rd Try.prog w 28 [x4] := h3.field Try.underlying33 1 28 1 1 rfl cellsN
    have t2 : Rd Try.prog w 28 [x5] := h3.field Try.underlying33 2 28 2 1 rfl cellsN
    have a0 : Rd Try.prog w 25 [x15] := h9.field Try.underlying38 0 25 0 1 rfl cellsErr
    have a1 : Rd Try.prog w 3 [x16] := h9.field Try.underlying38 1 3 1 1 rfl cellsI
    have a2 : Rd Try.prog w 35 [x17] := h9.field Try.underlying38 2 35 2 1 rfl cellsLV
    have a3 : Rd Try.prog w 36 [x18] := h9.field Try.underlying38 3 36 3 1 rfl cellsLN
    obtain ⟨m0, e0, _⟩ := h0.int Try.underlying5
    obtain ⟨m1, e1, _⟩ := h1.int Try.underlying5
    obtain ⟨m2, e2, _⟩ := h2.int Try.underlying5
    obtain ⟨m3, e3, _⟩ := t0.int Try.underlying5
    obtain ⟨m4, e4, _⟩ := t1.int Try.underlying28
    obtain ⟨m5, e5, _⟩ := t2.int Try.underlying28
    obtain ⟨m6, e6, _⟩ := h4.int Try.underlying34
    obtain ⟨m7, e7, _⟩ := h5.int Try.underlying28
    obtain ⟨m8, e8, _⟩ := h6.int Try.underlying5
    obtain ⟨m9, e9, _⟩ := h7.int Try.underlying28
    obtain ⟨ae, e15, _⟩ := a0.int Try.underlying25
    obtain ⟨ap, e16, _⟩ := a1.int Try.underlying3
    obtain ⟨m23, e23, _⟩ := h14.int Try.underlying34
    obtain ⟨m24, e24, _⟩ := h15.int Try.underlying34
    obtain ⟨m25, e25, _⟩ := h16.int Try.underlying3
    obtain ⟨va, vn, vq, e17⟩ := a2.isSlice Try.underlying35
    obtain ⟨la, ln, lq, e18⟩ := a3.isSlice Try.underlying36
    obtain ⟨wa, wn, wq, e19⟩ := h10.isSlice Try.underlying39
    obtain ⟨xa, xn, xq, e20⟩ := h11.isSlice Try.underlying40
    obtain ⟨da, dn, dq, e21⟩ := h12.isSlice Try.underlying41
    obtain ⟨na, nn, nq, e22⟩ := h13.isSlice Try.underlying42
    obtain ⟨R, rv0, e10, hR⟩ := req_read (by rfl) h8
    simp only [List.cons.injEq, and_true] at e0 e1 e2 e3 e4 e5 e6 e7 e8 e9 e15 e16 e23 e24 e25 e17 e18 e19 e20 e21 e22 e10
    obtain ⟨e10, e11, e12, e13, e14⟩ := e10
    subst e0 e1 e2 e3 e4 e5 e6 e7 e8 e9 e15 e16 e23 e24 e25 e17 e18 e19 e20 e21 e22 e10 e11 e12 e13 e14
    obtain ⟨rk, ops, rv, rn, rt⟩ := R
    obtain ⟨oa, oq, e⟩ := hR.l.isSlice
    simp only at e
    subst e
    obtain ⟨V, rfl, kV, bV, _⟩ := lies_of vcell 3 (fun _ => rfl) (by decide) one_va ⟨0, 0, ByteArray.empty⟩ Try.underlying35 cellsV (fun _ => True) (fun es => va_read) a2
    obtain ⟨L, rfl, kL, bL, _⟩ := lies_of nuC 1 (fun _ => rfl) (by decide) one_nu 0 Try.underlying36 cellsN (fun _ => True) (fun es => nu_read) a3
    obtain ⟨WL, rfl, kWL, bWL, _⟩ := lies_of wtC 2 (fun _ => rfl) (by decide) one_wt ⟨0, 0⟩ Try.underlying39 cellsWt (fun _ => True) (fun es => wt_read) h10
    obtain ⟨D, rfl, kD, bD, _⟩ := lies_of enC 3 (fun _ => rfl) (by decide) one_en ⟨0, 0, 0⟩ Try.underlying41 cellsEn (fun _ => True) (fun es => en_read) h12
    obtain ⟨NB, rfl, kNB, bNB, _⟩ := lies_of ubC 1 (fun _ => rfl) (by decide) one_ub 0 Try.underlying42 cells8 (fun _ => True) (fun es => ub_read) h13
    obtain ⟨X, rfl, kX⟩ := verts_read h11
    rw [bytesVa] at bV; rw [bytesN] at bL; rw [bytesWt] at bWL; rw [bytesEn] at bD; rw [bytes8] at bNB
    simp only [reachBytes] at bV bL bWL bD bNB
    exact ⟨m0, m1, m2, m3, m4, m5, m6, m7, m8, m9, rk, rv, rn, rt, ae, ap, m23, m24, m25, oa, va, la, wa, xa, da, na, oq, vq, lq, wq, xq, dq, nq, ops, V, L, WL, X, D, NB, rfl, hR, kV, kL, kWL, kX, kD, kNB, by omega, by omega, by omega, by omega, by omega⟩
end Go.Proofs.Ytnlbdlbinoebgaa
