/- The walk of ClientPlays. -/
import Derived.Test.YtnlbdlbinoebgaaZk
namespace Go.Proofs.Ytnlbdlbinoebgaa
open Go.RowKit
theorem cellsOp : Try.prog.cellsOf 57 = 32 := by kernel_rfl
theorem infoOp : (Try.prog.info? 57).map (·.size) = some 32 := by kernel_rfl
set_option maxRecDepth 100000 in
set_option maxHeartbeats 1000000 in
theorem op57_read {w : World} {es : List Value} (hl : es.length = 32) (h : Rd Try.prog w 57 es) :
    ∃ (kn : Int) (R : Rq) (ao : Option Addr) (c : Nat) (ms : Array Value) (m0 m1 m2 m3 m4 m5 m6 m7 m8 m9 rk rv rn rt ae ap m23 m24 m25 : Int) (oa va la wa xa da na : Option Addr) (oq vq lq wq xq dq nq : Nat) (ops : List O) (V : List Val) (L : List Int) (WL : List (Int × Int)) (X : List Vt) (D : List (Int × Int × Int)) (NB : List Int),
      es = .int .u8 kn :: .int .u8 R.kd :: .slice ao R.ops.length c :: .int .u32 R.v :: .int .i64 R.k :: .int .i64 R.t :: ms.toList ∧ ReqIn (fun g => w.heap.size ≤ g) w (.slice ao R.ops.length c) R ∧ Hid (ms = #[.int .u8 m0, .int .u8 m1, .int .u8 m2, .int .u8 m3, .int .u32 m4, .int .u32 m5, .int .u64 m6, .int .u32 m7, .int .u8 m8, .int .u32 m9, .int .u8 rk, .slice oa (List.length ops) oq, .int .u32 rv, .int .i64 rn, .int .i64 rt, .int .i64 ae, .int .i64 ap, .slice va (List.length V) vq, .slice la (List.length L) lq, .slice wa (List.length WL) wq, .slice xa (List.length X) xq, .slice da (List.length D) dq, .slice na (List.length NB) nq, .int .u64 m23, .int .u64 m24, .int .i64 m25]) ∧
      MsgIn (fun g => w.heap.size ≤ g) w rk rv rn rt oa va la wa xa da na oq vq lq wq xq dq nq ops V L WL X D NB := by
  match es, hl with
  | [x0, x1, x2, x3, x4, x5, x6, x7, x8, x9, x10, x11, x12, x13, x14, x15, x16, x17, x18, x19, x20, x21, x22, x23, x24, x25, x26, x27, x28, x29, x30, x31], _ =>
    have h0 : Rd Try.prog w 5 [x0] := h.field Try.underlying57 0 5 0 1 rfl cells8
    have h1 : Rd Try.prog w 31 [x1, x2, x3, x4, x5] := h.field Try.underlying57 1 31 1 5 rfl cellsR
    have h2 : Rd Try.prog w 44 [x6, x7, x8, x9, x10, x11, x12, x13, x14, x15, x16, x17, x18, x19, x20, x21, x22, x23, x24, x25, x26, x27, x28, x29, x30, x31] := h.field Try.underlying57 2 44 6 26 rfl cellsMs
    obtain ⟨kn, e0, _⟩ := h0.int Try.underlying5
    obtain ⟨R, v, e1, hR⟩ := req_read rfl h1
    obtain ⟨m0, m1, m2, m3, m4, m5, m6, m7, m8, m9, rk, rv, rn, rt, ae, ap, m23, m24, m25, oa, va, la, wa, xa, da, na, oq, vq, lq, wq, xq, dq, nq, ops, V, L, WL, X, D, NB, e2, hM⟩ := msg_read rfl h2
    obtain ⟨ao, c, rfl, _⟩ := hR.l
    simp only [List.cons.injEq, and_true] at e0 e1
    obtain ⟨rfl, rfl, rfl, rfl, rfl⟩ := e1
    subst e0
    refine ⟨kn, R, ao, c, #[.int .u8 m0, .int .u8 m1, .int .u8 m2, .int .u8 m3, .int .u32 m4, .int .u32 m5, .int .u64 m6, .int .u32 m7, .int .u8 m8, .int .u32 m9, .int .u8 rk, .slice oa (List.length ops) oq, .int .u32 rv, .int .i64 rn, .int .i64 rt, .int .i64 ae, .int .i64 ap, .slice va (List.length V) vq, .slice la (List.length L) lq, .slice wa (List.length WL) wq, .slice xa (List.length X) xq, .slice da (List.length D) dq, .slice na (List.length NB) nq, .int .u64 m23, .int .u64 m24, .int .i64 m25], m0, m1, m2, m3, m4, m5, m6, m7, m8, m9, rk, rv, rn, rt, ae, ap, m23, m24, m25, oa, va, la, wa, xa, da, na, oq, vq, lq, wq, xq, dq, nq, ops, V, L, WL, X, D, NB, ?_, hR, hid rfl, hM⟩
    rw [e2]
end Go.Proofs.Ytnlbdlbinoebgaa
