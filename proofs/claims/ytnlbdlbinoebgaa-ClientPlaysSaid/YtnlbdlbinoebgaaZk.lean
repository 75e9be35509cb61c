/- play whatever the call; New, DocNew, Seq in all ways. -/
import Derived.Test.YtnlbdlbinoebgaaZj
namespace Go.Proofs.Ytnlbdlbinoebgaa
open Go.RowKit
theorem play_any {w : World} {id n seq kn : Int} {cb xb : Nat} {R : Rq} {ao : Option Addr} {c : Nat} {os : Array Value} {ms : Array Value} {m0 m1 m2 m3 m4 m5 m6 m7 m8 m9 rk rv rn rt ae ap m23 m24 m25 : Int} {oa va la wa xa da na : Option Addr} {oq vq lq wq xq dq nq : Nat} {ops : List O} {V : List Val} {L : List Int} {WL : List (Int × Int)} {X : List Vt} {D : List (Int × Int × Int)} {NB : List Int} (hst : Stt (F0 cb xb) w id n seq cb xb) (hne : cb ≠ xb) (h0 : 0 ≤ id) (h1 : id ≤ 3) (n1 : 1 ≤ n) (n4 : n ≤ 4) (q0 : 0 ≤ seq) (q1 : seq ≤ 1000)
    (hos : os.size = 32) (o0 : os[0]? = some (.int .u8 kn)) (o1 : os[1]? = some (.int .u8 R.kd)) (o2 : os[2]? = some (.slice ao R.ops.length c)) (o3 : os[3]? = some (.int .u32 R.v)) (o4 : os[4]? = some (.int .i64 R.k)) (o5 : os[5]? = some (.int .i64 R.t)) (hms : Hid (ms = #[.int .u8 m0, .int .u8 m1, .int .u8 m2, .int .u8 m3, .int .u32 m4, .int .u32 m5, .int .u64 m6, .int .u32 m7, .int .u8 m8, .int .u32 m9, .int .u8 rk, .slice oa (List.length ops) oq, .int .u32 rv, .int .i64 rn, .int .i64 rt, .int .i64 ae, .int .i64 ap, .slice va (List.length V) vq, .slice la (List.length L) lq, .slice wa (List.length WL) wq, .slice xa (List.length X) xq, .slice da (List.length D) dq, .slice na (List.length NB) nq, .int .u64 m23, .int .u64 m24, .int .i64 m25])) (hmid : ∀ j u, ms.toList[j]? = some u → os[6 + j]? = some u) (hR : ReqIn (fun g => g = cb ∨ g = xb ∨ w.heap.size ≤ g) w (.slice ao R.ops.length c) R) (hM : MsgIn (fun g => g = cb ∨ g = xb ∨ w.heap.size ≤ g) w rk rv rn rt oa va la wa xa da na oq vq lq wq xq dq nq ops V L WL X D NB) :
    Calls Try.prog 13 #[.pointer (some ⟨cb, 0, none⟩), .pointer (some ⟨xb, 0, none⟩), .agg os] w (PlayP id n seq cb xb w) := by
  by_cases k0 : kn = 0
  · subst k0
    rcases hst with ⟨hc, R0, v0, hx⟩ | ⟨rb, R0, a, ca, ao', co, hc, hr, hin, hrb, hx, hino⟩
    · exact play0_free hc hx hne h0 h1 n1 n4 q0 q1 hos o0 o1 o2 o3 o4 o5 hR
    · exact play0_busy hc hx (.inr ⟨rb, R0, a, ca, ao', co, hc, hr, hin, hrb, hx, hino⟩) hne q0 hos o0 o1 o2 o3 o4 o5 hR
  · by_cases k1 : kn = 1
    · subst k1
      exact play1_any hst h0 h1 n1 n4 q0 o0
    · by_cases k2 : kn = 2
      · subst k2
        rcases hst with ⟨hc, R0, v0, hx⟩ | ⟨rb, R0, a, ca, ao', co, hc, hr, hin, hrb, hx, hino⟩
        · exact play2_no hc hx (.inl ⟨hc, R0, v0, hx⟩) hne q0 (.inl rfl) (.inl rfl) hms hM o0 hmid
        · by_cases hy : m0 = 2 ∧ m8 = id ∧ m9 = seq
          · exact play2_yes hc hx hne q0 hy.1 hy.2.1 hy.2.2 hms hM o0 hmid
          · exact play2_no hc hx (.inr ⟨rb, R0, a, ca, ao', co, hc, hr, hin, hrb, hx, hino⟩) hne q0 (by right; omega) (by right; omega) hms hM o0 hmid
      · exact (play_3 o0 k0 k1 k2).mono fun e w' ⟨h1, h2⟩ => ⟨h1, seq, q0, by omega, hst.kept h2 (fun _ _ h => h.elim) (fun h => h) (fun h => h), h2.mono (fun _ _ h => h.elim)⟩
theorem play_nil {w : World} {kn : Int} {cb : Nat} {R : Rq} {ao : Option Addr} {c : Nat} {os : Array Value} {ms : Array Value} {m0 m1 m2 m3 m4 m5 m6 m7 m8 m9 rk rv rn rt ae ap m23 m24 m25 : Int} {oa va la wa xa da na : Option Addr} {oq vq lq wq xq dq nq : Nat} {ops : List O} {V : List Val} {L : List Int} {WL : List (Int × Int)} {X : List Vt} {D : List (Int × Int × Int)} {NB : List Int} (hcb : cb < w.heap.size)
    (hos : os.size = 32) (o0 : os[0]? = some (.int .u8 kn)) (o1 : os[1]? = some (.int .u8 R.kd)) (o2 : os[2]? = some (.slice ao R.ops.length c)) (o3 : os[3]? = some (.int .u32 R.v)) (o4 : os[4]? = some (.int .i64 R.k)) (o5 : os[5]? = some (.int .i64 R.t)) (hms : Hid (ms = #[.int .u8 m0, .int .u8 m1, .int .u8 m2, .int .u8 m3, .int .u32 m4, .int .u32 m5, .int .u64 m6, .int .u32 m7, .int .u8 m8, .int .u32 m9, .int .u8 rk, .slice oa (List.length ops) oq, .int .u32 rv, .int .i64 rn, .int .i64 rt, .int .i64 ae, .int .i64 ap, .slice va (List.length V) vq, .slice la (List.length L) lq, .slice wa (List.length WL) wq, .slice xa (List.length X) xq, .slice da (List.length D) dq, .slice na (List.length NB) nq, .int .u64 m23, .int .u64 m24, .int .i64 m25])) (hmid : ∀ j u, ms.toList[j]? = some u → os[6 + j]? = some u) (hR : ReqIn (fun g => g = cb ∨ w.heap.size ≤ g) w (.slice ao R.ops.length c) R) (hM : MsgIn (fun g => g = cb ∨ w.heap.size ≤ g) w rk rv rn rt oa va la wa xa da na oq vq lq wq xq dq nq ops V L WL X D NB) :
    Calls Try.prog 13 #[.pointer none, .pointer none, .agg os] w fun e w' => e = .returned (.bool true) ∧ Kept (fun g => g = cb) w w' := by
  by_cases k0 : kn = 0
  · subst k0
    exact play0_nil hcb hos o0 o1 o2 o3 o4 o5 hR
  · by_cases k1 : kn = 1
    · subst k1
      exact (play1_nil o0).mono fun e w' ⟨h1, h2⟩ => ⟨h1, h2.mono (fun _ _ h => h.elim)⟩
    · by_cases k2 : kn = 2
      · subst k2
        exact play2_nil hcb hms hM o0 hmid
      · exact (play_3 o0 k0 k1 k2).mono fun e w' ⟨h1, h2⟩ => ⟨h1, h2.mono (fun _ _ h => h.elim)⟩
set_option maxHeartbeats 400000 in
theorem new_bad (id n : Int) (w : World) (h : ¬ (id ≤ 3 ∧ 1 ≤ n ∧ n ≤ 4)) : Calls Try.prog 7 #[.int .u8 id, .int .i64 n] w fun e w' =>
    e = .returned (.tuple #[.pointer none, .int .i64 1]) ∧ w = w' := by
  by_cases h2 : (4 : Int) ≤ id
  · go_enter Try.func7, Try.ntmps7
    go_wp2
    go_ret2
    exact ⟨rfl, rfl⟩
  · by_cases h3 : n < 1
    · go_enter Try.func7, Try.ntmps7
      go_wp2
      go_ret2
      exact ⟨rfl, rfl⟩
    · have h4 : (4 : Int) < n := by omega
      go_enter Try.func7, Try.ntmps7
      go_wp2
      go_ret2
      exact ⟨rfl, rfl⟩
set_option maxHeartbeats 400000 in
theorem dnew_bad (id n : Int) (w : World) (h : ¬ (id ≤ 3 ∧ 1 ≤ n ∧ n ≤ 4)) : Calls Try.prog 12 #[.int .u8 id, .int .i64 n] w fun e w' =>
    e = .returned (.tuple #[.pointer none, .int .i64 1]) ∧ w = w' := by
  by_cases h2 : (3 : Int) < id
  · go_enter Try.func12, Try.ntmps12
    go_wp2
    go_ret2
    exact ⟨rfl, rfl⟩
  · by_cases h3 : n < 1
    · go_enter Try.func12, Try.ntmps12
      go_wp2
      go_ret2
      exact ⟨rfl, rfl⟩
    · have h4 : (4 : Int) < n := by omega
      go_enter Try.func12, Try.ntmps12
      go_wp2
      go_ret2
      exact ⟨rfl, rfl⟩
set_option maxHeartbeats 400000 in
theorem dnew_ok (id n : Int) (w : World) (h0 : 0 ≤ id) (h1 : id ≤ 3) (n1 : 1 ≤ n) (n4 : n ≤ 4) : Calls Try.prog 12 #[.int .u8 id, .int .i64 n] w fun e w' =>
    e = .returned (.tuple #[.pointer (some ⟨w.heap.size, 0, none⟩), .int .i64 0]) ∧ w' = w.alloc (docRow id n 0 false ⟨0, [], 0, 0, 0⟩ (.slice none 0 0)) := by
  have h2 : ¬ (3 : Int) < id := by omega
  have h3 : ¬ n < 1 := by omega
  have h4 : ¬ (4 : Int) < n := by omega
  go_enter Try.func12, Try.ntmps12
  go_wp2
  go_ret2
  exact ⟨rfl, rfl⟩
set_option maxHeartbeats 400000 in
theorem seq_nil {w : World} : Calls Try.prog 10 #[.pointer none] w fun e w' => e = .returned (.int .u32 0) ∧ w = w' := by
  go_enter Try.func10, Try.ntmps10
  go_wp2
  go_ret
  exact ⟨rfl, rfl⟩
theorem Stt.rows {F : Nat → Prop} {w : World} {id n seq : Int} {cb xb : Nat} (h : Stt F w id n seq cb xb) : (∃ rp, w.heap[cb]? = some (cliRow id n seq rp)) ∧ w.cell? ⟨xb, 2, none⟩ = some (.int .u32 seq) := by
  rcases h with ⟨h1, R, v, h2⟩ | ⟨rb, R, a, ca, ao, co, h1, h2, h3, h4, h5, h6⟩
  · exact ⟨⟨_, h1⟩, row_cell h2 2⟩
  · exact ⟨⟨_, h1⟩, row_cell h5 2⟩
section
variable {P : Program} {w : World} {b : Nat} {T : TypeId}
theorem step_load_row {ops : Array Oper} {op : Oper} {a : Act} {K : Act → World → Prop} {Q : Exit → Act → World → Prop} {E : Prop} (hw : Region.wanted op (yielded ops a.tmps) = true) (ty : TypeId) (x : Operand) (ho : op.op = .load ty x)
    (cells : Array Value) (d : TypeDesc) (hx : a.eval x = .pointer (some ⟨b, 0, none⟩)) (hb : w.heap[b]? = some (.cells cells T (0, 0))) (hu : P.underlying ty = some d) (hd : d.isRow = true) (hi : (P.info? ty).map (·.size) = some cells.size)
    (h : K (a.put op.dst (.agg cells)) w) : if Region.wanted op (yielded ops a.tmps) = true then Oper.wp P op a w K Q else E := by
  rw [if_pos hw]
  refine wp_load_mid ty x ho b 0 hx cells.toList d (range_of hb) hu hd (by simpa using hi) ?_
  simpa using h
end
end Go.Proofs.Ytnlbdlbinoebgaa
