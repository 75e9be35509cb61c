/- play in every state. -/
import Derived.Test.YtnlbdlbinoebgaaZi
namespace Go.Proofs.Ytnlbdlbinoebgaa
open Go.RowKit
theorem play1_nil {w : World} {os : Array Value} (o0 : os[0]? = some (.int .u8 1)) :
    Calls Try.prog 13 #[.pointer none, .pointer none, .agg os] w (YesK w) :=
  play_1 (P := fun ok ms _ => ok = false ∧ ms = msgZero.toArray) o0
    (fun w1 _ => again_nil.mono fun e w' ⟨h1, h2⟩ => ⟨false, _, h1, hid ⟨zero_facts.out.1, zero_facts.out.2.1⟩, ⟨rfl, rfl⟩, h2⟩)
    (fun ok ms w2 w3 ⟨h1, h2⟩ _ _ => by subst h1 h2; exact dagain_nil.mono fun e w' ⟨h1, h2⟩ => ⟨_, h1, hid ⟨zero_facts.out.1, zero_facts.out.2.1⟩, hid fun w4 _ => same_zero, h2⟩)
theorem play1_any {w : World} {id n seq : Int} {cb xb : Nat} {os : Array Value} (hst : Stt (F0 cb xb) w id n seq cb xb) (h0 : 0 ≤ id) (h1 : id ≤ 3) (n1 : 1 ≤ n) (n4 : n ≤ 4) (q0 : 0 ≤ seq) (o0 : os[0]? = some (.int .u8 1)) :
    Calls Try.prog 13 #[.pointer (some ⟨cb, 0, none⟩), .pointer (some ⟨xb, 0, none⟩), .agg os] w (PlayP id n seq cb xb w) := by
  have hend : ∀ e w', YesK w e w' → PlayP id n seq cb xb w e w' := fun e w' ⟨h1, h2⟩ => ⟨h1, seq, q0, by omega, hst.kept h2 (fun _ _ h => h.elim) (fun h => h) (fun h => h), h2.mono (fun _ _ h => h.elim)⟩
  rcases hst with ⟨hc, R, v, hx⟩ | ⟨rb, R, a, ca, ao, co, hc, hr, hin, hrb, hx, hino⟩
  · refine (play_1 (P := fun ok ms _ => ok = false ∧ ms = msgZero.toArray) o0 ?_ ?_).mono hend
    · intro w1 k1
      exact (again_none (by exact (k1.block _ (row_lt hc) (fun h => h)).trans hc)).mono fun e w' ⟨h1, h2⟩ => ⟨false, _, h1, hid ⟨zero_facts.out.1, zero_facts.out.2.1⟩, ⟨rfl, rfl⟩, h2⟩
    · rintro ok ms w2 w3 ⟨rfl, rfl⟩ _ k3
      exact (dagain_none (by exact (k3.block _ (row_lt hx) (fun h => h)).trans hx)).mono fun e w' ⟨h1, h2⟩ => ⟨_, h1, hid ⟨zero_facts.out.1, zero_facts.out.2.1⟩, hid fun w4 _ => same_zero, h2⟩
  · refine (play_1 (P := fun ok ms w' => ok = true ∧ ∃ a c, ms = (msgCells id (id % n) seq R (.slice a R.ops.length c)).toArray ∧ ReqIn (fun _ => False) w' (.slice a R.ops.length c) R) o0 ?_ ?_).mono hend
    · intro w1 k1
      refine (again_some (by exact (k1.block _ (row_lt hc) (fun h => h)).trans hc) (by exact (k1.block _ (row_lt hr) (fun h => h)).trans hr) (hin.same k1) h0 h1 n1 n4).mono ?_
      rintro e w' ⟨a', c', rfl, g1, g2⟩
      exact ⟨true, _, rfl, hid ⟨msg_facts.out.1, msg_facts.out.2.1⟩, ⟨rfl, a', c', rfl, g1.mono fun _ _ h => h.elim⟩, g2⟩
    · rintro ok ms w2 w3 ⟨rfl, a', c', rfl, g1⟩ k23 k3
      refine (dagain_some (by exact (k3.block _ (row_lt hx) (fun h => h)).trans hx) h0 h1 n1 n4).mono ?_
      rintro e w' ⟨rfl, g2⟩
      exact ⟨_, rfl, hid ⟨msg_facts.out.1, msg_facts.out.2.1⟩, hid fun w4 k4 => same_sent (((g1.same k23).same g2).same k4) (((hino.same k3).same g2).same k4), g2⟩
theorem drecv_ms_nil {w : World} {ms : Array Value} {m0 m1 m2 m3 m4 m5 m6 m7 m8 m9 rk rv rn rt ae ap m23 m24 m25 : Int} {oa va la wa xa da na : Option Addr} {oq vq lq wq xq dq nq : Nat} {ops : List O} {V : List Val} {L : List Int} {WL : List (Int × Int)} {X : List Vt} {D : List (Int × Int × Int)} {NB : List Int} (hms : Hid (ms = #[.int .u8 m0, .int .u8 m1, .int .u8 m2, .int .u8 m3, .int .u32 m4, .int .u32 m5, .int .u64 m6, .int .u32 m7, .int .u8 m8, .int .u32 m9, .int .u8 rk, .slice oa (List.length ops) oq, .int .u32 rv, .int .i64 rn, .int .i64 rt, .int .i64 ae, .int .i64 ap, .slice va (List.length V) vq, .slice la (List.length L) lq, .slice wa (List.length WL) wq, .slice xa (List.length X) xq, .slice da (List.length D) dq, .slice na (List.length NB) nq, .int .u64 m23, .int .u64 m24, .int .i64 m25])) : Calls Try.prog 25 #[.pointer none, .agg ms] w fun e w' => e = .returned (.tuple #[.agg ansZero, .bool false]) ∧ Kept (fun _ => False) w w' := by
  have e := hms.out
  subst e
  exact drecv_nil
theorem recv_ms_nil {w : World} {ms : Array Value} {m0 m1 m2 m3 m4 m5 m6 m7 m8 m9 rk rv rn rt ae ap m23 m24 m25 : Int} {oa va la wa xa da na : Option Addr} {oq vq lq wq xq dq nq : Nat} {ops : List O} {V : List Val} {L : List Int} {WL : List (Int × Int)} {X : List Vt} {D : List (Int × Int × Int)} {NB : List Int} (hms : Hid (ms = #[.int .u8 m0, .int .u8 m1, .int .u8 m2, .int .u8 m3, .int .u32 m4, .int .u32 m5, .int .u64 m6, .int .u32 m7, .int .u8 m8, .int .u32 m9, .int .u8 rk, .slice oa (List.length ops) oq, .int .u32 rv, .int .i64 rn, .int .i64 rt, .int .i64 ae, .int .i64 ap, .slice va (List.length V) vq, .slice la (List.length L) lq, .slice wa (List.length WL) wq, .slice xa (List.length X) xq, .slice da (List.length D) dq, .slice na (List.length NB) nq, .int .u64 m23, .int .u64 m24, .int .i64 m25])) : Calls Try.prog 11 #[.pointer none, .agg ms] w fun e w' => e = .returned (.tuple #[.agg ansZero, .bool false]) ∧ Kept (fun _ => False) w w' := by
  have e := hms.out
  subst e
  exact recv_nil
theorem drecv_ms_no {w : World} {xb : Nat} {id n seq : Int} {op : Bool} {R : Rq} {v : Value} {ms : Array Value} {m0 m1 m2 m3 m4 m5 m6 m7 m8 m9 rk rv rn rt ae ap m23 m24 m25 : Int} {oa va la wa xa da na : Option Addr} {oq vq lq wq xq dq nq : Nat} {ops : List O} {V : List Val} {L : List Int} {WL : List (Int × Int)} {X : List Vt} {D : List (Int × Int × Int)} {NB : List Int} (hms : Hid (ms = #[.int .u8 m0, .int .u8 m1, .int .u8 m2, .int .u8 m3, .int .u32 m4, .int .u32 m5, .int .u64 m6, .int .u32 m7, .int .u8 m8, .int .u32 m9, .int .u8 rk, .slice oa (List.length ops) oq, .int .u32 rv, .int .i64 rn, .int .i64 rt, .int .i64 ae, .int .i64 ap, .slice va (List.length V) vq, .slice la (List.length L) lq, .slice wa (List.length WL) wq, .slice xa (List.length X) xq, .slice da (List.length D) dq, .slice na (List.length NB) nq, .int .u64 m23, .int .u64 m24, .int .i64 m25])) (hc : w.heap[xb]? = some (docRow id n seq op R v)) (hno : op = false ∨ m0 ≠ 2 ∨ m8 ≠ id ∨ m9 ≠ seq) : Calls Try.prog 25 #[.pointer (some ⟨xb, 0, none⟩), .agg ms] w fun e w' => e = .returned (.tuple #[.agg ansZero, .bool false]) ∧ Kept (fun _ => False) w w' := by
  have e := hms.out
  subst e
  exact drecv_no hc hno
theorem drecv_ms_yes {w : World} {xb : Nat} {id n seq : Int} {R : Rq} {v : Value} {ms : Array Value} {m0 m1 m2 m3 m4 m5 m6 m7 m8 m9 rk rv rn rt ae ap m23 m24 m25 : Int} {oa va la wa xa da na : Option Addr} {oq vq lq wq xq dq nq : Nat} {ops : List O} {V : List Val} {L : List Int} {WL : List (Int × Int)} {X : List Vt} {D : List (Int × Int × Int)} {NB : List Int} (hms : Hid (ms = #[.int .u8 m0, .int .u8 m1, .int .u8 m2, .int .u8 m3, .int .u32 m4, .int .u32 m5, .int .u64 m6, .int .u32 m7, .int .u8 m8, .int .u32 m9, .int .u8 rk, .slice oa (List.length ops) oq, .int .u32 rv, .int .i64 rn, .int .i64 rt, .int .i64 ae, .int .i64 ap, .slice va (List.length V) vq, .slice la (List.length L) lq, .slice wa (List.length WL) wq, .slice xa (List.length X) xq, .slice da (List.length D) dq, .slice na (List.length NB) nq, .int .u64 m23, .int .u64 m24, .int .i64 m25])) (hc : w.heap[xb]? = some (docRow id n seq true R v)) (e0 : m0 = 2) (e8 : m8 = id) (e9 : m9 = seq) : Calls Try.prog 25 #[.pointer (some ⟨xb, 0, none⟩), .agg ms] w fun e w' => e = .returned (.tuple #[.agg (ansA ae ap va la V.length vq L.length lq), .bool true]) ∧ w'.heap[xb]? = some (docRow id n seq false R v) ∧ Kept (fun g => g = xb) w w' := by
  have e := hms.out
  subst e
  exact drecv_yes hc e0 e8 e9
/-- no answer: both say so -/
theorem play2_nil {w : World} {cb : Nat} {os : Array Value} {ms : Array Value} {m0 m1 m2 m3 m4 m5 m6 m7 m8 m9 rk rv rn rt ae ap m23 m24 m25 : Int} {oa va la wa xa da na : Option Addr} {oq vq lq wq xq dq nq : Nat} {ops : List O} {V : List Val} {L : List Int} {WL : List (Int × Int)} {X : List Vt} {D : List (Int × Int × Int)} {NB : List Int} (hcb : cb < w.heap.size) (hms : Hid (ms = #[.int .u8 m0, .int .u8 m1, .int .u8 m2, .int .u8 m3, .int .u32 m4, .int .u32 m5, .int .u64 m6, .int .u32 m7, .int .u8 m8, .int .u32 m9, .int .u8 rk, .slice oa (List.length ops) oq, .int .u32 rv, .int .i64 rn, .int .i64 rt, .int .i64 ae, .int .i64 ap, .slice va (List.length V) vq, .slice la (List.length L) lq, .slice wa (List.length WL) wq, .slice xa (List.length X) xq, .slice da (List.length D) dq, .slice na (List.length NB) nq, .int .u64 m23, .int .u64 m24, .int .i64 m25])) (hM : MsgIn (fun g => g = cb ∨ w.heap.size ≤ g) w rk rv rn rt oa va la wa xa da na oq vq lq wq xq dq nq ops V L WL X D NB)
    (o0 : os[0]? = some (.int .u8 2)) (hmid : ∀ j u, ms.toList[j]? = some u → os[6 + j]? = some u) :
    Calls Try.prog 13 #[.pointer none, .pointer none, .agg os] w fun e w' => e = .returned (.bool true) ∧ Kept (fun g => g = cb) w w' := by
  refine (play_2 (F := fun g => g = cb ∨ w.heap.size ≤ g) (cb := cb) (xb := cb) (P := fun _ ok ae ap V L _ => ok = false ∧ ae = 0 ∧ ap = 0 ∧ V = [] ∧ L = []) (P2 := fun _ _ => True) hms hM o0 hmid (.inl rfl) (.inl rfl) hcb hcb ?_ ?_).mono ?_
  · intro w1 ms' oa va la wa xa da na oq vq lq wq xq dq nq hms' k1 hM'
    refine (recv_ms_nil hms').mono ?_
    rintro e w' ⟨rfl, hk⟩
    exact ⟨false, 0, 0, [], [], none, 0, none, 0, rfl, Lies.nil _ _ 3, Lies.nil _ _ 1, Fl.nil, by decide, ⟨rfl, rfl, rfl, rfl, rfl⟩, hk.mono (fun _ _ h => h.elim)⟩
  · rintro w1 ok ae ap V' L' w2 w3 ⟨rfl, rfl, rfl, rfl, rfl⟩ k23 hM' k3
    refine (drecv_ms_nil hms).mono ?_
    rintro e w' ⟨rfl, hk⟩
    exact ⟨none, 0, none, 0, rfl, Lies.nil _ _ 3, Lies.nil _ _ 1, trivial, hk.mono (fun _ _ h => h.elim)⟩
  · rintro e w' ⟨rfl, _, _, _, _, _, hk⟩
    exact ⟨rfl, hk.mono fun g _ h => h.elim id id⟩
theorem play2_no {w : World} {id n seq : Int} {cb xb : Nat} {rp : Option Addr} {op : Bool} {Rx : Rq} {vx : Value} {os : Array Value} {ms : Array Value} {m0 m1 m2 m3 m4 m5 m6 m7 m8 m9 rk rv rn rt ae ap m23 m24 m25 : Int} {oa va la wa xa da na : Option Addr} {oq vq lq wq xq dq nq : Nat} {ops : List O} {V : List Val} {L : List Int} {WL : List (Int × Int)} {X : List Vt} {D : List (Int × Int × Int)} {NB : List Int} (hc : w.heap[cb]? = some (cliRow id n seq rp)) (hx : w.heap[xb]? = some (docRow id n seq op Rx vx)) (hst : Stt (F0 cb xb) w id n seq cb xb) (hne : cb ≠ xb) (q0 : 0 ≤ seq)
    (hno : rp = none ∨ m0 ≠ 2 ∨ m8 ≠ id ∨ m9 ≠ seq) (hno' : op = false ∨ m0 ≠ 2 ∨ m8 ≠ id ∨ m9 ≠ seq)
    (hms : Hid (ms = #[.int .u8 m0, .int .u8 m1, .int .u8 m2, .int .u8 m3, .int .u32 m4, .int .u32 m5, .int .u64 m6, .int .u32 m7, .int .u8 m8, .int .u32 m9, .int .u8 rk, .slice oa (List.length ops) oq, .int .u32 rv, .int .i64 rn, .int .i64 rt, .int .i64 ae, .int .i64 ap, .slice va (List.length V) vq, .slice la (List.length L) lq, .slice wa (List.length WL) wq, .slice xa (List.length X) xq, .slice da (List.length D) dq, .slice na (List.length NB) nq, .int .u64 m23, .int .u64 m24, .int .i64 m25])) (hM : MsgIn (fun g => g = cb ∨ g = xb ∨ w.heap.size ≤ g) w rk rv rn rt oa va la wa xa da na oq vq lq wq xq dq nq ops V L WL X D NB)
    (o0 : os[0]? = some (.int .u8 2)) (hmid : ∀ j u, ms.toList[j]? = some u → os[6 + j]? = some u) :
    Calls Try.prog 13 #[.pointer (some ⟨cb, 0, none⟩), .pointer (some ⟨xb, 0, none⟩), .agg os] w (PlayP id n seq cb xb w) := by
  have lc := row_lt hc
  have lx := row_lt hx
  refine (play_2 (F := fun g => g = cb ∨ g = xb ∨ w.heap.size ≤ g) (cb := cb) (xb := xb) (P := fun _ ok ae ap V L w' => (ok = false ∧ ae = 0 ∧ ap = 0 ∧ V = [] ∧ L = []) ∧ Kept (fun _ => False) w w') (P2 := fun _ w' => Stt (fun g => g = cb ∨ g = xb ∨ w.heap.size ≤ g) w' id n seq cb xb) hms hM o0 hmid (.inl rfl) (.inr (.inl rfl)) lc lx ?_ ?_).mono ?_
  · intro w1 ms' oa va la wa xa da na oq vq lq wq xq dq nq hms' k1 hM'
    refine (recv_ms_no hms' (by exact (k1.block _ lc (fun h => h)).trans hc) hno).mono ?_
    rintro e w' ⟨rfl, hk⟩
    exact ⟨false, 0, 0, [], [], none, 0, none, 0, rfl, Lies.nil _ _ 3, Lies.nil _ _ 1, Fl.nil, by decide, ⟨⟨rfl, rfl, rfl, rfl, rfl⟩, k1.trans hk⟩, hk.mono (fun _ _ h => h.elim)⟩
  · rintro w1 ok ae ap V' L' w2 w3 ⟨⟨rfl, rfl, rfl, rfl, rfl⟩, k02⟩ k23 hM' k3
    refine (drecv_ms_no hms (by exact (k3.block _ lx (fun h => hne h.symm)).trans hx) hno').mono ?_
    rintro e w' ⟨rfl, hk⟩
    refine ⟨none, 0, none, 0, rfl, Lies.nil _ _ 3, Lies.nil _ _ 1, ?_, hk.mono (fun _ _ h => h.elim)⟩
    exact (hst.mono (G := fun g => g = cb ∨ g = xb ∨ w.heap.size ≤ g) (fun g hg h => by rcases h with h | h | h; exact .inl h; exact .inr h; omega)).kept ((k02.trans k23).trans hk) (fun _ _ h => h.elim) (fun h => h) (fun h => h)
  · rintro e w' ⟨rfl, w1, w2, hs2, hw, hk, hk0⟩
    exact ⟨rfl, seq, q0, by omega, (hs2.kept hk (fun g _ (h : w1.heap.size ≤ g) => .inr (.inr (by omega))) (by omega) (by omega)).mono (fun g _ h => by rcases h with h | h; exact .inl h; exact .inr (.inl h)), hk0⟩
theorem play2_yes {w : World} {id n seq : Int} {cb xb : Nat} {rb : Addr} {Rx : Rq} {vx : Value} {os : Array Value} {ms : Array Value} {m0 m1 m2 m3 m4 m5 m6 m7 m8 m9 rk rv rn rt ae ap m23 m24 m25 : Int} {oa va la wa xa da na : Option Addr} {oq vq lq wq xq dq nq : Nat} {ops : List O} {V : List Val} {L : List Int} {WL : List (Int × Int)} {X : List Vt} {D : List (Int × Int × Int)} {NB : List Int} (hc : w.heap[cb]? = some (cliRow id n seq (some rb))) (hx : w.heap[xb]? = some (docRow id n seq true Rx vx)) (hne : cb ≠ xb) (q0 : 0 ≤ seq)
    (e0 : m0 = 2) (e8 : m8 = id) (e9 : m9 = seq)
    (hms : Hid (ms = #[.int .u8 m0, .int .u8 m1, .int .u8 m2, .int .u8 m3, .int .u32 m4, .int .u32 m5, .int .u64 m6, .int .u32 m7, .int .u8 m8, .int .u32 m9, .int .u8 rk, .slice oa (List.length ops) oq, .int .u32 rv, .int .i64 rn, .int .i64 rt, .int .i64 ae, .int .i64 ap, .slice va (List.length V) vq, .slice la (List.length L) lq, .slice wa (List.length WL) wq, .slice xa (List.length X) xq, .slice da (List.length D) dq, .slice na (List.length NB) nq, .int .u64 m23, .int .u64 m24, .int .i64 m25])) (hM : MsgIn (fun g => g = cb ∨ g = xb ∨ w.heap.size ≤ g) w rk rv rn rt oa va la wa xa da na oq vq lq wq xq dq nq ops V L WL X D NB)
    (o0 : os[0]? = some (.int .u8 2)) (hmid : ∀ j u, ms.toList[j]? = some u → os[6 + j]? = some u) :
    Calls Try.prog 13 #[.pointer (some ⟨cb, 0, none⟩), .pointer (some ⟨xb, 0, none⟩), .agg os] w (PlayP id n seq cb xb w) := by
  have lc := row_lt hc
  have lx := row_lt hx
  refine (play_2 (F := fun g => g = cb ∨ g = xb ∨ w.heap.size ≤ g) (cb := cb) (xb := xb) (P := fun _ ok ae' ap' V' L' w' => ok = true ∧ ae' = ae ∧ ap' = ap ∧ V' = V ∧ L' = L ∧ w'.heap[cb]? = some (cliRow id n seq none)) (P2 := fun _ w' => w'.heap[cb]? = some (cliRow id n seq none) ∧ w'.heap[xb]? = some (docRow id n seq false Rx vx)) hms hM o0 hmid (.inl rfl) (.inr (.inl rfl)) lc lx ?_ ?_).mono ?_
  · intro w1 ms' oa' va' la' wa' xa' da' na' oq' vq' lq' wq' xq' dq' nq' hms' k1 hM'
    refine (recv_ms_t (F := fun g => g < w.heap.size) lc hms' e0 e8 e9 hM' (by exact (k1.block _ lc (fun h => h)).trans hc)).mono ?_
    rintro e w' ⟨ans, va2, vq2, la2, lq2, rfl, hans, g1, g2, g3, g4, g5⟩
    have ea := hans.out
    subst ea
    refine ⟨true, ae, ap, V, L, va2, vq2, la2, lq2, rfl, g1, g2, ?_, by have : L.length * 4 ≤ _ := hM.bl; omega, ⟨rfl, rfl, rfl, rfl, rfl, g3⟩, g4⟩
    intro j hj
    obtain ⟨g, o, ee, f1, f2, f3⟩ := g5 (by omega)
    obtain ⟨g', o', ee2, hcell⟩ := Lies.el (enc := nuC) (fun _ => rfl) g2 rfl (Kept.refl _ w') (k := j) (x := L[j]) (List.getElem?_eq_getElem hj)
    rw [ee] at ee2
    cases ee2
    exact ⟨g, o, L[j], ee, Nat.le_of_not_lt f1, f2, hcell 0 _ rfl, f3 _⟩
  · rintro w1 ok ae' ap' V' L' w2 w3 ⟨rfl, rfl, rfl, rfl, rfl, hcc⟩ k23 hM' k3
    refine (drecv_ms_yes hms (by exact (k3.block _ lx (fun h => hne h.symm)).trans hx) e0 e8 e9).mono ?_
    rintro e w' ⟨rfl, hx', hk⟩
    have hM2 := hM'.kept (G := fun g => g = xb) hk (fun g _ h => .inr (.inl h))
    refine ⟨va, vq, la, lq, rfl, hM2.hv, hM2.hl, ⟨?_, hx'⟩, hk⟩
    exact (hk.block _ (Nat.lt_of_lt_of_le (row_lt hcc) k23.size) hne).trans ((k23.block _ (row_lt hcc) (fun h => h)).trans hcc)
  · rintro e w' ⟨rfl, w1, w2, ⟨h1, h2⟩, hw, hk, hk0⟩
    exact ⟨rfl, seq, q0, by omega, .inl ⟨(hk.block _ (row_lt h1) (by omega)).trans h1, Rx, vx, (hk.block _ (row_lt h2) (by omega)).trans h2⟩, hk0⟩
end Go.Proofs.Ytnlbdlbinoebgaa
