/- Both clients' state; play of a call. -/
import Derived.Test.YtnlbdlbinoebgaaZh
namespace Go.Proofs.Ytnlbdlbinoebgaa
open Go.RowKit
def Stt (F : Nat → Prop) (w : World) (id n seq : Int) (cb xb : Nat) : Prop :=
  (w.heap[cb]? = some (cliRow id n seq none) ∧ ∃ R v, w.heap[xb]? = some (docRow id n seq false R v)) ∨
  (∃ rb R a ca ao co, w.heap[cb]? = some (cliRow id n seq (some ⟨rb, 0, none⟩)) ∧ w.heap[rb]? = some (reqRow R (.slice a R.ops.length ca)) ∧ ReqIn F w (.slice a R.ops.length ca) R ∧ ¬ F rb ∧ w.heap[xb]? = some (docRow id n seq true R (.slice ao R.ops.length co)) ∧ ReqIn F w (.slice ao R.ops.length co) R)
theorem Stt.mono {F G : Nat → Prop} {w : World} {id n seq : Int} {cb xb : Nat} (h : Stt F w id n seq cb xb) (hg : ∀ g, g < w.heap.size → G g → F g) : Stt G w id n seq cb xb := by
  rcases h with h | ⟨rb, R, a, ca, ao, co, h1, h2, h3, h4, h5, h6⟩
  · exact .inl h
  · exact .inr ⟨rb, R, a, ca, ao, co, h1, h2, h3.mono hg, fun h => h4 (hg rb (row_lt h2) h), h5, h6.mono hg⟩
theorem Stt.kept {F G : Nat → Prop} {w w' : World} {id n seq : Int} {cb xb : Nat} (h : Stt F w id n seq cb xb) (k : Kept G w w') (hg : ∀ g, g < w.heap.size → G g → F g) (hc : ¬ G cb) (hx : ¬ G xb) : Stt F w' id n seq cb xb := by
  rcases h with ⟨h1, R, v, h2⟩ | ⟨rb, R, a, ca, ao, co, h1, h2, h3, h4, h5, h6⟩
  · exact .inl ⟨(k.block _ (row_lt h1) hc).trans h1, R, v, (k.block _ (row_lt h2) hx).trans h2⟩
  · exact .inr ⟨rb, R, a, ca, ao, co, (k.block _ (row_lt h1) hc).trans h1, (k.block _ (row_lt h2) (fun h => h4 (hg rb (row_lt h2) h))).trans h2, h3.kept k hg, h4, (k.block _ (row_lt h5) hx).trans h5, h6.kept k hg⟩
theorem Stt.lt {F : Nat → Prop} {w : World} {id n seq : Int} {cb xb : Nat} (h : Stt F w id n seq cb xb) : cb < w.heap.size ∧ xb < w.heap.size := by
  rcases h with ⟨h1, R, v, h2⟩ | ⟨rb, R, a, ca, ao, co, h1, h2, h3, h4, h5, h6⟩
  · exact ⟨row_lt h1, row_lt h2⟩
  · exact ⟨row_lt h1, row_lt h5⟩
def F0 (cb xb : Nat) (g : Nat) : Prop := g = cb ∨ g = xb
/-- what play leaves -/
def PlayP (id n seq : Int) (cb xb : Nat) (w : World) (e : Ending) (w' : World) : Prop :=
  e = .returned (.bool true) ∧ ∃ seq', 0 ≤ seq' ∧ seq' ≤ seq + 1 ∧ Stt (F0 cb xb) w' id n seq' cb xb ∧ Kept (F0 cb xb) w w'
theorem zero_facts : Hid (msgZero.toArray.size = 26 ∧ msgZero.toArray.all (·.oneCell') = true ∧ msgZero.toArray[11]? = some (.slice none 0 0)) := hid ⟨rfl, by simp [msgZero, Value.oneCell'], rfl⟩
theorem msg_facts {id tt seq : Int} {R : Rq} {a : Option Addr} {c : Nat} : Hid ((msgCells id tt seq R (.slice a R.ops.length c)).toArray.size = 26 ∧ (msgCells id tt seq R (.slice a R.ops.length c)).toArray.all (·.oneCell') = true ∧ (msgCells id tt seq R (.slice a R.ops.length c)).toArray[11]? = some (.slice a R.ops.length c)) := hid ⟨rfl, by simp [msgCells, Value.oneCell'], rfl⟩
theorem oplen {F : Nat → Prop} {w : World} {v : Value} {R : Rq} (h : ReqIn F w v R) : R.ops.length ≤ 9223372036854775807 := by have : R.ops.length * 48 ≤ _ := h.b; omega
/-- a call of a nil client; cb: any block that the script does not name -/
theorem play0_nil {w : World} {cb : Nat} {R : Rq} {ao : Option Addr} {c : Nat} {os : Array Value} (hcb : cb < w.heap.size)
    (hos : os.size = 32) (o0 : os[0]? = some (.int .u8 0)) (o1 : os[1]? = some (.int .u8 R.kd)) (o2 : os[2]? = some (.slice ao R.ops.length c)) (o3 : os[3]? = some (.int .u32 R.v)) (o4 : os[4]? = some (.int .i64 R.k)) (o5 : os[5]? = some (.int .i64 R.t))
    (hR : ReqIn (fun g => g = cb ∨ w.heap.size ≤ g) w (.slice ao R.ops.length c) R) :
    Calls Try.prog 13 #[.pointer none, .pointer none, .agg os] w fun e w' => e = .returned (.bool true) ∧ Kept (fun g => g = cb) w w' := by
  refine (play_0 (F := fun g => g = cb ∨ w.heap.size ≤ g) (cb := cb) (xb := cb)
    (P := fun _ _ er ms _ => er = callN R ∧ ms = msgZero.toArray) (P2 := fun _ _ _ => True)
    hos o0 o1 o2 o3 o4 o5 hR (.inl rfl) (.inl rfl) hcb hcb ?_ ?_).mono ?_
  · intro w1 a q k1 hin
    refine (call_nx hin).mono ?_
    rintro e w' ⟨rfl, hk⟩
    exact ⟨w1.heap.size, _, _, none, 0, 0, rfl, zero_facts, Fl.nil, Nat.le_refl _, by decide, ⟨rfl, rfl⟩, hk.mono (fun _ _ h => h.elim)⟩
  · rintro w1 m er ms w2 w3 ⟨rfl, rfl⟩ k23 hin k3
    refine (dcall_nx hin).mono ?_
    rintro e w' ⟨rfl, hk⟩
    exact ⟨_, rfl, hid ⟨zero_facts.out.1, zero_facts.out.2.1⟩, hid fun w4 _ => same_zero, trivial, hk.mono (fun _ _ h => h.elim)⟩
  · rintro e w' ⟨rfl, _, _, _, _, _, _, _, hk⟩
    exact ⟨rfl, hk.mono fun g _ h => h.elim id id⟩
/-- a call of a client that has a request outstanding -/
theorem play0_busy {w : World} {id n seq : Int} {cb xb rb : Nat} {R Rx : Rq} {vx : Value} {ao : Option Addr} {c : Nat} {os : Array Value}
    (hc : w.heap[cb]? = some (cliRow id n seq (some ⟨rb, 0, none⟩))) (hx : w.heap[xb]? = some (docRow id n seq true Rx vx)) (hs : Stt (F0 cb xb) w id n seq cb xb) (hne : cb ≠ xb) (q0 : 0 ≤ seq)
    (hos : os.size = 32) (o0 : os[0]? = some (.int .u8 0)) (o1 : os[1]? = some (.int .u8 R.kd)) (o2 : os[2]? = some (.slice ao R.ops.length c)) (o3 : os[3]? = some (.int .u32 R.v)) (o4 : os[4]? = some (.int .i64 R.k)) (o5 : os[5]? = some (.int .i64 R.t))
    (hR : ReqIn (fun g => g = cb ∨ g = xb ∨ w.heap.size ≤ g) w (.slice ao R.ops.length c) R) :
    Calls Try.prog 13 #[.pointer (some ⟨cb, 0, none⟩), .pointer (some ⟨xb, 0, none⟩), .agg os] w (PlayP id n seq cb xb w) := by
  have lc := row_lt hc
  have lx := row_lt hx
  refine (play_0 (F := fun g => g = cb ∨ g = xb ∨ w.heap.size ≤ g) (cb := cb) (xb := xb)
    (P := fun w1 m er ms w' => w.heap.size ≤ w1.heap.size ∧ w1.heap.size ≤ m ∧ er = callI R n true ∧ ms = msgZero.toArray ∧ Kept (fun _ => False) w w')
    (P2 := fun w1 m w' => w.heap.size ≤ m ∧ Stt (fun g => g = cb ∨ g = xb ∨ w.heap.size ≤ g) w' id n seq cb xb)
    hos o0 o1 o2 o3 o4 o5 hR (.inl rfl) (.inr (.inl rfl)) lc lx ?_ ?_).mono ?_
  · intro w1 a q k1 hin
    refine (call_bx (by exact (k1.block _ lc (fun h => h)).trans hc) hin).mono ?_
    rintro e w' ⟨rfl, hk⟩
    exact ⟨w1.heap.size, _, _, none, 0, 0, rfl, zero_facts, Fl.nil, Nat.le_refl _, by decide, ⟨k1.size, Nat.le_refl _, rfl, rfl, k1.trans hk⟩, hk.mono (fun _ _ h => h.elim)⟩
  · intro w1 m er ms w2 w3 hp k23 hin k3
    obtain ⟨hw1, hm1, rfl, rfl, k02⟩ := hp
    have hx3 := (k3.block _ lx (fun h => hne h.symm)).trans hx
    refine (dcall_bx (by exact hx3) hin).mono ?_
    rintro e w' ⟨rfl, hk⟩
    refine ⟨_, rfl, hid ⟨zero_facts.out.1, zero_facts.out.2.1⟩, hid fun w4 _ => same_zero, ⟨Nat.le_trans hw1 hm1, ?_⟩, hk.mono (fun _ _ h => h.elim)⟩
    exact (hs.mono (G := fun g => g = cb ∨ g = xb ∨ w.heap.size ≤ g) (fun g hg h => by rcases h with h | h | h; exact .inl h; exact .inr h; omega)).kept ((k02.trans k23).trans hk) (fun _ _ h => h.elim) (fun h => h) (fun h => h)
  · rintro e w' ⟨rfl, w1, m, w2, ⟨hm2, hs2⟩, hw, hm, hk, hk0⟩
    exact ⟨rfl, seq, q0, by omega, (hs2.kept hk (fun g _ h => by rcases h with h | h; exact .inr (.inr h.1); exact .inr (.inr (by omega))) (by omega) (by omega)).mono (fun g _ h => by rcases h with h | h; exact .inl h; exact .inr (.inl h)), hk0⟩
/-- a call of a client that has nothing outstanding -/
theorem play0_free {w : World} {id n seq : Int} {cb xb : Nat} {R R0 : Rq} {v0 : Value} {ao : Option Addr} {c : Nat} {os : Array Value}
    (hc : w.heap[cb]? = some (cliRow id n seq none)) (hx : w.heap[xb]? = some (docRow id n seq false R0 v0)) (hne : cb ≠ xb) (h0 : 0 ≤ id) (h1 : id ≤ 3) (n1 : 1 ≤ n) (n4 : n ≤ 4) (q0 : 0 ≤ seq) (q1 : seq ≤ 1000)
    (hos : os.size = 32) (o0 : os[0]? = some (.int .u8 0)) (o1 : os[1]? = some (.int .u8 R.kd)) (o2 : os[2]? = some (.slice ao R.ops.length c)) (o3 : os[3]? = some (.int .u32 R.v)) (o4 : os[4]? = some (.int .i64 R.k)) (o5 : os[5]? = some (.int .i64 R.t))
    (hR : ReqIn (fun g => g = cb ∨ g = xb ∨ w.heap.size ≤ g) w (.slice ao R.ops.length c) R) :
    Calls Try.prog 13 #[.pointer (some ⟨cb, 0, none⟩), .pointer (some ⟨xb, 0, none⟩), .agg os] w (PlayP id n seq cb xb w) := by
  have lc := row_lt hc
  have lx := row_lt hx
  refine (play_0 (F := fun g => g = cb ∨ g = xb ∨ w.heap.size ≤ g) (cb := cb) (xb := xb)
    (P := fun w1 m er ms w' => w.heap.size ≤ w1.heap.size ∧ w1.heap.size ≤ m ∧ ((er ≠ 0 ∧ er = callI R n false ∧ ms = msgZero.toArray ∧ w'.heap[cb]? = some (cliRow id n seq none)) ∨
      (callI R n false = 0 ∧ er = 0 ∧ ∃ rb a c a2 c2, ms = (msgCells id (id % n) (seq + 1) R (.slice a R.ops.length c)).toArray ∧ ReqIn (fun g => g < m) w' (.slice a R.ops.length c) R ∧ w'.heap[cb]? = some (cliRow id n (seq + 1) (some ⟨rb, 0, none⟩)) ∧ w'.heap[rb]? = some (reqRow R (.slice a2 R.ops.length c2)) ∧ ReqIn (fun g => g < w1.heap.size ∨ m ≤ g) w' (.slice a2 R.ops.length c2) R ∧ w1.heap.size ≤ rb ∧ rb < m)))
    (P2 := fun w1 m w' => ∃ seq', 0 ≤ seq' ∧ seq' ≤ seq + 1 ∧ Stt (fun g => g = cb ∨ g = xb ∨ (w.heap.size ≤ g ∧ g < w1.heap.size) ∨ m ≤ g) w' id n seq' cb xb)
    hos o0 o1 o2 o3 o4 o5 hR (.inl rfl) (.inr (.inl rfl)) lc lx ?_ ?_).mono ?_
  · intro w1 a q k1 hin
    refine (call_x (by exact (k1.block _ lc (fun h => h)).trans hc) hin h0 h1 n1 n4 q0 q1).mono ?_
    rintro e w' (⟨hne0, rfl, hk⟩ | ⟨he0, m, rb, a, c', a2, c2, rfl, g1, g2, g3, g4, g5, g6, g7, g8, g9⟩)
    · exact ⟨w1.heap.size, _, _, none, 0, 0, rfl, zero_facts, Fl.nil, Nat.le_refl _, by decide, ⟨k1.size, Nat.le_refl _, .inl ⟨hne0, rfl, rfl, (hk.block _ (Nat.lt_of_lt_of_le lc k1.size) (fun h => h)).trans ((k1.block _ lc (fun h => h)).trans hc)⟩⟩, hk.mono (fun _ _ h => h.elim)⟩
    · exact ⟨m, _, _, a, _, c', rfl, msg_facts, Fl.of g1.l g8 (fun g _ h => Nat.le_of_not_lt h) (.inr rfl), g7, oplen g1, ⟨k1.size, g7, .inr ⟨he0, rfl, rb, a, c', a2, c2, rfl, g1, g2, g3, g4, g5, g6⟩⟩, g9⟩
  · intro w1 m er ms w2 w3 hp k23 hin k3
    have hx3 := (k3.block _ lx (fun h => hne h.symm)).trans hx
    obtain ⟨hw1, hm1, hp⟩ := hp
    refine (dcall_x (by exact hx3) hin h0 h1 n1 n4 q0 q1).mono ?_
    rintro e w' (⟨hne0, rfl, hk⟩ | ⟨he0, rfl, hx', hk⟩)
    · rcases hp with ⟨hn', rfl, rfl, hcc⟩ | ⟨he, _⟩
      · refine ⟨_, rfl, hid ⟨zero_facts.out.1, zero_facts.out.2.1⟩, hid fun w4 _ => same_zero, ⟨seq, q0, by omega, .inl ⟨?_, R0, v0, ?_⟩⟩, hk.mono (fun _ _ h => h.elim)⟩
        · exact (hk.block _ (Nat.lt_of_lt_of_le (row_lt hcc) k23.size) (fun h => h)).trans ((k23.block _ (row_lt hcc) (fun h => h)).trans hcc)
        · exact (hk.block _ (row_lt hx3) (fun h => h)).trans hx3
      · exact absurd he hne0
    · rcases hp with ⟨hn', rfl, rfl, hcc⟩ | ⟨_, rfl, rb, a, c', a2, c2, rfl, g1, g2, g3, g4, g5, g6⟩
      · exact absurd he0 hn'
      · have kk : Kept (fun g => g = xb) w2 w' := (k23.mono (fun _ _ h => h.elim)).trans hk
        refine ⟨_, rfl, hid ⟨msg_facts.out.1, msg_facts.out.2.1⟩, hid fun w4 k4 => same_sent (((g1.kept (G := fun g => g = xb) kk (fun g _ h => by show g < m; omega)).same k4)) ((hin.kept (G := fun g => g = xb) hk (fun g _ h => .inr (.inl h))).same k4), ⟨seq + 1, by omega, by omega, .inr ⟨rb, R, a2, c2, ao, c, ?_, ?_, ?_, ?_, hx', ?_⟩⟩, hk⟩
        · exact (kk.block _ (row_lt g2) hne).trans g2
        · exact (kk.block _ (row_lt g3) (by omega)).trans g3
        · exact (g4.mono (G := fun g => g = cb ∨ g = xb ∨ (w.heap.size ≤ g ∧ g < w1.heap.size) ∨ m ≤ g) (fun g _ h => by omega)).kept kk (fun g _ h => .inr (.inl h))
        · omega
        · exact (hin.mono (G := fun g => g = cb ∨ g = xb ∨ (w.heap.size ≤ g ∧ g < w1.heap.size) ∨ m ≤ g) (fun g _ h => by omega)).kept hk (fun g _ h => .inr (.inl h))
  · rintro e w' ⟨rfl, w1, m, w2, ⟨seq', s0, s1, hs⟩, hw, hm, hk, hk0⟩
    exact ⟨rfl, seq', s0, s1, (hs.kept hk (fun g _ h => by rcases h with h | h; exact .inr (.inr (.inl h)); exact .inr (.inr (.inr h))) (by omega) (by omega)).mono (fun g _ h => by rcases h with h | h; exact .inl h; exact .inr (.inl h)), hk0⟩
end Go.Proofs.Ytnlbdlbinoebgaa
