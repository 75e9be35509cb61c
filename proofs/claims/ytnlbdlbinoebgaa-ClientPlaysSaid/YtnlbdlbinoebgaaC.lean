/- A client in memory: New, Seq, TwinReq, message. -/
import Derived.Test.YtnlbdlbinoebgaaB
import Derived.Test.YtnlbdlbinoebgaaPut
namespace Go.Proofs.Ytnlbdlbinoebgaa
open Go.RowKit

def cliRow (id n seq : Int) (rp : Option Addr) : Obj := .cells #[.int .u8 id, .int .i64 n, .int .u32 seq, .pointer rp] 70
set_option maxHeartbeats 400000 in
theorem new_ok (id n : Int) (w : World) (h0 : 0 ≤ id) (h1 : id ≤ 3) (n1 : 1 ≤ n) (n4 : n ≤ 4) : Calls Try.prog 7 #[.int .u8 id, .int .i64 n] w fun e w' =>
    e = .returned (.tuple #[.pointer (some ⟨w.heap.size, 0, none⟩), .int .i64 0]) ∧ w' = w.alloc (cliRow id n 0 none) := by
  have h2 : ¬ (4 : Int) ≤ id := by omega
  have h3 : ¬ n < 1 := by omega
  have h4 : ¬ (4 : Int) < n := by omega
  go_enter Try.func7, Try.ntmps7
  go_wp2
  go_ret2
  exact ⟨rfl, rfl⟩
set_option maxHeartbeats 400000 in
theorem seq_any {w : World} {cb : Nat} {id n seq : Int} {rp : Option Addr} (h : w.heap[cb]? = some (cliRow id n seq rp)) : Calls Try.prog 10 #[.pointer (some ⟨cb, 0, none⟩)] w fun e w' => e = .returned (.int .u32 seq) ∧ w = w' := by
  obtain ⟨c0, c1, c2, c3, c4⟩ := cells4 h
  clear h
  go_enter Try.func10, Try.ntmps10
  go_wp2
  go_ret
  exact ⟨rfl, rfl⟩

set_option maxRecDepth 100000 in
set_option maxHeartbeats 1000000 in
theorem twinreq_any {F : Nat → Prop} {w : World} {v : Value} {R : Rq} (h : ReqIn F w v R) : Calls Try.prog 9 #[.agg #[.int .u8 R.kd, v, .int .u32 R.v, .int .i64 R.k, .int .i64 R.t]] w fun e w' =>
    ∃ a c, e = .returned (.agg #[.int .u8 R.kd, .slice a R.ops.length c, .int .u32 R.v, .int .i64 R.k, .int .i64 R.t]) ∧ ReqIn (fun g => g < w.heap.size) w' (.slice a R.ops.length c) R ∧ Kept (fun _ => False) w w' := by
  have H := hid h
  obtain ⟨ao, c, rfl, m1, m2, _⟩ := h.l
  clear h m1 m2
  obtain ⟨kd, ops, vv, k, t⟩ := R
  have hn2 := two_new w (.cells #[.int .u8 kd, .slice ao ops.length c, .int .u32 vv, .int .i64 k, .int .i64 t] 31) (.cells #[.int .u8 0, .slice none 0 0, .int .u32 0, .int .i64 0, .int .i64 0] 31)
  have N2 := hid hn2; clear hn2
  have HE : Hid (Own (((w.alloc (.cells #[.int .u8 kd, .slice ao ops.length c, .int .u32 vv, .int .i64 k, .int .i64 t] 31)).alloc (.cells #[.int .u8 0, .slice none 0 0, .int .u32 0, .int .i64 0, .int .i64 0] 31)).alloc (.cells #[] 81)) 81 7 (.slice (some ⟨w.heap.size + 1 + 1, 0, none⟩) 0 0) 0 []) :=
    hid (by have := own_empty ((w.alloc (.cells #[.int .u8 kd, .slice ao ops.length c, .int .u32 vv, .int .i64 k, .int .i64 t] 31)).alloc (.cells #[.int .u8 0, .slice none 0 0, .int .u32 0, .int .i64 0, .int .i64 0] 31)) 81 7; simpa using this)
  have HB : Hid (ops.length * 48 ≤ 140737488351232) := hid H.out.b
  go_enter Try.func9, Try.ntmps9
  go_wp2_with (at_builtin; refine wpList_app (o := ⟨some 6, _, _, _, _, _⟩) rfl (.tmp 3) (.tmp 5) 29 rfl 81 (.agg #[.int .u8 0, .int .u32 0, .int .u32 0, .int .u8 0, .int .u8 0, .int .i64 0, .string ByteArray.empty]) 7 48 Try.underlying29 infoO rfl (by decide) _ 0 [] rfl (by exact HE.out) _ rfl ops.length (ocells ops) ?c1 ?c2 ?c3 ?_)
  case c1 => exact (H.out.l.same ((((Kept.refl (fun _ => False) _).alloc _).alloc _).alloc _)).src
  case c2 => have := HB.out; simp only [maxLen]; omega
  case c3 => have := HB.out; omega
  intro a4 c4 w4 hown hk hf _
  have hfr : ∀ g, (Value.slice a4 ops.length c4).ownBlock = some g → w.heap.size + 2 ≤ g := fun g hg => by
    rcases hf g hg with h | h
    · simp [Value.ownBlock] at h; omega
    · (try simp at h); omega
  have HV := hid (hown.lies (F := fun g => g < w.heap.size + 2) (ocells_one _) fun g hg hlt => by have := hfr g hg; omega)
  have hk' := ((((Kept.refl (fun _ => False) w).alloc (.cells #[.int .u8 kd, .slice ao ops.length c, .int .u32 vv, .int .i64 k, .int .i64 t] 31)).alloc (.cells #[.int .u8 0, .slice none 0 0, .int .u32 0, .int .i64 0, .int .i64 0] 31)).alloc (.cells #[] 81)).trans' hk (fun i hi => by simp [Value.ownBlock] at hi; right; omega)
  have HK := hid hk'
  have hb1 := (hk.block _ (Nat.lt_of_lt_of_le (row_lt N2.out.1) (by simp)) (by simp [Value.ownBlock]; omega)).trans (row_old N2.out.1 _)
  have hb2 := (hk.block _ (Nat.lt_of_lt_of_le (row_lt N2.out.2) (by simp)) (by simp [Value.ownBlock])).trans (row_old N2.out.2 _)
  clear hown hk hf hfr hk'
  obtain ⟨x0, x1, x2, x3, x4, x5⟩ := cells5 hb1
  have hb2' := row_other hb2 (a := ⟨w.heap.size, 1, none⟩) (by simp) (.slice a4 ops.length c4)
  obtain ⟨y0, y1, y2, y3, y4⟩ := set5c hb2' (.int .u8 kd) (.slice a4 ops.length c4) (.int .u32 vv) (.int .i64 k) (.int .i64 t)
  obtain ⟨u0, u1, u2, u3, u4, u5⟩ := cells5 hb2'
  obtain ⟨v0, v1, v2, v3, v4, v5⟩ := cells5 (row_set5 hb1 (.slice a4 ops.length c4))
  clear hb1 hb2 hb2'
  go_wp2_with fail
  refine bodyPost_ret (v := .agg #[.int .u8 kd, .slice a4 ops.length c4, .int .u32 vv, .int .i64 k, .int .i64 t]) (by simp [results, Try.results9, go_sem, y0, y1, y2, y3, y4]) rfl ⟨a4, c4, rfl, ?_, ?_⟩
  · have K := ((((((Kept.refl (fun g => g = w.heap.size ∨ g = w.heap.size + 1) w4).setCell (p := ⟨w.heap.size, 1, none⟩) (.inl (.inl rfl)) (.slice a4 ops.length c4)).setCell (p := ⟨w.heap.size + 1, 0, none⟩) (.inl (.inr rfl)) (.int .u8 kd)).setCell (p := ⟨w.heap.size + 1, 1, none⟩) (.inl (.inr rfl)) (.slice a4 ops.length c4)).setCell (p := ⟨w.heap.size + 1, 2, none⟩) (.inl (.inr rfl)) (.int .u32 vv)).setCell (p := ⟨w.heap.size + 1, 3, none⟩) (.inl (.inr rfl)) (.int .i64 k)).setCell (p := ⟨w.heap.size + 1, 4, none⟩) (.inl (.inr rfl)) (.int .i64 t)
    exact ⟨(HV.out.kept K fun g _ hg => by omega).mono fun g _ hg => by omega, H.out.b, H.out.s⟩
  · exact ((((((HK.out).setCell (.inr (Nat.le_refl _)) _).setCell (.inr (Nat.le_succ _)) _).setCell (.inr (Nat.le_succ _)) _).setCell (.inr (Nat.le_succ _)) _).setCell (.inr (Nat.le_succ _)) _).setCell (.inr (Nat.le_succ _)) _

/-- a request's message -/
def msgCells (id to seq : Int) (R : Rq) (v : Value) : List Value :=
  [.int .u8 1, .int .u8 id, .int .u8 to, .int .u8 0, .int .u32 0, .int .u32 0, .int .u64 0, .int .u32 0, .int .u8 id, .int .u32 seq, .int .u8 R.kd, v, .int .u32 R.v, .int .i64 R.k, .int .i64 R.t,
   .int .i64 0, .int .i64 0, .slice none 0 0, .slice none 0 0, .slice none 0 0, .slice none 0 0, .slice none 0 0, .slice none 0 0, .int .u64 0, .int .u64 0, .int .i64 0]
def msgZero : List Value :=
  [.int .u8 0, .int .u8 0, .int .u8 0, .int .u8 0, .int .u32 0, .int .u32 0, .int .u64 0, .int .u32 0, .int .u8 0, .int .u32 0, .int .u8 0, .slice none 0 0, .int .u32 0, .int .i64 0, .int .i64 0,
   .int .i64 0, .int .i64 0, .slice none 0 0, .slice none 0 0, .slice none 0 0, .slice none 0 0, .slice none 0 0, .slice none 0 0, .int .u64 0, .int .u64 0, .int .i64 0]

theorem msg_there {w : World} {b : Nat} (h : w.heap[b]? = some (.cells msgZero.toArray 44 (0, 0))) :
    w.cell? ⟨b, 0, none⟩ = some (.int .u8 0) ∧ w.cell? ⟨b, 1, none⟩ = some (.int .u8 0) ∧ w.cell? ⟨b, 2, none⟩ = some (.int .u8 0) ∧ w.cell? ⟨b, 3, none⟩ = some (.int .u8 0) ∧ w.cell? ⟨b, 4, none⟩ = some (.int .u32 0) ∧ w.cell? ⟨b, 5, none⟩ = some (.int .u32 0) ∧ w.cell? ⟨b, 6, none⟩ = some (.int .u64 0) ∧ w.cell? ⟨b, 7, none⟩ = some (.int .u32 0) ∧ w.cell? ⟨b, 8, none⟩ = some (.int .u8 0) ∧ w.cell? ⟨b, 9, none⟩ = some (.int .u32 0) ∧ w.cell? ⟨b, 10, none⟩ = some (.int .u8 0) ∧ w.cell? ⟨b, 11, none⟩ = some (.slice none 0 0) ∧ w.cell? ⟨b, 12, none⟩ = some (.int .u32 0) ∧ w.cell? ⟨b, 13, none⟩ = some (.int .i64 0) ∧ w.cell? ⟨b, 14, none⟩ = some (.int .i64 0) ∧ w.cell? ⟨b, 15, none⟩ = some (.int .i64 0) ∧ w.cell? ⟨b, 16, none⟩ = some (.int .i64 0) ∧ w.cell? ⟨b, 17, none⟩ = some (.slice none 0 0) ∧ w.cell? ⟨b, 18, none⟩ = some (.slice none 0 0) ∧ w.cell? ⟨b, 19, none⟩ = some (.slice none 0 0) ∧ w.cell? ⟨b, 20, none⟩ = some (.slice none 0 0) ∧ w.cell? ⟨b, 21, none⟩ = some (.slice none 0 0) ∧ w.cell? ⟨b, 22, none⟩ = some (.slice none 0 0) ∧ w.cell? ⟨b, 23, none⟩ = some (.int .u64 0) ∧ w.cell? ⟨b, 24, none⟩ = some (.int .u64 0) ∧ w.cell? ⟨b, 25, none⟩ = some (.int .i64 0) ∧ (∀ i, w.frozen? ⟨b, i, none⟩ = false) :=
  ⟨row_cell h 0, row_cell h 1, row_cell h 2, row_cell h 3, row_cell h 4, row_cell h 5, row_cell h 6, row_cell h 7, row_cell h 8, row_cell h 9, row_cell h 10, row_cell h 11, row_cell h 12, row_cell h 13, row_cell h 14, row_cell h 15, row_cell h 16, row_cell h 17, row_cell h 18, row_cell h 19, row_cell h 20, row_cell h 21, row_cell h 22, row_cell h 23, row_cell h 24, row_cell h 25, row_free h⟩
set_option maxRecDepth 100000 in
theorem msg_kept {w : World} {b : Nat} {id to seq kd vv k t : Int} {a : Option Addr} {m c : Nat} : Kept (fun g => g = b) w ((((((((((((((((((((((((((w.setCell ⟨b, 0, none⟩ (.int .u8 1)).setCell ⟨b, 1, none⟩ (.int .u8 id)).setCell ⟨b, 2, none⟩ (.int .u8 to)).setCell ⟨b, 3, none⟩ (.int .u8 0)).setCell ⟨b, 4, none⟩ (.int .u32 0)).setCell ⟨b, 5, none⟩ (.int .u32 0)).setCell ⟨b, 6, none⟩ (.int .u64 0)).setCell ⟨b, 7, none⟩ (.int .u32 0)).setCell ⟨b, 8, none⟩ (.int .u8 id)).setCell ⟨b, 9, none⟩ (.int .u32 seq)).setCell ⟨b, 10, none⟩ (.int .u8 kd)).setCell ⟨b, 11, none⟩ (.slice a m c)).setCell ⟨b, 12, none⟩ (.int .u32 vv)).setCell ⟨b, 13, none⟩ (.int .i64 k)).setCell ⟨b, 14, none⟩ (.int .i64 t)).setCell ⟨b, 15, none⟩ (.int .i64 0)).setCell ⟨b, 16, none⟩ (.int .i64 0)).setCell ⟨b, 17, none⟩ (.slice none 0 0)).setCell ⟨b, 18, none⟩ (.slice none 0 0)).setCell ⟨b, 19, none⟩ (.slice none 0 0)).setCell ⟨b, 20, none⟩ (.slice none 0 0)).setCell ⟨b, 21, none⟩ (.slice none 0 0)).setCell ⟨b, 22, none⟩ (.slice none 0 0)).setCell ⟨b, 23, none⟩ (.int .u64 0)).setCell ⟨b, 24, none⟩ (.int .u64 0)).setCell ⟨b, 25, none⟩ (.int .i64 0)) := by
  have := putRow_kept (b := b) (F := fun g => g = b) (a := w) (.inl rfl) [.int .u8 1, .int .u8 id, .int .u8 to, .int .u8 0, .int .u32 0, .int .u32 0, .int .u64 0, .int .u32 0, .int .u8 id, .int .u32 seq, .int .u8 kd, .slice a m c, .int .u32 vv, .int .i64 k, .int .i64 t, .int .i64 0, .int .i64 0, .slice none 0 0, .slice none 0 0, .slice none 0 0, .slice none 0 0, .slice none 0 0, .slice none 0 0, .int .u64 0, .int .u64 0, .int .i64 0] w 0 (Kept.refl _ _)
  simpa only [putRow, Nat.zero_add, Nat.reduceAdd] using this
set_option maxRecDepth 100000 in
theorem msg_all {w : World} {b : Nat} {id to seq kd vv k t : Int} {a : Option Addr} {m c : Nat} {cs : Array Value} {T : TypeId} (h : w.heap[b]? = some (.cells cs T (0, 0))) (hs : 26 = cs.size) : ((((((((((((((((((((((((((w.setCell ⟨b, 0, none⟩ (.int .u8 1)).setCell ⟨b, 1, none⟩ (.int .u8 id)).setCell ⟨b, 2, none⟩ (.int .u8 to)).setCell ⟨b, 3, none⟩ (.int .u8 0)).setCell ⟨b, 4, none⟩ (.int .u32 0)).setCell ⟨b, 5, none⟩ (.int .u32 0)).setCell ⟨b, 6, none⟩ (.int .u64 0)).setCell ⟨b, 7, none⟩ (.int .u32 0)).setCell ⟨b, 8, none⟩ (.int .u8 id)).setCell ⟨b, 9, none⟩ (.int .u32 seq)).setCell ⟨b, 10, none⟩ (.int .u8 kd)).setCell ⟨b, 11, none⟩ (.slice a m c)).setCell ⟨b, 12, none⟩ (.int .u32 vv)).setCell ⟨b, 13, none⟩ (.int .i64 k)).setCell ⟨b, 14, none⟩ (.int .i64 t)).setCell ⟨b, 15, none⟩ (.int .i64 0)).setCell ⟨b, 16, none⟩ (.int .i64 0)).setCell ⟨b, 17, none⟩ (.slice none 0 0)).setCell ⟨b, 18, none⟩ (.slice none 0 0)).setCell ⟨b, 19, none⟩ (.slice none 0 0)).setCell ⟨b, 20, none⟩ (.slice none 0 0)).setCell ⟨b, 21, none⟩ (.slice none 0 0)).setCell ⟨b, 22, none⟩ (.slice none 0 0)).setCell ⟨b, 23, none⟩ (.int .u64 0)).setCell ⟨b, 24, none⟩ (.int .u64 0)).setCell ⟨b, 25, none⟩ (.int .i64 0)).heap[b]? = some (.cells #[.int .u8 1, .int .u8 id, .int .u8 to, .int .u8 0, .int .u32 0, .int .u32 0, .int .u64 0, .int .u32 0, .int .u8 id, .int .u32 seq, .int .u8 kd, .slice a m c, .int .u32 vv, .int .i64 k, .int .i64 t, .int .i64 0, .int .i64 0, .slice none 0 0, .slice none 0 0, .slice none 0 0, .slice none 0 0, .slice none 0 0, .slice none 0 0, .int .u64 0, .int .u64 0, .int .i64 0] T (0, 0)) := by
  have := putRow_all [.int .u8 1, .int .u8 id, .int .u8 to, .int .u8 0, .int .u32 0, .int .u32 0, .int .u64 0, .int .u32 0, .int .u8 id, .int .u32 seq, .int .u8 kd, .slice a m c, .int .u32 vv, .int .i64 k, .int .i64 t, .int .i64 0, .int .i64 0, .slice none 0 0, .slice none 0 0, .slice none 0 0, .slice none 0 0, .slice none 0 0, .slice none 0 0, .int .u64 0, .int .u64 0, .int .i64 0] h hs
  simpa only [putRow, Nat.zero_add, Nat.reduceAdd] using this
set_option maxRecDepth 100000 in
set_option maxHeartbeats 2000000 in
theorem msg_got {w : World} {b : Nat} {id to seq kd vv k t : Int} {a : Option Addr} {m c : Nat} {cs : Array Value} {T : TypeId} (h : w.heap[b]? = some (.cells cs T (0, 0))) (hs : 26 = cs.size) :
    (w.setCell ⟨b, 0, none⟩ (.int .u8 1)).cell? ⟨b, 0, none⟩ = some (.int .u8 1) ∧
    ((w.setCell ⟨b, 0, none⟩ (.int .u8 1)).setCell ⟨b, 1, none⟩ (.int .u8 id)).cell? ⟨b, 1, none⟩ = some (.int .u8 id) ∧
    (((w.setCell ⟨b, 0, none⟩ (.int .u8 1)).setCell ⟨b, 1, none⟩ (.int .u8 id)).setCell ⟨b, 2, none⟩ (.int .u8 to)).cell? ⟨b, 2, none⟩ = some (.int .u8 to) ∧
    ((((w.setCell ⟨b, 0, none⟩ (.int .u8 1)).setCell ⟨b, 1, none⟩ (.int .u8 id)).setCell ⟨b, 2, none⟩ (.int .u8 to)).setCell ⟨b, 3, none⟩ (.int .u8 0)).cell? ⟨b, 3, none⟩ = some (.int .u8 0) ∧
    (((((w.setCell ⟨b, 0, none⟩ (.int .u8 1)).setCell ⟨b, 1, none⟩ (.int .u8 id)).setCell ⟨b, 2, none⟩ (.int .u8 to)).setCell ⟨b, 3, none⟩ (.int .u8 0)).setCell ⟨b, 4, none⟩ (.int .u32 0)).cell? ⟨b, 4, none⟩ = some (.int .u32 0) ∧
    ((((((w.setCell ⟨b, 0, none⟩ (.int .u8 1)).setCell ⟨b, 1, none⟩ (.int .u8 id)).setCell ⟨b, 2, none⟩ (.int .u8 to)).setCell ⟨b, 3, none⟩ (.int .u8 0)).setCell ⟨b, 4, none⟩ (.int .u32 0)).setCell ⟨b, 5, none⟩ (.int .u32 0)).cell? ⟨b, 5, none⟩ = some (.int .u32 0) ∧
    (((((((w.setCell ⟨b, 0, none⟩ (.int .u8 1)).setCell ⟨b, 1, none⟩ (.int .u8 id)).setCell ⟨b, 2, none⟩ (.int .u8 to)).setCell ⟨b, 3, none⟩ (.int .u8 0)).setCell ⟨b, 4, none⟩ (.int .u32 0)).setCell ⟨b, 5, none⟩ (.int .u32 0)).setCell ⟨b, 6, none⟩ (.int .u64 0)).cell? ⟨b, 6, none⟩ = some (.int .u64 0) ∧
    ((((((((w.setCell ⟨b, 0, none⟩ (.int .u8 1)).setCell ⟨b, 1, none⟩ (.int .u8 id)).setCell ⟨b, 2, none⟩ (.int .u8 to)).setCell ⟨b, 3, none⟩ (.int .u8 0)).setCell ⟨b, 4, none⟩ (.int .u32 0)).setCell ⟨b, 5, none⟩ (.int .u32 0)).setCell ⟨b, 6, none⟩ (.int .u64 0)).setCell ⟨b, 7, none⟩ (.int .u32 0)).cell? ⟨b, 7, none⟩ = some (.int .u32 0) ∧
    (((((((((w.setCell ⟨b, 0, none⟩ (.int .u8 1)).setCell ⟨b, 1, none⟩ (.int .u8 id)).setCell ⟨b, 2, none⟩ (.int .u8 to)).setCell ⟨b, 3, none⟩ (.int .u8 0)).setCell ⟨b, 4, none⟩ (.int .u32 0)).setCell ⟨b, 5, none⟩ (.int .u32 0)).setCell ⟨b, 6, none⟩ (.int .u64 0)).setCell ⟨b, 7, none⟩ (.int .u32 0)).setCell ⟨b, 8, none⟩ (.int .u8 id)).cell? ⟨b, 8, none⟩ = some (.int .u8 id) ∧
    ((((((((((w.setCell ⟨b, 0, none⟩ (.int .u8 1)).setCell ⟨b, 1, none⟩ (.int .u8 id)).setCell ⟨b, 2, none⟩ (.int .u8 to)).setCell ⟨b, 3, none⟩ (.int .u8 0)).setCell ⟨b, 4, none⟩ (.int .u32 0)).setCell ⟨b, 5, none⟩ (.int .u32 0)).setCell ⟨b, 6, none⟩ (.int .u64 0)).setCell ⟨b, 7, none⟩ (.int .u32 0)).setCell ⟨b, 8, none⟩ (.int .u8 id)).setCell ⟨b, 9, none⟩ (.int .u32 seq)).cell? ⟨b, 9, none⟩ = some (.int .u32 seq) ∧
    (((((((((((w.setCell ⟨b, 0, none⟩ (.int .u8 1)).setCell ⟨b, 1, none⟩ (.int .u8 id)).setCell ⟨b, 2, none⟩ (.int .u8 to)).setCell ⟨b, 3, none⟩ (.int .u8 0)).setCell ⟨b, 4, none⟩ (.int .u32 0)).setCell ⟨b, 5, none⟩ (.int .u32 0)).setCell ⟨b, 6, none⟩ (.int .u64 0)).setCell ⟨b, 7, none⟩ (.int .u32 0)).setCell ⟨b, 8, none⟩ (.int .u8 id)).setCell ⟨b, 9, none⟩ (.int .u32 seq)).setCell ⟨b, 10, none⟩ (.int .u8 kd)).cell? ⟨b, 10, none⟩ = some (.int .u8 kd) ∧
    ((((((((((((w.setCell ⟨b, 0, none⟩ (.int .u8 1)).setCell ⟨b, 1, none⟩ (.int .u8 id)).setCell ⟨b, 2, none⟩ (.int .u8 to)).setCell ⟨b, 3, none⟩ (.int .u8 0)).setCell ⟨b, 4, none⟩ (.int .u32 0)).setCell ⟨b, 5, none⟩ (.int .u32 0)).setCell ⟨b, 6, none⟩ (.int .u64 0)).setCell ⟨b, 7, none⟩ (.int .u32 0)).setCell ⟨b, 8, none⟩ (.int .u8 id)).setCell ⟨b, 9, none⟩ (.int .u32 seq)).setCell ⟨b, 10, none⟩ (.int .u8 kd)).setCell ⟨b, 11, none⟩ (.slice a m c)).cell? ⟨b, 11, none⟩ = some (.slice a m c) ∧
    (((((((((((((w.setCell ⟨b, 0, none⟩ (.int .u8 1)).setCell ⟨b, 1, none⟩ (.int .u8 id)).setCell ⟨b, 2, none⟩ (.int .u8 to)).setCell ⟨b, 3, none⟩ (.int .u8 0)).setCell ⟨b, 4, none⟩ (.int .u32 0)).setCell ⟨b, 5, none⟩ (.int .u32 0)).setCell ⟨b, 6, none⟩ (.int .u64 0)).setCell ⟨b, 7, none⟩ (.int .u32 0)).setCell ⟨b, 8, none⟩ (.int .u8 id)).setCell ⟨b, 9, none⟩ (.int .u32 seq)).setCell ⟨b, 10, none⟩ (.int .u8 kd)).setCell ⟨b, 11, none⟩ (.slice a m c)).setCell ⟨b, 12, none⟩ (.int .u32 vv)).cell? ⟨b, 12, none⟩ = some (.int .u32 vv) ∧
    ((((((((((((((w.setCell ⟨b, 0, none⟩ (.int .u8 1)).setCell ⟨b, 1, none⟩ (.int .u8 id)).setCell ⟨b, 2, none⟩ (.int .u8 to)).setCell ⟨b, 3, none⟩ (.int .u8 0)).setCell ⟨b, 4, none⟩ (.int .u32 0)).setCell ⟨b, 5, none⟩ (.int .u32 0)).setCell ⟨b, 6, none⟩ (.int .u64 0)).setCell ⟨b, 7, none⟩ (.int .u32 0)).setCell ⟨b, 8, none⟩ (.int .u8 id)).setCell ⟨b, 9, none⟩ (.int .u32 seq)).setCell ⟨b, 10, none⟩ (.int .u8 kd)).setCell ⟨b, 11, none⟩ (.slice a m c)).setCell ⟨b, 12, none⟩ (.int .u32 vv)).setCell ⟨b, 13, none⟩ (.int .i64 k)).cell? ⟨b, 13, none⟩ = some (.int .i64 k) ∧
    (((((((((((((((w.setCell ⟨b, 0, none⟩ (.int .u8 1)).setCell ⟨b, 1, none⟩ (.int .u8 id)).setCell ⟨b, 2, none⟩ (.int .u8 to)).setCell ⟨b, 3, none⟩ (.int .u8 0)).setCell ⟨b, 4, none⟩ (.int .u32 0)).setCell ⟨b, 5, none⟩ (.int .u32 0)).setCell ⟨b, 6, none⟩ (.int .u64 0)).setCell ⟨b, 7, none⟩ (.int .u32 0)).setCell ⟨b, 8, none⟩ (.int .u8 id)).setCell ⟨b, 9, none⟩ (.int .u32 seq)).setCell ⟨b, 10, none⟩ (.int .u8 kd)).setCell ⟨b, 11, none⟩ (.slice a m c)).setCell ⟨b, 12, none⟩ (.int .u32 vv)).setCell ⟨b, 13, none⟩ (.int .i64 k)).setCell ⟨b, 14, none⟩ (.int .i64 t)).cell? ⟨b, 14, none⟩ = some (.int .i64 t) ∧
    ((((((((((((((((w.setCell ⟨b, 0, none⟩ (.int .u8 1)).setCell ⟨b, 1, none⟩ (.int .u8 id)).setCell ⟨b, 2, none⟩ (.int .u8 to)).setCell ⟨b, 3, none⟩ (.int .u8 0)).setCell ⟨b, 4, none⟩ (.int .u32 0)).setCell ⟨b, 5, none⟩ (.int .u32 0)).setCell ⟨b, 6, none⟩ (.int .u64 0)).setCell ⟨b, 7, none⟩ (.int .u32 0)).setCell ⟨b, 8, none⟩ (.int .u8 id)).setCell ⟨b, 9, none⟩ (.int .u32 seq)).setCell ⟨b, 10, none⟩ (.int .u8 kd)).setCell ⟨b, 11, none⟩ (.slice a m c)).setCell ⟨b, 12, none⟩ (.int .u32 vv)).setCell ⟨b, 13, none⟩ (.int .i64 k)).setCell ⟨b, 14, none⟩ (.int .i64 t)).setCell ⟨b, 15, none⟩ (.int .i64 0)).cell? ⟨b, 15, none⟩ = some (.int .i64 0) ∧
    (((((((((((((((((w.setCell ⟨b, 0, none⟩ (.int .u8 1)).setCell ⟨b, 1, none⟩ (.int .u8 id)).setCell ⟨b, 2, none⟩ (.int .u8 to)).setCell ⟨b, 3, none⟩ (.int .u8 0)).setCell ⟨b, 4, none⟩ (.int .u32 0)).setCell ⟨b, 5, none⟩ (.int .u32 0)).setCell ⟨b, 6, none⟩ (.int .u64 0)).setCell ⟨b, 7, none⟩ (.int .u32 0)).setCell ⟨b, 8, none⟩ (.int .u8 id)).setCell ⟨b, 9, none⟩ (.int .u32 seq)).setCell ⟨b, 10, none⟩ (.int .u8 kd)).setCell ⟨b, 11, none⟩ (.slice a m c)).setCell ⟨b, 12, none⟩ (.int .u32 vv)).setCell ⟨b, 13, none⟩ (.int .i64 k)).setCell ⟨b, 14, none⟩ (.int .i64 t)).setCell ⟨b, 15, none⟩ (.int .i64 0)).setCell ⟨b, 16, none⟩ (.int .i64 0)).cell? ⟨b, 16, none⟩ = some (.int .i64 0) ∧
    ((((((((((((((((((w.setCell ⟨b, 0, none⟩ (.int .u8 1)).setCell ⟨b, 1, none⟩ (.int .u8 id)).setCell ⟨b, 2, none⟩ (.int .u8 to)).setCell ⟨b, 3, none⟩ (.int .u8 0)).setCell ⟨b, 4, none⟩ (.int .u32 0)).setCell ⟨b, 5, none⟩ (.int .u32 0)).setCell ⟨b, 6, none⟩ (.int .u64 0)).setCell ⟨b, 7, none⟩ (.int .u32 0)).setCell ⟨b, 8, none⟩ (.int .u8 id)).setCell ⟨b, 9, none⟩ (.int .u32 seq)).setCell ⟨b, 10, none⟩ (.int .u8 kd)).setCell ⟨b, 11, none⟩ (.slice a m c)).setCell ⟨b, 12, none⟩ (.int .u32 vv)).setCell ⟨b, 13, none⟩ (.int .i64 k)).setCell ⟨b, 14, none⟩ (.int .i64 t)).setCell ⟨b, 15, none⟩ (.int .i64 0)).setCell ⟨b, 16, none⟩ (.int .i64 0)).setCell ⟨b, 17, none⟩ (.slice none 0 0)).cell? ⟨b, 17, none⟩ = some (.slice none 0 0) ∧
    (((((((((((((((((((w.setCell ⟨b, 0, none⟩ (.int .u8 1)).setCell ⟨b, 1, none⟩ (.int .u8 id)).setCell ⟨b, 2, none⟩ (.int .u8 to)).setCell ⟨b, 3, none⟩ (.int .u8 0)).setCell ⟨b, 4, none⟩ (.int .u32 0)).setCell ⟨b, 5, none⟩ (.int .u32 0)).setCell ⟨b, 6, none⟩ (.int .u64 0)).setCell ⟨b, 7, none⟩ (.int .u32 0)).setCell ⟨b, 8, none⟩ (.int .u8 id)).setCell ⟨b, 9, none⟩ (.int .u32 seq)).setCell ⟨b, 10, none⟩ (.int .u8 kd)).setCell ⟨b, 11, none⟩ (.slice a m c)).setCell ⟨b, 12, none⟩ (.int .u32 vv)).setCell ⟨b, 13, none⟩ (.int .i64 k)).setCell ⟨b, 14, none⟩ (.int .i64 t)).setCell ⟨b, 15, none⟩ (.int .i64 0)).setCell ⟨b, 16, none⟩ (.int .i64 0)).setCell ⟨b, 17, none⟩ (.slice none 0 0)).setCell ⟨b, 18, none⟩ (.slice none 0 0)).cell? ⟨b, 18, none⟩ = some (.slice none 0 0) ∧
    ((((((((((((((((((((w.setCell ⟨b, 0, none⟩ (.int .u8 1)).setCell ⟨b, 1, none⟩ (.int .u8 id)).setCell ⟨b, 2, none⟩ (.int .u8 to)).setCell ⟨b, 3, none⟩ (.int .u8 0)).setCell ⟨b, 4, none⟩ (.int .u32 0)).setCell ⟨b, 5, none⟩ (.int .u32 0)).setCell ⟨b, 6, none⟩ (.int .u64 0)).setCell ⟨b, 7, none⟩ (.int .u32 0)).setCell ⟨b, 8, none⟩ (.int .u8 id)).setCell ⟨b, 9, none⟩ (.int .u32 seq)).setCell ⟨b, 10, none⟩ (.int .u8 kd)).setCell ⟨b, 11, none⟩ (.slice a m c)).setCell ⟨b, 12, none⟩ (.int .u32 vv)).setCell ⟨b, 13, none⟩ (.int .i64 k)).setCell ⟨b, 14, none⟩ (.int .i64 t)).setCell ⟨b, 15, none⟩ (.int .i64 0)).setCell ⟨b, 16, none⟩ (.int .i64 0)).setCell ⟨b, 17, none⟩ (.slice none 0 0)).setCell ⟨b, 18, none⟩ (.slice none 0 0)).setCell ⟨b, 19, none⟩ (.slice none 0 0)).cell? ⟨b, 19, none⟩ = some (.slice none 0 0) ∧
    (((((((((((((((((((((w.setCell ⟨b, 0, none⟩ (.int .u8 1)).setCell ⟨b, 1, none⟩ (.int .u8 id)).setCell ⟨b, 2, none⟩ (.int .u8 to)).setCell ⟨b, 3, none⟩ (.int .u8 0)).setCell ⟨b, 4, none⟩ (.int .u32 0)).setCell ⟨b, 5, none⟩ (.int .u32 0)).setCell ⟨b, 6, none⟩ (.int .u64 0)).setCell ⟨b, 7, none⟩ (.int .u32 0)).setCell ⟨b, 8, none⟩ (.int .u8 id)).setCell ⟨b, 9, none⟩ (.int .u32 seq)).setCell ⟨b, 10, none⟩ (.int .u8 kd)).setCell ⟨b, 11, none⟩ (.slice a m c)).setCell ⟨b, 12, none⟩ (.int .u32 vv)).setCell ⟨b, 13, none⟩ (.int .i64 k)).setCell ⟨b, 14, none⟩ (.int .i64 t)).setCell ⟨b, 15, none⟩ (.int .i64 0)).setCell ⟨b, 16, none⟩ (.int .i64 0)).setCell ⟨b, 17, none⟩ (.slice none 0 0)).setCell ⟨b, 18, none⟩ (.slice none 0 0)).setCell ⟨b, 19, none⟩ (.slice none 0 0)).setCell ⟨b, 20, none⟩ (.slice none 0 0)).cell? ⟨b, 20, none⟩ = some (.slice none 0 0) ∧
    ((((((((((((((((((((((w.setCell ⟨b, 0, none⟩ (.int .u8 1)).setCell ⟨b, 1, none⟩ (.int .u8 id)).setCell ⟨b, 2, none⟩ (.int .u8 to)).setCell ⟨b, 3, none⟩ (.int .u8 0)).setCell ⟨b, 4, none⟩ (.int .u32 0)).setCell ⟨b, 5, none⟩ (.int .u32 0)).setCell ⟨b, 6, none⟩ (.int .u64 0)).setCell ⟨b, 7, none⟩ (.int .u32 0)).setCell ⟨b, 8, none⟩ (.int .u8 id)).setCell ⟨b, 9, none⟩ (.int .u32 seq)).setCell ⟨b, 10, none⟩ (.int .u8 kd)).setCell ⟨b, 11, none⟩ (.slice a m c)).setCell ⟨b, 12, none⟩ (.int .u32 vv)).setCell ⟨b, 13, none⟩ (.int .i64 k)).setCell ⟨b, 14, none⟩ (.int .i64 t)).setCell ⟨b, 15, none⟩ (.int .i64 0)).setCell ⟨b, 16, none⟩ (.int .i64 0)).setCell ⟨b, 17, none⟩ (.slice none 0 0)).setCell ⟨b, 18, none⟩ (.slice none 0 0)).setCell ⟨b, 19, none⟩ (.slice none 0 0)).setCell ⟨b, 20, none⟩ (.slice none 0 0)).setCell ⟨b, 21, none⟩ (.slice none 0 0)).cell? ⟨b, 21, none⟩ = some (.slice none 0 0) ∧
    (((((((((((((((((((((((w.setCell ⟨b, 0, none⟩ (.int .u8 1)).setCell ⟨b, 1, none⟩ (.int .u8 id)).setCell ⟨b, 2, none⟩ (.int .u8 to)).setCell ⟨b, 3, none⟩ (.int .u8 0)).setCell ⟨b, 4, none⟩ (.int .u32 0)).setCell ⟨b, 5, none⟩ (.int .u32 0)).setCell ⟨b, 6, none⟩ (.int .u64 0)).setCell ⟨b, 7, none⟩ (.int .u32 0)).setCell ⟨b, 8, none⟩ (.int .u8 id)).setCell ⟨b, 9, none⟩ (.int .u32 seq)).setCell ⟨b, 10, none⟩ (.int .u8 kd)).setCell ⟨b, 11, none⟩ (.slice a m c)).setCell ⟨b, 12, none⟩ (.int .u32 vv)).setCell ⟨b, 13, none⟩ (.int .i64 k)).setCell ⟨b, 14, none⟩ (.int .i64 t)).setCell ⟨b, 15, none⟩ (.int .i64 0)).setCell ⟨b, 16, none⟩ (.int .i64 0)).setCell ⟨b, 17, none⟩ (.slice none 0 0)).setCell ⟨b, 18, none⟩ (.slice none 0 0)).setCell ⟨b, 19, none⟩ (.slice none 0 0)).setCell ⟨b, 20, none⟩ (.slice none 0 0)).setCell ⟨b, 21, none⟩ (.slice none 0 0)).setCell ⟨b, 22, none⟩ (.slice none 0 0)).cell? ⟨b, 22, none⟩ = some (.slice none 0 0) ∧
    ((((((((((((((((((((((((w.setCell ⟨b, 0, none⟩ (.int .u8 1)).setCell ⟨b, 1, none⟩ (.int .u8 id)).setCell ⟨b, 2, none⟩ (.int .u8 to)).setCell ⟨b, 3, none⟩ (.int .u8 0)).setCell ⟨b, 4, none⟩ (.int .u32 0)).setCell ⟨b, 5, none⟩ (.int .u32 0)).setCell ⟨b, 6, none⟩ (.int .u64 0)).setCell ⟨b, 7, none⟩ (.int .u32 0)).setCell ⟨b, 8, none⟩ (.int .u8 id)).setCell ⟨b, 9, none⟩ (.int .u32 seq)).setCell ⟨b, 10, none⟩ (.int .u8 kd)).setCell ⟨b, 11, none⟩ (.slice a m c)).setCell ⟨b, 12, none⟩ (.int .u32 vv)).setCell ⟨b, 13, none⟩ (.int .i64 k)).setCell ⟨b, 14, none⟩ (.int .i64 t)).setCell ⟨b, 15, none⟩ (.int .i64 0)).setCell ⟨b, 16, none⟩ (.int .i64 0)).setCell ⟨b, 17, none⟩ (.slice none 0 0)).setCell ⟨b, 18, none⟩ (.slice none 0 0)).setCell ⟨b, 19, none⟩ (.slice none 0 0)).setCell ⟨b, 20, none⟩ (.slice none 0 0)).setCell ⟨b, 21, none⟩ (.slice none 0 0)).setCell ⟨b, 22, none⟩ (.slice none 0 0)).setCell ⟨b, 23, none⟩ (.int .u64 0)).cell? ⟨b, 23, none⟩ = some (.int .u64 0) ∧
    (((((((((((((((((((((((((w.setCell ⟨b, 0, none⟩ (.int .u8 1)).setCell ⟨b, 1, none⟩ (.int .u8 id)).setCell ⟨b, 2, none⟩ (.int .u8 to)).setCell ⟨b, 3, none⟩ (.int .u8 0)).setCell ⟨b, 4, none⟩ (.int .u32 0)).setCell ⟨b, 5, none⟩ (.int .u32 0)).setCell ⟨b, 6, none⟩ (.int .u64 0)).setCell ⟨b, 7, none⟩ (.int .u32 0)).setCell ⟨b, 8, none⟩ (.int .u8 id)).setCell ⟨b, 9, none⟩ (.int .u32 seq)).setCell ⟨b, 10, none⟩ (.int .u8 kd)).setCell ⟨b, 11, none⟩ (.slice a m c)).setCell ⟨b, 12, none⟩ (.int .u32 vv)).setCell ⟨b, 13, none⟩ (.int .i64 k)).setCell ⟨b, 14, none⟩ (.int .i64 t)).setCell ⟨b, 15, none⟩ (.int .i64 0)).setCell ⟨b, 16, none⟩ (.int .i64 0)).setCell ⟨b, 17, none⟩ (.slice none 0 0)).setCell ⟨b, 18, none⟩ (.slice none 0 0)).setCell ⟨b, 19, none⟩ (.slice none 0 0)).setCell ⟨b, 20, none⟩ (.slice none 0 0)).setCell ⟨b, 21, none⟩ (.slice none 0 0)).setCell ⟨b, 22, none⟩ (.slice none 0 0)).setCell ⟨b, 23, none⟩ (.int .u64 0)).setCell ⟨b, 24, none⟩ (.int .u64 0)).cell? ⟨b, 24, none⟩ = some (.int .u64 0) ∧
    ((((((((((((((((((((((((((w.setCell ⟨b, 0, none⟩ (.int .u8 1)).setCell ⟨b, 1, none⟩ (.int .u8 id)).setCell ⟨b, 2, none⟩ (.int .u8 to)).setCell ⟨b, 3, none⟩ (.int .u8 0)).setCell ⟨b, 4, none⟩ (.int .u32 0)).setCell ⟨b, 5, none⟩ (.int .u32 0)).setCell ⟨b, 6, none⟩ (.int .u64 0)).setCell ⟨b, 7, none⟩ (.int .u32 0)).setCell ⟨b, 8, none⟩ (.int .u8 id)).setCell ⟨b, 9, none⟩ (.int .u32 seq)).setCell ⟨b, 10, none⟩ (.int .u8 kd)).setCell ⟨b, 11, none⟩ (.slice a m c)).setCell ⟨b, 12, none⟩ (.int .u32 vv)).setCell ⟨b, 13, none⟩ (.int .i64 k)).setCell ⟨b, 14, none⟩ (.int .i64 t)).setCell ⟨b, 15, none⟩ (.int .i64 0)).setCell ⟨b, 16, none⟩ (.int .i64 0)).setCell ⟨b, 17, none⟩ (.slice none 0 0)).setCell ⟨b, 18, none⟩ (.slice none 0 0)).setCell ⟨b, 19, none⟩ (.slice none 0 0)).setCell ⟨b, 20, none⟩ (.slice none 0 0)).setCell ⟨b, 21, none⟩ (.slice none 0 0)).setCell ⟨b, 22, none⟩ (.slice none 0 0)).setCell ⟨b, 23, none⟩ (.int .u64 0)).setCell ⟨b, 24, none⟩ (.int .u64 0)).setCell ⟨b, 25, none⟩ (.int .i64 0)).cell? ⟨b, 25, none⟩ = some (.int .i64 0) := by
  have g := putRow_got h [.int .u8 1, .int .u8 id, .int .u8 to, .int .u8 0, .int .u32 0, .int .u32 0, .int .u64 0, .int .u32 0, .int .u8 id, .int .u32 seq, .int .u8 kd, .slice a m c, .int .u32 vv, .int .i64 k, .int .i64 t, .int .i64 0, .int .i64 0, .slice none 0 0, .slice none 0 0, .slice none 0 0, .slice none 0 0, .slice none 0 0, .slice none 0 0, .int .u64 0, .int .u64 0, .int .i64 0] (by rw [← hs]; exact Nat.le_refl 26)
  refine ⟨?_, ?_, ?_, ?_, ?_, ?_, ?_, ?_, ?_, ?_, ?_, ?_, ?_, ?_, ?_, ?_, ?_, ?_, ?_, ?_, ?_, ?_, ?_, ?_, ?_, ?_⟩
  · exact g 0 _ rfl
  · exact g 1 _ rfl
  · exact g 2 _ rfl
  · exact g 3 _ rfl
  · exact g 4 _ rfl
  · exact g 5 _ rfl
  · exact g 6 _ rfl
  · exact g 7 _ rfl
  · exact g 8 _ rfl
  · exact g 9 _ rfl
  · exact g 10 _ rfl
  · exact g 11 _ rfl
  · exact g 12 _ rfl
  · exact g 13 _ rfl
  · exact g 14 _ rfl
  · exact g 15 _ rfl
  · exact g 16 _ rfl
  · exact g 17 _ rfl
  · exact g 18 _ rfl
  · exact g 19 _ rfl
  · exact g 20 _ rfl
  · exact g 21 _ rfl
  · exact g 22 _ rfl
  · exact g 23 _ rfl
  · exact g 24 _ rfl
  · exact g 25 _ rfl
end Go.Proofs.Ytnlbdlbinoebgaa
