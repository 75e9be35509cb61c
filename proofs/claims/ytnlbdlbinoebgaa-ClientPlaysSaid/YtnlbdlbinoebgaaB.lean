/- Requests in memory; graph.Check; copied, TwinReq. -/
import Derived.Test.YtnlbdlbinoebgaaA
namespace Go.Proofs.Ytnlbdlbinoebgaa
open Go.RowKit

structure O where
  kd : Int
  a : Int
  b : Int
  key : Int
  k : Int
  n : Int
  s : ByteArray
def ocell (x : O) : List Value := [.int .u8 x.kd, .int .u32 x.a, .int .u32 x.b, .int .u8 x.key, .int .u8 x.k, .int .i64 x.n, .string x.s]
def ocells (l : List O) : List Value := l.flatMap ocell
theorem flat_len {α : Type} (enc : α → List Value) (n : Nat) (hn : ∀ x, (enc x).length = n) : ∀ l : List α, (l.flatMap enc).length = l.length * n
  | [] => by simp
  | x :: l => by rw [List.flatMap_cons, List.length_append, hn, flat_len enc n hn l, List.length_cons, Nat.succ_mul]; omega
theorem flat_at {α : Type} (enc : α → List Value) (n : Nat) (hn : ∀ x, (enc x).length = n) : ∀ (l : List α) (i : Nat) (x : α) (r : Nat), l[i]? = some x → r < n → (l.flatMap enc)[i * n + r]? = (enc x)[r]?
  | y :: l, 0, x, r, h, hr => by
    simp at h; subst h
    rw [List.flatMap_cons, Nat.zero_mul, Nat.zero_add, List.getElem?_append_left (by rw [hn]; exact hr)]
  | y :: l, i + 1, x, r, h, hr => by
    rw [List.flatMap_cons, List.getElem?_append_right (by rw [hn, Nat.succ_mul]; omega), hn, Nat.succ_mul]
    have := flat_at enc n hn l i x r (by simpa using h) hr
    rw [← this]
    congr 1
    omega
theorem ocells_one (l : List O) : ∀ u ∈ ocells l, u.oneCell' = true := by
  intro u hu
  simp only [ocells, List.mem_flatMap, ocell] at hu
  obtain ⟨x, _, hx⟩ := hu
  simp at hx
  rcases hx with rfl | rfl | rfl | rfl | rfl | rfl | rfl <;> rfl
structure Rq where
  kd : Int
  ops : List O
  v : Int
  k : Int
  t : Int
structure ReqIn (F : Nat → Prop) (w : World) (v : Value) (R : Rq) : Prop where
  l : Lies F w 7 v R.ops.length (ocells R.ops)
  b : R.ops.length * 48 ≤ 140737488351232
  s : ∀ x ∈ R.ops, x.s.size ≤ 9223372036854775807
theorem ReqIn.kept {F G : Nat → Prop} {w w' : World} {v : Value} {R : Rq} (h : ReqIn F w v R) (k : Kept G w w') (hg : ∀ g, g < w.heap.size → G g → F g) : ReqIn F w' v R := ⟨h.l.kept k hg, h.b, h.s⟩
theorem ReqIn.same {F : Nat → Prop} {w w' : World} {v : Value} {R : Rq} (h : ReqIn F w v R) (k : Kept (fun _ => False) w w') : ReqIn F w' v R := h.kept k (fun _ _ h => h.elim)
theorem ReqIn.mono {F G : Nat → Prop} {w : World} {v : Value} {R : Rq} (h : ReqIn F w v R) (hg : ∀ g, g < w.heap.size → G g → F g) : ReqIn G w v R := ⟨h.l.mono hg, h.b, h.s⟩

theorem cells5 {w : World} {b : Nat} {x y z u v : Value} {T : TypeId} (h : w.heap[b]? = some (.cells #[x, y, z, u, v] T (0, 0))) :
    w.cell? ⟨b, 0, none⟩ = some x ∧ w.cell? ⟨b, 1, none⟩ = some y ∧ w.cell? ⟨b, 2, none⟩ = some z ∧ w.cell? ⟨b, 3, none⟩ = some u ∧ w.cell? ⟨b, 4, none⟩ = some v ∧ ∀ i, w.frozen? ⟨b, i, none⟩ = false :=
  ⟨row_cell h 0, row_cell h 1, row_cell h 2, row_cell h 3, row_cell h 4, fun i => row_free h i⟩
theorem row_set5 {w : World} {b : Nat} {x y z u v : Value} {T : TypeId} (h : w.heap[b]? = some (.cells #[x, y, z, u, v] T (0, 0))) (q : Value) : (w.setCell ⟨b, 1, none⟩ q).heap[b]? = some (.cells #[x, q, z, u, v] T (0, 0)) := row_set h 1 q
theorem set5c {w : World} {b : Nat} {x y z u v : Value} {T : TypeId} (h : w.heap[b]? = some (.cells #[x, y, z, u, v] T (0, 0))) (x' y' z' u' v' : Value) :
    (w.setCell ⟨b, 0, none⟩ x').cell? ⟨b, 0, none⟩ = some x' ∧ ((w.setCell ⟨b, 0, none⟩ x').setCell ⟨b, 1, none⟩ y').cell? ⟨b, 1, none⟩ = some y' ∧
    (((w.setCell ⟨b, 0, none⟩ x').setCell ⟨b, 1, none⟩ y').setCell ⟨b, 2, none⟩ z').cell? ⟨b, 2, none⟩ = some z' ∧
    ((((w.setCell ⟨b, 0, none⟩ x').setCell ⟨b, 1, none⟩ y').setCell ⟨b, 2, none⟩ z').setCell ⟨b, 3, none⟩ u').cell? ⟨b, 3, none⟩ = some u' ∧
    (((((w.setCell ⟨b, 0, none⟩ x').setCell ⟨b, 1, none⟩ y').setCell ⟨b, 2, none⟩ z').setCell ⟨b, 3, none⟩ u').setCell ⟨b, 4, none⟩ v').cell? ⟨b, 4, none⟩ = some v' := by
  have h0 := row_set h 0 x'
  have h1 := row_set h0 1 y'
  have h2 := row_set h1 2 z'
  have h3 := row_set h2 3 u'
  have h4 := row_set h3 4 v'
  exact ⟨row_cell h0 0, row_cell h1 1, row_cell h2 2, row_cell h3 3, row_cell h4 4⟩
theorem infoO : (Try.prog.info? 81).map (fun i => (i.zero, i.size, i.bytes)) = some (some (.agg #[.int .u8 0, .int .u32 0, .int .u32 0, .int .u8 0, .int .u8 0, .int .i64 0, .string ByteArray.empty]), 7, 48) := by kernel_rfl

set_option maxRecDepth 100000 in
set_option maxHeartbeats 1000000 in
theorem all_some {F : Nat → Prop} {w : World} {v : Value} {R : Rq} (h : ReqIn F w v R) : Calls Try.prog 31 #[v] w (SomeB w) := by
  have H := hid h
  obtain ⟨ao, c, rfl, m1, m2, _⟩ := h.l
  unfold maxLen at m2
  clear h
  go_enter Try.func31, Try.ntmps31
  go_wp2
  go_loopw [7] (fun i wr => ∃ k : Nat, k ≤ R.ops.length ∧ i = .int .i64 k ∧ Kept (fun _ => False) w wr) (fun i _ => R.ops.length - (intOf i).toNat)
  case atStart => exact ⟨0, Nat.zero_le _, rfl, Kept.refl _ _⟩
  case round =>
    obtain ⟨k, hk, rfl, hkp⟩ := hrel
    have HK := hid hkp; clear hkp
    by_cases hlt : k < R.ops.length
    · obtain ⟨g1, o1, q1, e1, n1, _, _, _, z1⟩ := H.out.l.cell (by omega)
      simp only [Value.slice.injEq] at e1
      obtain ⟨rfl, _, rfl⟩ := e1
      have hx := fun r hr => flat_at ocell 7 (fun _ => rfl) R.ops k R.ops[k] r (by simp [hlt]) hr
      have hs := H.out.s R.ops[k] (List.getElem_mem _)
      obtain ⟨a, b, cc, d, e, f, s⟩ := R.ops[k]
      have y0 := HK.out.cell (z1 (k * 7 + 0) _ (hx 0 (by decide))) id
      have y1 := HK.out.cell (z1 (k * 7 + 1) _ (hx 1 (by decide))) id
      have y2 := HK.out.cell (z1 (k * 7 + 2) _ (hx 2 (by decide))) id
      have y3 := HK.out.cell (z1 (k * 7 + 3) _ (hx 3 (by decide))) id
      have y4 := HK.out.cell (z1 (k * 7 + 4) _ (hx 4 (by decide))) id
      have y5 := HK.out.cell (z1 (k * 7 + 5) _ (hx 5 (by decide))) id
      have y6 := HK.out.cell (z1 (k * 7 + 6) _ (hx 6 (by decide))) id
      simp only [← Nat.add_assoc, Nat.add_zero] at y0 y1 y2 y3 y4 y5 y6
      clear hx z1 n1
      have HS := hid hs; clear hs
      go_wp2_with fail
      refine (formed_some _ _ _ _ _ _ _ HS.out _).mono ?_
      rintro e w8 ⟨b8, rfl, hk8⟩
      have HK8 := hid ((HK.out.alloc _).trans hk8)
      clear hk8 y0 y1 y2 y3 y4 y5 y6 HK
      cases b8
      · go_wp2
        go_ret
        exact SomeB.mk HK8.out
      · go_wp2
        go_roundw
        case rel => exact ⟨k + 1, by omega, by go_num, HK8.out⟩
        case measure => simp [intOf]; omega
    · go_wp2
      go_ret
      exact SomeB.mk HK.out

set_option maxRecDepth 100000 in
set_option maxHeartbeats 4000000 in
theorem check_some {F : Nat → Prop} {w : World} {v : Value} {R : Rq} (h : ReqIn F w v R) : Calls Try.prog 17 #[.agg #[.int .u8 R.kd, v, .int .u32 R.v, .int .i64 R.k, .int .i64 R.t]] w (SomeI w) := by
  have H := hid h
  obtain ⟨ao, c, rfl, m1, m2, _⟩ := h.l
  unfold maxLen at m2
  clear h
  obtain ⟨kd, ops, vv, k, t⟩ := R
  simp only at m1 m2 ⊢
  by_cases hz : 0 < ops.length
  · have z1 : (0 : Int) < (ops.length : Int) := by omega
    have z2 : ((ops.length : Int) == 0) = false := beq_eq_false_iff_ne.2 (by omega)
    have z3 : decide ((0 : Int) < (ops.length : Int)) = true := decide_eq_true (by omega)
    have z4 : decide (0 < ops.length) = true := by simpa using hz
    go_enter Try.func17, Try.ntmps17
    go_wp2_with (first | (go_at_call 31; refine (all_some (by exact H.out.same ((Kept.refl _ _).alloc _))).mono ?_; rintro e w8 ⟨b8, rfl, hk8⟩; have HK8 := hid (((Kept.refl (fun _ => False) w).alloc _).trans hk8); clear hk8) | (go_at_call 32; refine (number_some _ _).mono ?_; rintro e w' ⟨b2, rfl, rfl⟩))
    all_goals
      go_ret
      first | exact SomeI.mk ((Kept.refl _ _).alloc _) | exact SomeI.mk HK8.out
  · have z1 : ¬ (0 : Int) < (ops.length : Int) := by omega
    have z2 : ((ops.length : Int) == 0) = true := beq_iff_eq.2 (by omega)
    have z3 : decide ((0 : Int) < (ops.length : Int)) = false := decide_eq_false (by omega)
    have z4 : decide (0 < ops.length) = false := by simpa using hz
    clear hz
    go_enter Try.func17, Try.ntmps17
    go_wp2_with (first | (go_at_call 31; refine (all_some (by exact H.out.same ((Kept.refl _ _).alloc _))).mono ?_; rintro e w8 ⟨b8, rfl, hk8⟩; have HK8 := hid (((Kept.refl (fun _ => False) w).alloc _).trans hk8); clear hk8) | (go_at_call 32; refine (number_some _ _).mono ?_; rintro e w' ⟨b2, rfl, rfl⟩))
    all_goals
      go_ret
      first | exact SomeI.mk ((Kept.refl _ _).alloc _) | exact SomeI.mk HK8.out


theorem infoV : (Try.prog.info? 75).map (fun i => (i.zero, i.size, i.bytes)) = some (some (.agg #[.int .u8 0, .int .i64 0, .string ByteArray.empty]), 3, 32) := by kernel_rfl
theorem infoN : (Try.prog.info? 28).map (fun i => (i.zero, i.size, i.bytes)) = some (some (.int .u32 0), 1, 4) := by kernel_rfl
set_option maxHeartbeats 400000 in
theorem cloneV_any {F : Nat → Prop} (v : Value) (n : Nat) (news : List Value) (w : World) (h : Lies F w 3 v n news) (hl : n * 32 ≤ 140737488351232) :
    Calls Try.prog 20 #[v] w fun e w' => ∃ v', e = .returned v' ∧ Own w' 75 3 v' n news ∧ (∀ g, v'.ownBlock = some g → w.heap.size ≤ g) ∧ Kept (fun _ => False) w w' := by
  have H := hid h
  obtain ⟨ao, c, rfl, h1, h1', h2, h3, h4, h5⟩ := h
  cases ao with
  | none =>
    obtain ⟨rfl, rfl⟩ := h3 rfl
    obtain rfl : news = [] := List.eq_nil_of_length_eq_zero (by simpa using h2)
    clear h1 h1' h2 h3 h4 h5 H
    have he := fun w => Lib.run_eql_slice_nil (P := Try.prog) w
    go_enter Try.func20, Try.ntmps20
    go_wp2
    go_ret
    exact ⟨_, rfl, Own.nil _ _ _, by simp [Value.ownBlock], Kept.refl _ _⟩
  | some ad =>
    clear h1 h1' h2 h3 h4 h5
    have hl' := hid hl; clear hl
    have he := fun w => Lib.run_eql_slice_nil (P := Try.prog) w
    go_enter Try.func20, Try.ntmps20
    go_wp2_with (at_builtin; refine wpList_app rfl _ _ 35 rfl 75 (.agg #[.int .u8 0, .int .i64 0, .string ByteArray.empty]) 3 32 Try.underlying35 infoV rfl (by decide) _ 0 [] rfl (own_empty _ _ _) _ rfl n news ?c1 ?c2 ?c3 ?_)
    case c1 => exact (H.out.same ((Kept.refl (fun _ => False) _).alloc _)).src
    case c2 => have := hl'.out; simp only [maxLen]; omega
    case c3 => have := hl'.out; omega
    · intro a' c' w' hown hk hf _
      go_wp2
      go_ret
      refine ⟨_, rfl, by simpa using hown, fun g hg => ?_, ?_⟩
      · rcases hf g (by simpa using hg) with h | h
        · simp [Value.ownBlock] at h; omega
        · (try simp at h); omega
      · refine ((Kept.refl (fun _ => False) w).alloc _).trans' hk (fun i hi => ?_)
        simp [Value.ownBlock] at hi
        right; omega
theorem cloneV_in {F : Nat → Prop} (v : Value) (n : Nat) (news : List Value) (w : World) (h : Lies F w 3 v n news) (hl : n * 32 ≤ 140737488351232) (h1 : ∀ u ∈ news, u.oneCell' = true) :
    Calls Try.prog 20 #[v] w fun e w' => ∃ a' c', e = .returned (.slice a' n c') ∧ Lies (fun g => g < w.heap.size) w' 3 (.slice a' n c') n news ∧ Kept (fun _ => False) w w' :=
  (cloneV_any v n news w h hl).mono fun e w' ⟨v', he, ho, hf, hk⟩ => by
    obtain ⟨pa, pc, rfl⟩ := ho.isSlice
    exact ⟨pa, pc, he, ho.lies h1 fun g hg hlt => by have := hf g hg; omega, hk⟩
set_option maxHeartbeats 400000 in
theorem cloneN_any {F : Nat → Prop} (v : Value) (n : Nat) (news : List Value) (w : World) (h : Lies F w 1 v n news) (hl : n * 4 ≤ 140737488351232) :
    Calls Try.prog 21 #[v] w fun e w' => ∃ v', e = .returned v' ∧ Own w' 28 1 v' n news ∧ (∀ g, v'.ownBlock = some g → w.heap.size ≤ g) ∧ Kept (fun _ => False) w w' := by
  have H := hid h
  obtain ⟨ao, c, rfl, h1, h1', h2, h3, h4, h5⟩ := h
  cases ao with
  | none =>
    obtain ⟨rfl, rfl⟩ := h3 rfl
    obtain rfl : news = [] := List.eq_nil_of_length_eq_zero (by simpa using h2)
    clear h1 h1' h2 h3 h4 h5 H
    have he := fun w => Lib.run_eql_slice_nil (P := Try.prog) w
    go_enter Try.func21, Try.ntmps21
    go_wp2
    go_ret
    exact ⟨_, rfl, Own.nil _ _ _, by simp [Value.ownBlock], Kept.refl _ _⟩
  | some ad =>
    clear h1 h1' h2 h3 h4 h5
    have hl' := hid hl; clear hl
    have he := fun w => Lib.run_eql_slice_nil (P := Try.prog) w
    go_enter Try.func21, Try.ntmps21
    go_wp2_with (at_builtin; refine wpList_app rfl _ _ 36 rfl 28 (.int .u32 0) 1 4 Try.underlying36 infoN rfl (by decide) _ 0 [] rfl (own_empty _ _ _) _ rfl n news ?c1 ?c2 ?c3 ?_)
    case c1 => exact (H.out.same ((Kept.refl (fun _ => False) _).alloc _)).src
    case c2 => have := hl'.out; simp only [maxLen]; omega
    case c3 => have := hl'.out; omega
    · intro a' c' w' hown hk hf _
      go_wp2
      go_ret
      refine ⟨_, rfl, by simpa using hown, fun g hg => ?_, ?_⟩
      · rcases hf g (by simpa using hg) with h | h
        · simp [Value.ownBlock] at h; omega
        · (try simp at h); omega
      · refine ((Kept.refl (fun _ => False) w).alloc _).trans' hk (fun i hi => ?_)
        simp [Value.ownBlock] at hi
        right; omega
theorem cloneN_in {F : Nat → Prop} (v : Value) (n : Nat) (news : List Value) (w : World) (h : Lies F w 1 v n news) (hl : n * 4 ≤ 140737488351232) (h1 : ∀ u ∈ news, u.oneCell' = true) :
    Calls Try.prog 21 #[v] w fun e w' => ∃ a' c', e = .returned (.slice a' n c') ∧ Lies (fun g => g < w.heap.size) w' 1 (.slice a' n c') n news ∧ Kept (fun _ => False) w w' :=
  (cloneN_any v n news w h hl).mono fun e w' ⟨v', he, ho, hf, hk⟩ => by
    obtain ⟨pa, pc, rfl⟩ := ho.isSlice
    exact ⟨pa, pc, he, ho.lies h1 fun g hg hlt => by have := hf g hg; omega, hk⟩
set_option maxHeartbeats 400000 in
theorem cloneP_any {F : Nat → Prop} (v : Value) (n : Nat) (news : List Value) (w : World) (h : Lies F w 7 v n news) (hl : n * 48 ≤ 140737488351232) :
    Calls Try.prog 33 #[v] w fun e w' => ∃ v', e = .returned v' ∧ Own w' 81 7 v' n news ∧ (∀ g, v'.ownBlock = some g → w.heap.size ≤ g) ∧ Kept (fun _ => False) w w' := by
  have H := hid h
  obtain ⟨ao, c, rfl, h1, h1', h2, h3, h4, h5⟩ := h
  cases ao with
  | none =>
    obtain ⟨rfl, rfl⟩ := h3 rfl
    obtain rfl : news = [] := List.eq_nil_of_length_eq_zero (by simpa using h2)
    clear h1 h1' h2 h3 h4 h5 H
    have he := fun w => Lib.run_eql_slice_nil (P := Try.prog) w
    go_enter Try.func33, Try.ntmps33
    go_wp2
    go_ret
    exact ⟨_, rfl, Own.nil _ _ _, by simp [Value.ownBlock], Kept.refl _ _⟩
  | some ad =>
    clear h1 h1' h2 h3 h4 h5
    have hl' := hid hl; clear hl
    have he := fun w => Lib.run_eql_slice_nil (P := Try.prog) w
    go_enter Try.func33, Try.ntmps33
    go_wp2_with (at_builtin; refine wpList_app rfl _ _ 29 rfl 81 (.agg #[.int .u8 0, .int .u32 0, .int .u32 0, .int .u8 0, .int .u8 0, .int .i64 0, .string ByteArray.empty]) 7 48 Try.underlying29 infoO rfl (by decide) _ 0 [] rfl (own_empty _ _ _) _ rfl n news ?c1 ?c2 ?c3 ?_)
    case c1 => exact (H.out.same ((Kept.refl (fun _ => False) _).alloc _)).src
    case c2 => have := hl'.out; simp only [maxLen]; omega
    case c3 => have := hl'.out; omega
    · intro a' c' w' hown hk hf _
      go_wp2
      go_ret
      refine ⟨_, rfl, by simpa using hown, fun g hg => ?_, ?_⟩
      · rcases hf g (by simpa using hg) with h | h
        · simp [Value.ownBlock] at h; omega
        · (try simp at h); omega
      · refine ((Kept.refl (fun _ => False) w).alloc _).trans' hk (fun i hi => ?_)
        simp [Value.ownBlock] at hi
        right; omega
theorem cloneP_in {F : Nat → Prop} (v : Value) (n : Nat) (news : List Value) (w : World) (h : Lies F w 7 v n news) (hl : n * 48 ≤ 140737488351232) (h1 : ∀ u ∈ news, u.oneCell' = true) :
    Calls Try.prog 33 #[v] w fun e w' => ∃ a' c', e = .returned (.slice a' n c') ∧ Lies (fun g => g < w.heap.size) w' 7 (.slice a' n c') n news ∧ Kept (fun _ => False) w w' :=
  (cloneP_any v n news w h hl).mono fun e w' ⟨v', he, ho, hf, hk⟩ => by
    obtain ⟨pa, pc, rfl⟩ := ho.isSlice
    exact ⟨pa, pc, he, ho.lies h1 fun g hg hlt => by have := hf g hg; omega, hk⟩

set_option maxRecDepth 100000 in
set_option maxHeartbeats 1000000 in
theorem copied_any {F : Nat → Prop} {w : World} {v : Value} {R : Rq} (h : ReqIn F w v R) : Calls Try.prog 18 #[.agg #[.int .u8 R.kd, v, .int .u32 R.v, .int .i64 R.k, .int .i64 R.t]] w fun e w' =>
    ∃ a c, e = .returned (.agg #[.int .u8 R.kd, .slice a R.ops.length c, .int .u32 R.v, .int .i64 R.k, .int .i64 R.t]) ∧ ReqIn (fun g => g < w.heap.size) w' (.slice a R.ops.length c) R ∧ Kept (fun _ => False) w w' := by
  have H := hid h
  obtain ⟨ao, c, rfl, m1, m2, _⟩ := h.l
  clear h m1 m2
  obtain ⟨kd, ops, vv, k, t⟩ := R
  go_enter Try.func18, Try.ntmps18
  have hn2 := two_new w (.cells #[.int .u8 kd, .slice ao ops.length c, .int .u32 vv, .int .i64 k, .int .i64 t] 31) (.cells #[.int .u8 0, .slice none 0 0, .int .u32 0, .int .i64 0, .int .i64 0] 31)
  have N2 := hid hn2; clear hn2
  go_wp2_with fail
  refine (cloneP_in _ _ _ _ (by exact H.out.l.same (((Kept.refl _ _).alloc _).alloc _)) (show ops.length * 48 ≤ 140737488351232 by have : ops.length * 48 ≤ _ := H.out.b; omega) (ocells_one _)).mono ?_
  rintro e w2 ⟨a, c2, rfl, hv2, hk2⟩
  have HV2 := hid hv2; have HK2 := hid hk2
  have hb1 := (hk2.block _ (row_lt N2.out.1) id).trans N2.out.1
  have hb2 := (hk2.block _ (row_lt N2.out.2) id).trans N2.out.2
  clear hv2 hk2
  obtain ⟨x0, x1, x2, x3, x4, x5⟩ := cells5 hb1
  have hb2' := row_other hb2 (a := ⟨w.heap.size, 1, none⟩) (by simp) (.slice a ops.length c2)
  obtain ⟨y0, y1, y2, y3, y4⟩ := set5c hb2' (.int .u8 kd) (.slice a ops.length c2) (.int .u32 vv) (.int .i64 k) (.int .i64 t)
  obtain ⟨u0, u1, u2, u3, u4, u5⟩ := cells5 hb2'
  obtain ⟨v0, v1, v2, v3, v4, v5⟩ := cells5 (row_set5 hb1 (.slice a ops.length c2))
  clear hb1 hb2 hb2'
  go_wp2_with fail
  refine bodyPost_ret (v := .agg #[.int .u8 kd, .slice a ops.length c2, .int .u32 vv, .int .i64 k, .int .i64 t]) (by simp [results, Try.results18, go_sem, y0, y1, y2, y3, y4]) rfl ⟨a, c2, rfl, ?_, ?_⟩
  · have K := ((((((Kept.refl (fun g => g = w.heap.size ∨ g = w.heap.size + 1) w2).setCell (p := ⟨w.heap.size, 1, none⟩) (.inl (.inl rfl)) (.slice a ops.length c2)).setCell (p := ⟨w.heap.size + 1, 0, none⟩) (.inl (.inr rfl)) (.int .u8 kd)).setCell (p := ⟨w.heap.size + 1, 1, none⟩) (.inl (.inr rfl)) (.slice a ops.length c2)).setCell (p := ⟨w.heap.size + 1, 2, none⟩) (.inl (.inr rfl)) (.int .u32 vv)).setCell (p := ⟨w.heap.size + 1, 3, none⟩) (.inl (.inr rfl)) (.int .i64 k)).setCell (p := ⟨w.heap.size + 1, 4, none⟩) (.inl (.inr rfl)) (.int .i64 t)
    exact ⟨(HV2.out.kept K fun g _ hg => by simp; omega).mono fun g _ hg => by simp; omega, H.out.b, H.out.s⟩
  · exact ((((((((Kept.refl _ _).alloc _).alloc _).trans HK2.out).setCell (.inr (Nat.le_refl _)) _).setCell (.inr (Nat.le_succ _)) _).setCell (.inr (Nat.le_succ _)) _).setCell (.inr (Nat.le_succ _)) _).setCell (.inr (Nat.le_succ _)) _ |>.setCell (.inr (Nat.le_succ _)) _
end Go.Proofs.Ytnlbdlbinoebgaa
