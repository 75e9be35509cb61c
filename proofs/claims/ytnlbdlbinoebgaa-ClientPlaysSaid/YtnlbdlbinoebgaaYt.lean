/- Copies that may be written: contracts with what is not frozen. -/
import Derived.Test.YtnlbdlbinoebgaaX
namespace Go.Proofs.Ytnlbdlbinoebgaa
open Go.RowKit
/-- a slice of n that may be written, its block not in F -/
def Thaw (F : Nat → Prop) (w : World) (a : Option Addr) (n : Nat) : Prop := 0 < n → ∃ g o, a = some ⟨g, o, none⟩ ∧ ¬ F g ∧ g < w.heap.size ∧ ∀ j, w.frozen? ⟨g, j, none⟩ = false
theorem Kept.ice {F : Nat → Prop} {w w' : World} (k : Kept F w w') {g : Nat} (hg : g < w.heap.size) (hF : ¬ F g) (j : Nat) : w'.frozen? ⟨g, j, none⟩ = w.frozen? ⟨g, j, none⟩ := by
  unfold World.frozen?
  rw [k.block g hg hF]
theorem Thaw.kept {F G : Nat → Prop} {w w' : World} {a : Option Addr} {n : Nat} (h : Thaw F w a n) (k : Kept G w w') (hg : ∀ g, g < w.heap.size → G g → F g) : Thaw F w' a n := fun hn => by
  obtain ⟨g, o, e, h1, h2, h3⟩ := h hn
  exact ⟨g, o, e, h1, Nat.lt_of_lt_of_le h2 k.size, fun j => (k.ice h2 (fun hG => h1 (hg g h2 hG)) j).trans (h3 j)⟩
theorem Thaw.mono {F G : Nat → Prop} {w : World} {a : Option Addr} {n : Nat} (h : Thaw F w a n) (hg : ∀ g, g < w.heap.size → G g → F g) : Thaw G w a n := fun hn => by
  obtain ⟨g, o, e, h1, h2, h3⟩ := h hn
  exact ⟨g, o, e, fun hG => h1 (hg g h2 hG), h2, h3⟩
theorem Thaw.same {F : Nat → Prop} {w w' : World} {a : Option Addr} {n : Nat} (h : Thaw F w a n) (k : Kept (fun _ => False) w w') : Thaw F w' a n := h.kept k (fun _ _ h => h.elim)
theorem Thaw.nil {F : Nat → Prop} {w : World} {a : Option Addr} : Thaw F w a 0 := fun h => absurd h (Nat.lt_irrefl 0)
theorem Own.thaw {F : Nat → Prop} {w : World} {E size : Nat} {a : Option Addr} {n c : Nat} {xs : List Value} (h : Own w E size (.slice a n c) n xs) (hF : ∀ g, (Value.slice a n c).ownBlock = some g → ¬ F g) : Thaw F w a n := fun hn => by
  rcases h.shape with ⟨e, rfl, _⟩ | ⟨g, cap, cur, e, hg, _⟩
  · exact absurd hn (Nat.lt_irrefl 0)
  · cases e
    exact ⟨g, 0, rfl, hF g rfl, row_lt hg, fun j => h.free rfl j⟩
theorem cloneP_t {F : Nat → Prop} (v : Value) (n : Nat) (news : List Value) (w : World) (h : Lies F w 7 v n news) (hl : n * 48 ≤ 140737488351232) (h1 : ∀ u ∈ news, u.oneCell' = true) :
    Calls Try.prog 33 #[v] w fun e w' => ∃ a' c', e = .returned (.slice a' n c') ∧ Lies (fun g => g < w.heap.size) w' 7 (.slice a' n c') n news ∧ Kept (fun _ => False) w w' ∧ Thaw (fun g => g < w.heap.size) w' a' n :=
  (cloneP_any v n news w h hl).mono fun e w' ⟨v', he, ho, hf, hk⟩ => by
    obtain ⟨pa, pc, rfl⟩ := ho.isSlice
    exact ⟨pa, pc, he, ho.lies h1 fun g hg hlt => by have := hf g hg; omega, hk, ho.thaw fun g hg hlt => by have := hf g hg; omega⟩
theorem cloneN_t {F : Nat → Prop} (v : Value) (n : Nat) (news : List Value) (w : World) (h : Lies F w 1 v n news) (hl : n * 4 ≤ 140737488351232) (h1 : ∀ u ∈ news, u.oneCell' = true) :
    Calls Try.prog 21 #[v] w fun e w' => ∃ a' c', e = .returned (.slice a' n c') ∧ Lies (fun g => g < w.heap.size) w' 1 (.slice a' n c') n news ∧ Kept (fun _ => False) w w' ∧ Thaw (fun g => g < w.heap.size) w' a' n :=
  (cloneN_any v n news w h hl).mono fun e w' ⟨v', he, ho, hf, hk⟩ => by
    obtain ⟨pa, pc, rfl⟩ := ho.isSlice
    exact ⟨pa, pc, he, ho.lies h1 fun g hg hlt => by have := hf g hg; omega, hk, ho.thaw fun g hg hlt => by have := hf g hg; omega⟩
set_option maxRecDepth 100000 in
set_option maxHeartbeats 1000000 in
theorem twinreq_t {F : Nat → Prop} {w : World} {v : Value} {R : Rq} (h : ReqIn F w v R) : Calls Try.prog 9 #[.agg #[.int .u8 R.kd, v, .int .u32 R.v, .int .i64 R.k, .int .i64 R.t]] w fun e w' =>
    ∃ a c, e = .returned (.agg #[.int .u8 R.kd, .slice a R.ops.length c, .int .u32 R.v, .int .i64 R.k, .int .i64 R.t]) ∧ ReqIn (fun g => g < w.heap.size) w' (.slice a R.ops.length c) R ∧ Kept (fun _ => False) w w' ∧ Thaw (fun g => g < w.heap.size) w' a R.ops.length := by
  have H := hid h
  obtain ⟨ao, c, rfl, m1, m2, _⟩ := h.l
  clear h m1 m2
  obtain ⟨kd, ops, vv, k, t⟩ := R
  have hn2 := two_new w (.cells #[.int .u8 kd, .slice ao ops.length c, .int .u32 vv, .int .i64 k, .int .i64 t] 31) (.cells #[.int .u8 0, .slice none 0 0, .int .u32 0, .int .i64 0, .int .i64 0] 31)
  have N2 := hid hn2; clear hn2
  have HE : Hid (Own (((w.alloc (.cells #[.int .u8 kd, .slice ao ops.length c, .int .u32 vv, .int .i64 k, .int .i64 t] 31)).alloc (.cells #[.int .u8 0, .slice none 0 0, .int .u32 0, .int .i64 0, .int .i64 0] 31)).alloc (.cells #[] 81)) 81 7 (.slice (some ⟨w.heap.size + 1 + 1, 0, none⟩) 0 0) 0 []) :=
    hid (by have := own_empty ((w.alloc (.cells #[.int .u8 kd, .slice ao ops.length c, .int .u32 vv, .int .i64 k, .int .i64 t] 31)).alloc (.cells #[.int .u8 0, .slice none 0 0, .int .u32 0, .int .i64 0, .int .i64 0] 31)) 81 7; simpa using this)
  have HB : Hid (ops.length * 48 ≤ 140737488351232) := hid H.out.b
  go_enter Try.func9, Try.ntmps9
  go_wp2_with (at_builtin; refine wpList_app (o := ⟨some 6, _, _, _, _, _⟩) rfl (.tmp 3) (.tmp 5) 29 rfl 81 (.agg #[.int .u8 0, .int .u32 0, .int .u32 0, .int .u8 0, .int .u8 0, .int .i64 0, .string ByteArray.empty]) 7 48 Try.underlying29 infoO rfl (by decide) _ 0 [] rfl (by exact HE.out) _ rfl ops.length (ocells ops) ?c1 ?c2 ?c3 ?_)
  case c1 => exact (H.out.l.same ((((Kept.refl (fun _ => False) _).alloc _).alloc _).alloc _)).src
  case c2 => have := HB.out; simp only [maxLen]; omega
  case c3 => have := HB.out; omega
  intro a4 c4 w4 hown hk hf _
  have hfr : ∀ g, (Value.slice a4 ops.length c4).ownBlock = some g → w.heap.size + 2 ≤ g := fun g hg => by
    rcases hf g hg with h | h
    · simp [Value.ownBlock] at h; omega
    · (try simp at h); omega
  have HV := hid (hown.lies (F := fun g => g < w.heap.size + 2) (ocells_one _) fun g hg hlt => by have := hfr g hg; omega)
  have HT := hid (hown.thaw (F := fun g => g < w.heap.size + 2) fun g hg hlt => by have := hfr g hg; omega)
  have hk' := ((((Kept.refl (fun _ => False) w).alloc (.cells #[.int .u8 kd, .slice ao ops.length c, .int .u32 vv, .int .i64 k, .int .i64 t] 31)).alloc (.cells #[.int .u8 0, .slice none 0 0, .int .u32 0, .int .i64 0, .int .i64 0] 31)).alloc (.cells #[] 81)).trans' hk (fun i hi => by simp [Value.ownBlock] at hi; right; omega)
  have HK := hid hk'
  have hb1 := (hk.block _ (Nat.lt_of_lt_of_le (row_lt N2.out.1) (by simp)) (by simp [Value.ownBlock]; omega)).trans (row_old N2.out.1 _)
  have hb2 := (hk.block _ (Nat.lt_of_lt_of_le (row_lt N2.out.2) (by simp)) (by simp [Value.ownBlock])).trans (row_old N2.out.2 _)
  clear hown hk hf hfr hk'
  obtain ⟨x0, x1, x2, x3, x4, x5⟩ := cells5 hb1
  have hb2' := row_other hb2 (a := ⟨w.heap.size, 1, none⟩) (by simp) (.slice a4 ops.length c4)
  obtain ⟨y0, y1, y2, y3, y4⟩ := set5c hb2' (.int .u8 kd) (.slice a4 ops.length c4) (.int .u32 vv) (.int .i64 k) (.int .i64 t)
  obtain ⟨u0, u1, u2, u3, u4, u5⟩ := cells5 hb2'
  obtain ⟨v0, v1, v2, v3, v4, v5⟩ := cells5 (row_set5 hb1 (.slice a4 ops.length c4))
  clear hb1 hb2 hb2'
  go_wp2_with fail
  refine bodyPost_ret (v := .agg #[.int .u8 kd, .slice a4 ops.length c4, .int .u32 vv, .int .i64 k, .int .i64 t]) (by simp [results, Try.results9, go_sem, y0, y1, y2, y3, y4]) rfl ⟨a4, c4, rfl, ?_, ?_, ?_⟩
  · have K := ((((((Kept.refl (fun g => g = w.heap.size ∨ g = w.heap.size + 1) w4).setCell (p := ⟨w.heap.size, 1, none⟩) (.inl (.inl rfl)) (.slice a4 ops.length c4)).setCell (p := ⟨w.heap.size + 1, 0, none⟩) (.inl (.inr rfl)) (.int .u8 kd)).setCell (p := ⟨w.heap.size + 1, 1, none⟩) (.inl (.inr rfl)) (.slice a4 ops.length c4)).setCell (p := ⟨w.heap.size + 1, 2, none⟩) (.inl (.inr rfl)) (.int .u32 vv)).setCell (p := ⟨w.heap.size + 1, 3, none⟩) (.inl (.inr rfl)) (.int .i64 k)).setCell (p := ⟨w.heap.size + 1, 4, none⟩) (.inl (.inr rfl)) (.int .i64 t)
    exact ⟨(HV.out.kept K fun g _ hg => by omega).mono fun g _ hg => by omega, H.out.b, H.out.s⟩
  · exact ((((((HK.out).setCell (.inr (Nat.le_refl _)) _).setCell (.inr (Nat.le_succ _)) _).setCell (.inr (Nat.le_succ _)) _).setCell (.inr (Nat.le_succ _)) _).setCell (.inr (Nat.le_succ _)) _).setCell (.inr (Nat.le_succ _)) _
  · have K := ((((((Kept.refl (fun g => g = w.heap.size ∨ g = w.heap.size + 1) w4).setCell (p := ⟨w.heap.size, 1, none⟩) (.inl (.inl rfl)) (.slice a4 ops.length c4)).setCell (p := ⟨w.heap.size + 1, 0, none⟩) (.inl (.inr rfl)) (.int .u8 kd)).setCell (p := ⟨w.heap.size + 1, 1, none⟩) (.inl (.inr rfl)) (.slice a4 ops.length c4)).setCell (p := ⟨w.heap.size + 1, 2, none⟩) (.inl (.inr rfl)) (.int .u32 vv)).setCell (p := ⟨w.heap.size + 1, 3, none⟩) (.inl (.inr rfl)) (.int .i64 k)).setCell (p := ⟨w.heap.size + 1, 4, none⟩) (.inl (.inr rfl)) (.int .i64 t)
    exact (HT.out.kept K fun g _ hg => by omega).mono fun g _ hg => by omega
set_option maxRecDepth 100000 in
set_option maxHeartbeats 1000000 in
theorem copied_t {F : Nat → Prop} {w : World} {v : Value} {R : Rq} (h : ReqIn F w v R) : Calls Try.prog 18 #[.agg #[.int .u8 R.kd, v, .int .u32 R.v, .int .i64 R.k, .int .i64 R.t]] w fun e w' =>
    ∃ a c, e = .returned (.agg #[.int .u8 R.kd, .slice a R.ops.length c, .int .u32 R.v, .int .i64 R.k, .int .i64 R.t]) ∧ ReqIn (fun g => g < w.heap.size) w' (.slice a R.ops.length c) R ∧ Kept (fun _ => False) w w' ∧ Thaw (fun g => g < w.heap.size) w' a R.ops.length := by
  have H := hid h
  obtain ⟨ao, c, rfl, m1, m2, _⟩ := h.l
  clear h m1 m2
  obtain ⟨kd, ops, vv, k, t⟩ := R
  go_enter Try.func18, Try.ntmps18
  have hn2 := two_new w (.cells #[.int .u8 kd, .slice ao ops.length c, .int .u32 vv, .int .i64 k, .int .i64 t] 31) (.cells #[.int .u8 0, .slice none 0 0, .int .u32 0, .int .i64 0, .int .i64 0] 31)
  have N2 := hid hn2; clear hn2
  go_wp2_with fail
  refine (cloneP_t _ _ _ _ (by exact H.out.l.same (((Kept.refl _ _).alloc _).alloc _)) (show ops.length * 48 ≤ 140737488351232 by have : ops.length * 48 ≤ _ := H.out.b; omega) (ocells_one _)).mono ?_
  rintro e w2 ⟨a, c2, rfl, hv2, hk2, ht2⟩
  have HT := hid ht2; clear ht2
  have HV2 := hid hv2; have HK2 := hid hk2
  have hb1 := (hk2.block _ (row_lt N2.out.1) id).trans N2.out.1
  have hb2 := (hk2.block _ (row_lt N2.out.2) id).trans N2.out.2
  clear hv2 hk2
  obtain ⟨x0, x1, x2, x3, x4, x5⟩ := cells5 hb1
  have hb2' := row_other hb2 (a := ⟨w.heap.size, 1, none⟩) (by simp) (.slice a ops.length c2)
  obtain ⟨y0, y1, y2, y3, y4⟩ := set5c hb2' (.int .u8 kd) (.slice a ops.length c2) (.int .u32 vv) (.int .i64 k) (.int .i64 t)
  obtain ⟨u0, u1, u2, u3, u4, u5⟩ := cells5 hb2'
  obtain ⟨v0, v1, v2, v3, v4, v5⟩ := cells5 (row_set5 hb1 (.slice a ops.length c2))
  clear hb1 hb2 hb2'
  go_wp2_with fail
  refine bodyPost_ret (v := .agg #[.int .u8 kd, .slice a ops.length c2, .int .u32 vv, .int .i64 k, .int .i64 t]) (by simp [results, Try.results18, go_sem, y0, y1, y2, y3, y4]) rfl ⟨a, c2, rfl, ?_, ?_, ?_⟩
  · have K := ((((((Kept.refl (fun g => g = w.heap.size ∨ g = w.heap.size + 1) w2).setCell (p := ⟨w.heap.size, 1, none⟩) (.inl (.inl rfl)) (.slice a ops.length c2)).setCell (p := ⟨w.heap.size + 1, 0, none⟩) (.inl (.inr rfl)) (.int .u8 kd)).setCell (p := ⟨w.heap.size + 1, 1, none⟩) (.inl (.inr rfl)) (.slice a ops.length c2)).setCell (p := ⟨w.heap.size + 1, 2, none⟩) (.inl (.inr rfl)) (.int .u32 vv)).setCell (p := ⟨w.heap.size + 1, 3, none⟩) (.inl (.inr rfl)) (.int .i64 k)).setCell (p := ⟨w.heap.size + 1, 4, none⟩) (.inl (.inr rfl)) (.int .i64 t)
    exact ⟨(HV2.out.kept K fun g _ hg => by simp; omega).mono fun g _ hg => by simp; omega, H.out.b, H.out.s⟩
  · exact ((((((((Kept.refl _ _).alloc _).alloc _).trans HK2.out).setCell (.inr (Nat.le_refl _)) _).setCell (.inr (Nat.le_succ _)) _).setCell (.inr (Nat.le_succ _)) _).setCell (.inr (Nat.le_succ _)) _).setCell (.inr (Nat.le_succ _)) _ |>.setCell (.inr (Nat.le_succ _)) _
  · have K := ((((((Kept.refl (fun g => g = w.heap.size ∨ g = w.heap.size + 1) w2).setCell (p := ⟨w.heap.size, 1, none⟩) (.inl (.inl rfl)) (.slice a ops.length c2)).setCell (p := ⟨w.heap.size + 1, 0, none⟩) (.inl (.inr rfl)) (.int .u8 kd)).setCell (p := ⟨w.heap.size + 1, 1, none⟩) (.inl (.inr rfl)) (.slice a ops.length c2)).setCell (p := ⟨w.heap.size + 1, 2, none⟩) (.inl (.inr rfl)) (.int .u32 vv)).setCell (p := ⟨w.heap.size + 1, 3, none⟩) (.inl (.inr rfl)) (.int .i64 k)).setCell (p := ⟨w.heap.size + 1, 4, none⟩) (.inl (.inr rfl)) (.int .i64 t)
    exact (HT.out.kept K fun g _ hg => by simp; omega).mono fun g _ hg => by simp; omega
set_option maxRecDepth 100000 in
set_option maxHeartbeats 4000000 in
theorem message_t {w : World} {cb rb : Nat} {id n seq : Int} {R : Rq} {v : Value} {F : Nat → Prop} (hc : w.heap[cb]? = some (cliRow id n seq (some ⟨rb, 0, none⟩))) (hr : w.heap[rb]? = some (.cells #[.int .u8 R.kd, v, .int .u32 R.v, .int .i64 R.k, .int .i64 R.t] 31 (0, 0))) (hin : ReqIn F w v R)
    (h0 : 0 ≤ id) (h1 : id ≤ 3) (n1 : 1 ≤ n) (n4 : n ≤ 4) :
    Calls Try.prog 19 #[.pointer (some ⟨cb, 0, none⟩)] w fun e w' => ∃ a c, e = .returned (.agg (msgCells id (id % n) seq R (.slice a R.ops.length c)).toArray) ∧ ReqIn (fun g => g < w.heap.size) w' (.slice a R.ops.length c) R ∧ Kept (fun _ => False) w w' ∧ Thaw (fun g => g < w.heap.size) w' a R.ops.length := by
  have H := hid hin
  obtain ⟨ao, c, rfl, m1, m2, _⟩ := hin.l
  clear hin m1 m2
  obtain ⟨kd, ops, vv, k, t⟩ := R
  have lc := row_lt hc
  have lr := row_lt hr
  obtain ⟨c0, c1, c2, c3, c4⟩ := cells4 (w := (w.alloc (.cells msgZero.toArray 44)).drew) (row_old hc (.cells msgZero.toArray 44))
  obtain ⟨r0, r1, r2, r3, r4, r5⟩ := cells5 (w := (w.alloc (.cells msgZero.toArray 44)).drew) (row_old hr (.cells msgZero.toArray 44))
  have N0 := hid (row_new w (.cells msgZero.toArray 44))
  have m0 : 0 ≤ id % n := Int.emod_nonneg _ (by omega)
  have m1 : id % n < 4 := by have := Int.emod_lt_of_pos id (show 0 < n by omega); omega
  clear hc hr
  go_enter Try.func19, Try.ntmps19
  unfold msgZero at c0 c1 c2 c3 c4 r0 r1 r2 r3 r4 r5
  have hz1 : ¬ n = 0 := by omega
  have hz2 : (n == 0) = false := by simpa using hz1
  have hz3 : id.tmod n = id % n := Int.tmod_eq_emod_of_nonneg h0
  have hw1 : IntKind.i64.wrap id = id := IntWalk.i64_in _ (by omega)
  have hw2 : IntKind.u8.wrap (id % n) = id % n := by simp [IntKind.wrap, IntKind.bits, IntKind.signed]; omega
  have hne1 : ¬ cb = w.heap.size := by omega
  have hne2 : ¬ rb = w.heap.size := by omega
  go_wp2_with fail
  refine wp_region_held_drew (S := fun w' => w'.cell? ⟨cb, 0, none⟩ = some (.int .u8 id) ∧ w'.cell? ⟨cb, 1, none⟩ = some (.int .i64 n) ∧ w'.cell? ⟨cb, 2, none⟩ = some (.int .u32 seq) ∧ w'.cell? ⟨cb, 3, none⟩ = some (.pointer (some ⟨rb, 0, none⟩)) ∧ w'.cell? ⟨rb, 0, none⟩ = some (.int .u8 kd) ∧ w'.cell? ⟨rb, 1, none⟩ = some (.slice ao ops.length c) ∧ w'.cell? ⟨rb, 2, none⟩ = some (.int .u32 vv) ∧ w'.cell? ⟨rb, 3, none⟩ = some (.int .i64 k) ∧ w'.cell? ⟨rb, 4, none⟩ = some (.int .i64 t)) (by kernel_rfl) (by exact ⟨c0, c1, c2, c3, r0, r1, r2, r3, r4⟩) (fun hHeld => ?_)
  refine wpAnyH_at 0 (some 3) (v := ?v200) (by decide) rfl (by kernel_rfl) (by kernel_rfl) (by kernel_rfl) (fun _ _ _ h => h) (Or.inl ⟨by rfl, ?y200⟩) (by assumption) ?r200
  case y200 => (intro w hSw; (try dsimp only at hSw); go_simp; (try with_reducible rfl))
  simp only [Act.put, List.setIfInBounds_toArray, List.set_cons_zero, List.set_cons_succ]
  refine wpAnyH_at 1 (some 4) (v := ?v201) (by decide) rfl (by kernel_rfl) (by kernel_rfl) (by kernel_rfl) (fun _ _ _ h => h) (Or.inl ⟨by rfl, ?y201⟩) (by assumption) ?r201
  case y201 => (intro w hSw; (try dsimp only at hSw); go_simp; (try with_reducible rfl))
  simp only [Act.put, List.setIfInBounds_toArray, List.set_cons_zero, List.set_cons_succ]
  refine wpAnyH_at 2 (some 5) (v := ?v202) (by decide) rfl (by kernel_rfl) (by kernel_rfl) (by kernel_rfl) (fun _ _ _ h => h) (Or.inl ⟨by rfl, ?y202⟩) (by assumption) ?r202
  case y202 => (intro w hSw; (try dsimp only at hSw); go_simp; (try with_reducible rfl))
  simp only [Act.put, List.setIfInBounds_toArray, List.set_cons_zero, List.set_cons_succ]
  refine wpAnyH_at 3 (some 6) (v := ?v203) (by decide) rfl (by kernel_rfl) (by kernel_rfl) (by kernel_rfl) (fun _ _ _ h => h) (Or.inl ⟨by rfl, ?y203⟩) (by assumption) ?r203
  case y203 => (intro w hSw; (try dsimp only at hSw); go_simp; (try with_reducible rfl))
  simp only [Act.put, List.setIfInBounds_toArray, List.set_cons_zero, List.set_cons_succ]
  refine wpAnyH_at 4 (some 7) (v := ?v204) (by decide) rfl (by kernel_rfl) (by kernel_rfl) (by kernel_rfl) (fun _ _ _ h => h) (Or.inl ⟨by rfl, ?y204⟩) (by assumption) ?r204
  case y204 => (intro w hSw; (try dsimp only at hSw); go_simp; (try with_reducible rfl))
  simp only [Act.put, List.setIfInBounds_toArray, List.set_cons_zero, List.set_cons_succ]
  refine wpAnyH_at 5 (some 8) (v := ?v205) (by decide) rfl (by kernel_rfl) (by kernel_rfl) (by kernel_rfl) (fun _ _ _ h => h) (Or.inl ⟨by rfl, ?y205⟩) (by assumption) ?r205
  case y205 => (intro w hSw; (try dsimp only at hSw); go_simp; (try with_reducible rfl))
  simp only [Act.put, List.setIfInBounds_toArray, List.set_cons_zero, List.set_cons_succ]
  refine wpAnyH_at 6 (some 9) (v := ?v206) (by decide) rfl (by kernel_rfl) (by kernel_rfl) (by kernel_rfl) (fun _ _ _ h => h) (Or.inl ⟨by rfl, ?y206⟩) (by assumption) ?r206
  case y206 => (intro w hSw; (try dsimp only at hSw); go_simp; (try with_reducible rfl))
  simp only [Act.put, List.setIfInBounds_toArray, List.set_cons_zero, List.set_cons_succ]
  refine wpAnyH_at 7 (some 10) (v := ?v207) (by decide) rfl (by kernel_rfl) (by kernel_rfl) (by kernel_rfl) (fun _ _ _ h => h) (Or.inl ⟨by rfl, ?y207⟩) (by assumption) ?r207
  case y207 => (intro w hSw; (try dsimp only at hSw); go_simp; (try with_reducible rfl))
  simp only [Act.put, List.setIfInBounds_toArray, List.set_cons_zero, List.set_cons_succ]
  refine wpAnyH_at 8 (some 11) (v := ?v208) (by decide) rfl (by kernel_rfl) (by kernel_rfl) (by kernel_rfl) (fun _ _ _ h => h) (Or.inl ⟨by rfl, ?y208⟩) (by assumption) ?r208
  case y208 => (intro w hSw; (try dsimp only at hSw); go_simp; (try with_reducible rfl))
  simp only [Act.put, List.setIfInBounds_toArray, List.set_cons_zero, List.set_cons_succ]
  refine wpAnyH_at 9 (some 12) (v := ?v209) (by decide) rfl (by kernel_rfl) (by kernel_rfl) (by kernel_rfl) (fun _ _ _ h => h) (Or.inl ⟨by rfl, ?y209⟩) (by assumption) ?r209
  case y209 => (intro w hSw; (try dsimp only at hSw); go_simp; (try with_reducible rfl))
  simp only [Act.put, List.setIfInBounds_toArray, List.set_cons_zero, List.set_cons_succ]
  refine wpAnyH_at 10 (some 13) (v := ?v210) (by decide) rfl (by kernel_rfl) (by kernel_rfl) (by kernel_rfl) (fun _ _ _ h => h) (Or.inl ⟨by rfl, ?y210⟩) (by assumption) ?r210
  case y210 => (intro w hSw; (try dsimp only at hSw); go_simp; (try with_reducible rfl))
  simp only [Act.put, List.setIfInBounds_toArray, List.set_cons_zero, List.set_cons_succ]
  refine wpAnyH_at 11 (some 14) (v := ?v211) (by decide) rfl (by kernel_rfl) (by kernel_rfl) (by kernel_rfl) (fun _ _ _ h => h) (Or.inl ⟨by rfl, ?y211⟩) (by assumption) ?r211
  case y211 => (intro w hSw; (try dsimp only at hSw); go_simp; (try with_reducible rfl))
  simp only [Act.put, List.setIfInBounds_toArray, List.set_cons_zero, List.set_cons_succ]
  refine wpAnyH_at 12 (some 15) (v := ?v212) (by decide) rfl (by kernel_rfl) (by kernel_rfl) (by kernel_rfl) (fun _ _ _ h => h) (Or.inl ⟨by rfl, ?y212⟩) (by assumption) ?r212
  case y212 => (intro w hSw; (try dsimp only at hSw); go_simp; (try with_reducible rfl))
  simp only [Act.put, List.setIfInBounds_toArray, List.set_cons_zero, List.set_cons_succ]
  refine wpAnyH_at 13 (some 16) (v := ?v213) (by decide) rfl (by kernel_rfl) (by kernel_rfl) (by kernel_rfl) (fun _ _ _ h => h) (Or.inl ⟨by rfl, ?y213⟩) (by assumption) ?r213
  case y213 => (intro w hSw; (try dsimp only at hSw); go_simp; (try with_reducible rfl))
  simp only [Act.put, List.setIfInBounds_toArray, List.set_cons_zero, List.set_cons_succ]
  refine wpAnyH_at 14 (some 17) (v := ?v214) (by decide) rfl (by kernel_rfl) (by kernel_rfl) (by kernel_rfl) (fun _ _ _ h => h) (Or.inl ⟨by rfl, ?y214⟩) (by assumption) ?r214
  case y214 => (intro w hSw; (try dsimp only at hSw); go_simp; (try with_reducible rfl))
  simp only [Act.put, List.setIfInBounds_toArray, List.set_cons_zero, List.set_cons_succ]
  refine wpAnyH_at 15 (some 18) (v := ?v215) (by decide) rfl (by kernel_rfl) (by kernel_rfl) (by kernel_rfl) (fun _ _ _ h => h) (Or.inl ⟨by rfl, ?y215⟩) (by assumption) ?r215
  case y215 => (intro w hSw; (try dsimp only at hSw); go_simp; (try with_reducible rfl))
  simp only [Act.put, List.setIfInBounds_toArray, List.set_cons_zero, List.set_cons_succ]
  refine wpAnyH_at 16 (some 19) (v := ?v216) (by decide) rfl (by kernel_rfl) (by kernel_rfl) (by kernel_rfl) (fun _ _ _ h => h) (Or.inl ⟨by rfl, ?y216⟩) (by assumption) ?r216
  case y216 => (intro w hSw; (try dsimp only at hSw); go_simp; (try with_reducible rfl))
  simp only [Act.put, List.setIfInBounds_toArray, List.set_cons_zero, List.set_cons_succ]
  refine wpAnyH_at 17 (some 20) (v := ?v217) (by decide) rfl (by kernel_rfl) (by kernel_rfl) (by kernel_rfl) (fun _ _ _ h => h) (Or.inl ⟨by rfl, ?y217⟩) (by assumption) ?r217
  case y217 => (intro w hSw; (try dsimp only at hSw); go_simp; (try with_reducible rfl))
  simp only [Act.put, List.setIfInBounds_toArray, List.set_cons_zero, List.set_cons_succ]
  refine wpAnyH_at 18 (some 21) (v := ?v218) (by decide) rfl (by kernel_rfl) (by kernel_rfl) (by kernel_rfl) (fun _ _ _ h => h) (Or.inl ⟨by rfl, ?y218⟩) (by assumption) ?r218
  case y218 => (intro w hSw; (try dsimp only at hSw); go_simp; (try with_reducible rfl))
  simp only [Act.put, List.setIfInBounds_toArray, List.set_cons_zero, List.set_cons_succ]
  refine wpAnyH_at 19 (some 22) (v := ?v219) (by decide) rfl (by kernel_rfl) (by kernel_rfl) (by kernel_rfl) (fun _ _ _ h => h) (Or.inl ⟨by rfl, ?y219⟩) (by assumption) ?r219
  case y219 => (intro w hSw; (try dsimp only at hSw); go_simp; (try with_reducible rfl))
  simp only [Act.put, List.setIfInBounds_toArray, List.set_cons_zero, List.set_cons_succ]
  refine wpAnyH_at 20 (some 23) (v := ?v220) (by decide) rfl (by kernel_rfl) (by kernel_rfl) (by kernel_rfl) (fun _ _ _ h => h) (Or.inl ⟨by rfl, ?y220⟩) (by assumption) ?r220
  case y220 => (intro w hSw; (try dsimp only at hSw); go_simp; (try with_reducible rfl))
  simp only [Act.put, List.setIfInBounds_toArray, List.set_cons_zero, List.set_cons_succ]
  refine wpAnyH_at 21 (some 24) (v := ?v221) (by decide) rfl (by kernel_rfl) (by kernel_rfl) (by kernel_rfl) (fun _ _ _ h => h) (Or.inl ⟨by rfl, ?y221⟩) (by assumption) ?r221
  case y221 => (intro w hSw; (try dsimp only at hSw); go_simp; (try with_reducible rfl))
  simp only [Act.put, List.setIfInBounds_toArray, List.set_cons_zero, List.set_cons_succ]
  refine wpAnyH_at 22 (some 25) (v := ?v222) (by decide) rfl (by kernel_rfl) (by kernel_rfl) (by kernel_rfl) (fun _ _ _ h => h) (Or.inl ⟨by rfl, ?y222⟩) (by assumption) ?r222
  case y222 => (intro w hSw; (try dsimp only at hSw); go_simp; (try with_reducible rfl))
  simp only [Act.put, List.setIfInBounds_toArray, List.set_cons_zero, List.set_cons_succ]
  refine wpAnyH_at 23 (some 26) (v := ?v223) (by decide) rfl (by kernel_rfl) (by kernel_rfl) (by kernel_rfl) (fun _ _ _ h => h) (Or.inl ⟨by rfl, ?y223⟩) (by assumption) ?r223
  case y223 => (intro w hSw; (try dsimp only at hSw); go_simp; (try with_reducible rfl))
  simp only [Act.put, List.setIfInBounds_toArray, List.set_cons_zero, List.set_cons_succ]
  refine wpAnyH_at 24 (some 27) (v := ?v224) (by decide) rfl (by kernel_rfl) (by kernel_rfl) (by kernel_rfl) (fun _ _ _ h => h) (Or.inl ⟨by rfl, ?y224⟩) (by assumption) ?r224
  case y224 => (intro w hSw; (try dsimp only at hSw); go_simp; (try with_reducible rfl))
  simp only [Act.put, List.setIfInBounds_toArray, List.set_cons_zero, List.set_cons_succ]
  refine wpAnyH_at 25 (some 28) (v := ?v225) (by decide) rfl (by kernel_rfl) (by kernel_rfl) (by kernel_rfl) (fun _ _ _ h => h) (Or.inl ⟨by rfl, ?y225⟩) (by assumption) ?r225
  case y225 => (intro w hSw; (try dsimp only at hSw); go_simp; (try with_reducible rfl))
  simp only [Act.put, List.setIfInBounds_toArray, List.set_cons_zero, List.set_cons_succ]
  refine wpAnyH_at 26 (some 29) (v := ?v226) (by decide) rfl (by kernel_rfl) (by kernel_rfl) (by kernel_rfl) (fun _ _ _ h => h) (Or.inl ⟨by rfl, ?y226⟩) (by assumption) ?r226
  case y226 => (intro w hSw; (try dsimp only at hSw); go_simp; (try with_reducible rfl))
  simp only [Act.put, List.setIfInBounds_toArray, List.set_cons_zero, List.set_cons_succ]
  refine wpAnyH_at 27 (some 30) (v := ?v227) (by decide) rfl (by kernel_rfl) (by kernel_rfl) (by kernel_rfl) (fun _ _ _ h => h) (Or.inl ⟨by rfl, ?y227⟩) (by assumption) ?r227
  case y227 => (intro w hSw; (try dsimp only at hSw); go_simp; (try with_reducible rfl))
  simp only [Act.put, List.setIfInBounds_toArray, List.set_cons_zero, List.set_cons_succ]
  refine wpAnyH_at 28 (some 31) (v := ?v228) (by decide) rfl (by kernel_rfl) (by kernel_rfl) (by kernel_rfl) (fun _ _ _ h => h) (Or.inl ⟨by rfl, ?y228⟩) (by assumption) ?r228
  case y228 => (intro w hSw; (try dsimp only at hSw); go_simp; (try with_reducible rfl))
  simp only [Act.put, List.setIfInBounds_toArray, List.set_cons_zero, List.set_cons_succ]
  refine wpAnyH_ready (rs := [29]) (by kernel_rfl) (by simp) ?_
  refine AllReadyH.cons rfl (fun K hK => ?_) AllReadyH.nil
  go_simp
  refine (copied_t (R := ⟨kd, ops, vv, k, t⟩) (by exact H.out.same ((Kept.refl _ _).alloc _).drew)).mono ?_
  rintro e w2 ⟨a, c2', rfl, hv2, hk2, ht2⟩
  have HT := hid ht2; clear ht2
  have HV2 := hid hv2; have HK2 := hid hk2
  have d0 := HK2.out.cell c0 (fun h => h); have d1 := HK2.out.cell c1 (fun h => h); have d2 := HK2.out.cell c2 (fun h => h); have d3 := HK2.out.cell c3 (fun h => h)
  have s0 := HK2.out.cell r0 (fun h => h); have s1 := HK2.out.cell r1 (fun h => h); have s2 := HK2.out.cell r2 (fun h => h); have s3 := HK2.out.cell r3 (fun h => h); have s4 := HK2.out.cell r4 (fun h => h)
  have HN := hid ((HK2.out.block _ (row_lt N0.out) (fun h => h)).trans N0.out)
  clear hv2 hk2 hHeld c0 c1 c2 c3 r0 r1 r2 r3 r4
  try dsimp only []
  refine hK.out _ _ (by exact ⟨d0, d1, d2, d3, s0, s1, s2, s3, s4⟩) (fun hHeld => ?_)
  clear hK K
  try simp only [Act.put, List.setIfInBounds_toArray, List.set_cons_zero, List.set_cons_succ]
  refine wpAnyH_at 30 (some 33) (v := ?v230) (by decide) rfl (by kernel_rfl) (by kernel_rfl) (by kernel_rfl) (fun _ _ _ h => h) (Or.inl ⟨by rfl, ?y230⟩) (by assumption) ?r230
  case y230 => (intro w hSw; (try dsimp only at hSw); go_simp; (try with_reducible rfl))
  simp only [Act.put, List.setIfInBounds_toArray, List.set_cons_zero, List.set_cons_succ]
  refine wpAnyH_ready (rs := [31]) (by kernel_rfl) (by simp) ?_
  refine AllReadyH.cons rfl (fun K hK => ?_) AllReadyH.nil
  refine step_store_row (by rfl) 44 (.tmp 2) (.tmp 33) rfl (msgCells id (id % n) seq ⟨kd, ops, vv, k, t⟩ (.slice a ops.length c2')).toArray msgZero.toArray rfl ?e1 HN.out rfl infoM ?e2 ?_
  case e1 => rfl
  case e2 => simp [msgCells, Value.oneCell']
  intro w3 hb3 hk3
  try dsimp only []
  refine hK.out _ _ (by exact ⟨hk3.cell d0 hne1, hk3.cell d1 hne1, hk3.cell d2 hne1, hk3.cell d3 hne1, hk3.cell s0 hne2, hk3.cell s1 hne2, hk3.cell s2 hne2, hk3.cell s3 hne2, hk3.cell s4 hne2⟩) (fun hHeld => ?_)
  clear hK K
  try simp only [Act.put, List.setIfInBounds_toArray, List.set_cons_zero, List.set_cons_succ]
  refine wpAnyH_done (by kernel_rfl) ?_ _
  have HB3 := hid hb3; have HK3 := hid hk3
  clear hb3 hk3 hHeld
  go_wp2_with fail
  refine bodyPost_ret (results_row (fn := Try.f19) rfl (by rfl) HB3.out Try.underlying44 rfl (by exact infoM)) rfl ⟨a, c2', rfl, ?_, ?_, ?_⟩
  · exact (HV2.out.kept HK3.out fun g _ hg => by subst hg; simp).mono fun g _ hg => by simp; omega
  · exact ((((Kept.refl _ _).alloc _).drew).trans HK2.out).trans' HK3.out fun g hg => .inr (by omega)
  · exact (HT.out.kept HK3.out fun g _ hg => by subst hg; simp).mono fun g _ hg => by simp; omega
set_option maxRecDepth 100000 in
set_option maxHeartbeats 4000000 in
theorem recv_t {F : Nat → Prop} {w : World} {cb : Nat} (hF : F cb) {id n seq : Int} {rb : Addr} {m1 m2 m3 m4 m5 m6 m7 rk rv rn rt ae ap m23 m24 m25 : Int} {vo vw vx vd vz : Value} {va la : Option Addr} {vn vq ln lq : Nat} {vc lc' : List Value} (hc : w.heap[cb]? = some (cliRow id n seq (some rb)))
    (hv : Lies F w 3 (.slice va vn vq) vn vc) (hl : Lies F w 1 (.slice la ln lq) ln lc') (bv : vn * 32 ≤ 140737488351232) (bl : ln * 4 ≤ 140737488351232) :
    Calls Try.prog 11 #[.pointer (some ⟨cb, 0, none⟩), .agg #[.int .u8 2, .int .u8 m1, .int .u8 m2, .int .u8 m3, .int .u32 m4, .int .u32 m5, .int .u64 m6, .int .u32 m7, .int .u8 id, .int .u32 seq, .int .u8 rk, vo, .int .u32 rv, .int .i64 rn, .int .i64 rt, .int .i64 ae, .int .i64 ap, .slice va vn vq, .slice la ln lq, vw, vx, vd, vz, .int .u64 m23, .int .u64 m24, .int .i64 m25]] w fun e w' => ∃ va' vq' la' lq', e = .returned (.tuple #[.agg #[.int .i64 ae, .int .i64 ap, .slice va' vn vq', .slice la' ln lq'], .bool true]) ∧
      Lies (fun g => g < w.heap.size) w' 3 (.slice va' vn vq') vn vc ∧ Lies (fun g => g < w.heap.size) w' 1 (.slice la' ln lq') ln lc' ∧ w'.heap[cb]? = some (cliRow id n seq none) ∧ Kept (fun g => g = cb) w w' ∧ Thaw (fun g => g < w.heap.size) w' la' ln := by
  have HV := hid hv; have HL := hid hl
  have H1V := hid (show ∀ u ∈ vc, u.oneCell' = true from hv.src.choose_spec.choose_spec.2.2.2.2)
  have H1L := hid (show ∀ u ∈ lc', u.oneCell' = true from hl.src.choose_spec.choose_spec.2.2.2.2)
  clear hv hl
  have lc := row_lt hc
  have HC := hid hc
  have q8 : (id != id) = false := by simp
  have q9 : (seq != seq) = false := by simp
  have htw := two_new w (.cells #[.int .u8 2, .int .u8 m1, .int .u8 m2, .int .u8 m3, .int .u32 m4, .int .u32 m5, .int .u64 m6, .int .u32 m7, .int .u8 id, .int .u32 seq, .int .u8 rk, vo, .int .u32 rv, .int .i64 rn, .int .i64 rt, .int .i64 ae, .int .i64 ap, .slice va vn vq, .slice la ln lq, vw, vx, vd, vz, .int .u64 m23, .int .u64 m24, .int .i64 m25] 44) (.cells #[.int .i64 0, .int .i64 0, .slice none 0 0, .slice none 0 0] 38)
  have hk1 := ((Kept.refl (fun _ => False) w).alloc (.cells #[.int .u8 2, .int .u8 m1, .int .u8 m2, .int .u8 m3, .int .u32 m4, .int .u32 m5, .int .u64 m6, .int .u32 m7, .int .u8 id, .int .u32 seq, .int .u8 rk, vo, .int .u32 rv, .int .i64 rn, .int .i64 rt, .int .i64 ae, .int .i64 ap, .slice va vn vq, .slice la ln lq, vw, vx, vd, vz, .int .u64 m23, .int .u64 m24, .int .i64 m25] 44)).alloc (.cells #[.int .i64 0, .int .i64 0, .slice none 0 0, .slice none 0 0] 38)
  go_enter Try.func11, Try.ntmps11
  go_wp2_with fail
  obtain ⟨w1, hw1⟩ : ∃ w1, (w.alloc (.cells #[.int .u8 2, .int .u8 m1, .int .u8 m2, .int .u8 m3, .int .u32 m4, .int .u32 m5, .int .u64 m6, .int .u32 m7, .int .u8 id, .int .u32 seq, .int .u8 rk, vo, .int .u32 rv, .int .i64 rn, .int .i64 rt, .int .i64 ae, .int .i64 ap, .slice va vn vq, .slice la ln lq, vw, vx, vd, vz, .int .u64 m23, .int .u64 m24, .int .i64 m25] 44)).alloc (.cells #[.int .i64 0, .int .i64 0, .slice none 0 0, .slice none 0 0] 38) = w1 := ⟨_, rfl⟩
  obtain ⟨b, hb⟩ : ∃ b, w.heap.size = b := ⟨_, rfl⟩
  rw [hw1] at htw hk1
  rw [hb] at htw
  try rw [hw1]
  try rw [hb]
  have HB := hid hb
  have R0 := hid htw.1; have R1 := hid htw.2; have K1 := hid hk1
  have d0 : w1.cell? ⟨b, 0, none⟩ = some (.int .u8 2) := by rw [row_cell R0.out]; rfl
  have d8 : w1.cell? ⟨b, 8, none⟩ = some (.int .u8 id) := by rw [row_cell R0.out]; rfl
  have d9 : w1.cell? ⟨b, 9, none⟩ = some (.int .u32 seq) := by rw [row_cell R0.out]; rfl
  clear htw hk1 hw1 hb
  have C1 := hid ((K1.out.block cb lc (fun h => h)).trans HC.out)
  obtain ⟨c0, c1, c2, c3, cf⟩ := cells4 C1.out
  clear c1 cf
  go_quiet (fail)
  have lb := HB.out
  have KQ := hid (show Kept (fun _ => False) w1 (w1.drewN nq) from ⟨rfl, rfl, rfl, Nat.le_refl _, fun _ _ _ => rfl⟩)
  have RQ0 := hid (show (w1.drewN nq).heap[b]? = _ from R0.out); have RQ1 := hid (show (w1.drewN nq).heap[b + 1]? = _ from R1.out); have CQ := hid (show (w1.drewN nq).heap[cb]? = _ from C1.out)
  have KQ1 := hid (K1.out.trans KQ.out)
  clear d0 d8 d9 c0 c2 c3 KQ R0 R1 C1 K1
  obtain ⟨wq, hwq⟩ : ∃ x, w1.drewN nq = x := ⟨_, rfl⟩
  rw [hwq] at RQ0 RQ1 CQ KQ1 ⊢
  clear hwq
  go_wp2_with (refine wpList_store_cell rfl 68 (.tmp 42) (.const (.pointer none)) rfl (by kernel_rfl) cb 3 rfl (.pointer none) rfl rfl CQ.out (by simp) ?_; intro w2 hr hk; have CX := hid hr.out; have KX := hid hk.out; have RX0 := hid ((KX.out.block b (row_lt RQ0.out) (by omega)).trans RQ0.out); have RX1 := hid ((KX.out.block (b + 1) (row_lt RQ1.out) (by omega)).trans RQ1.out); have e15 : w2.cell? ⟨b, 15, none⟩ = some (.int .i64 ae) := (by rw [row_cell RX0.out]; rfl); have e16 : w2.cell? ⟨b, 16, none⟩ = some (.int .i64 ap) := (by rw [row_cell RX0.out]; rfl); have e17 : w2.cell? ⟨b, 17, none⟩ = some (.slice va vn vq) := (by rw [row_cell RX0.out]; rfl); have e18 : w2.cell? ⟨b, 18, none⟩ = some (.slice la ln lq) := (by rw [row_cell RX0.out]; rfl); clear hr hk; refine Hid.out ?_)
  refine hid ?_
  go_wp2_with (refine wpList_store_row rfl 38 (.tmp 6) (.tmp 44) rfl #[.int .i64 ae, .int .i64 ap, .slice va vn vq, .slice la ln lq] #[.int .i64 0, .int .i64 0, .slice none 0 0, .slice none 0 0] (by rfl) (by rfl) (by exact row_new w2 _) rfl infoAn (by simp [Value.oneCell']) ?_; intro w3 hb3 hk3; have RS := hid hb3; have KS := hid (((Kept.refl (fun _ => False) w2).alloc (.cells #[.int .i64 0, .int .i64 0, .slice none 0 0, .slice none 0 0] 38)).trans' hk3 (fun i e => .inr (by rw [e]; exact Nat.le_refl _))); clear hb3 hk3; refine Hid.out ?_)
  refine hid ?_
  obtain ⟨sb, hsb⟩ : ∃ sb, w2.heap.size = sb := ⟨_, rfl⟩
  rw [hsb] at RS ⊢
  have HSB := hid hsb
  have R31 := hid ((KS.out.block (b + 1) (row_lt RX1.out) (fun h => h)).trans RX1.out)
  have C3 := hid ((KS.out.block cb (row_lt CX.out) (fun h => h)).trans CX.out)
  have K3 := hid (show Kept (fun g => g = cb) w w3 from ((KQ1.out.mono (fun _ _ h => h.elim)).trans KX.out).trans (KS.out.mono (fun _ _ h => h.elim)))
  have lsb : b + 1 < sb := by have := row_lt RX1.out; omega
  have lcb : cb < b := by omega
  clear hsb e15 e16 e17 e18 RX0 RX1 RQ0 RQ1 CQ KX KS CX KQ1
  go_wp2_with fail
  obtain ⟨x0, x1, x2, x3, xf⟩ := cells4 RS.out
  clear x0 x1 xf
  refine wp_region_till (fun w' : World => w'.cell? ⟨sb, 2, none⟩ = some (.slice va vn vq) ∧ w'.cell? ⟨sb, 3, none⟩ = some (.slice la ln lq)) 7 (by kernel_rfl) (by exact ⟨x2, x3⟩) (fun hHeld => ?_)
  refine till_pure 0 (some 45) (v := ?v01) (by decide) rfl (by kernel_rfl) (by kernel_rfl) (by kernel_rfl) (by kernel_rfl) (by decide) (fun _ _ _ h => h) (Or.inl ⟨by rfl, ?y01⟩) (by assumption) ?r01
  case y01 => (intro w hSw; clear hSw; go_simp; (try with_reducible rfl))
  simp only [Act.put, List.setIfInBounds_toArray, List.set_cons_zero, List.set_cons_succ]
  refine till_load 1 (some 46) [2] (v := ?v02) (by decide) rfl (by kernel_rfl) (by kernel_rfl) (by kernel_rfl) (by kernel_rfl) (by kernel_rfl) (by decide) (by decide) (fun _ _ _ h => h) (Or.inl ⟨by rfl, ?y02⟩) (by assumption) ?r02
  case y02 => (intro w hSw; (try dsimp only at hSw); go_simp; (try with_reducible rfl))
  simp only [Act.put, List.setIfInBounds_toArray, List.set_cons_zero, List.set_cons_succ]
  refine till_pure 3 (some 48) (v := ?v03) (by decide) rfl (by kernel_rfl) (by kernel_rfl) (by kernel_rfl) (by kernel_rfl) (by decide) (fun _ _ _ h => h) (Or.inl ⟨by rfl, ?y03⟩) (by assumption) ?r03
  case y03 => (intro w hSw; clear hSw; go_simp; (try with_reducible rfl))
  simp only [Act.put, List.setIfInBounds_toArray, List.set_cons_zero, List.set_cons_succ]
  refine till_load 4 (some 49) [5] (v := ?v04) (by decide) rfl (by kernel_rfl) (by kernel_rfl) (by kernel_rfl) (by kernel_rfl) (by kernel_rfl) (by decide) (by decide) (fun _ _ _ h => h) (Or.inl ⟨by rfl, ?y04⟩) (by assumption) ?r04
  case y04 => (intro w hSw; (try dsimp only at hSw); go_simp; (try with_reducible rfl))
  simp only [Act.put, List.setIfInBounds_toArray, List.set_cons_zero, List.set_cons_succ]
  refine till_call 2 (by kernel_rfl) rfl (fun K hK => ?_)
  go_simp
  have KD := hid (show Kept (fun g => g = cb) w w3.drew from K3.out.drew)
  refine (cloneV_in _ vn vc _ (HV.out.kept KD.out (fun g _ e => by rw [e]; exact hF)) bv H1V.out).mono ?_
  rintro e w4 ⟨va', vq', rfl, hv4, hk4⟩
  have HV4 := hid hv4; have K4 := hid hk4
  have KD4 := hid (KD.out.trans (hk4.mono (fun _ _ h => h.elim)))
  have RS4 := hid ((hk4.block sb (row_lt RS.out) (fun h => h)).trans (show w3.drew.heap[sb]? = _ from RS.out))
  clear hv4 hk4 x2 x3
  try dsimp only []
  refine hK.out _ _ (by exact ⟨(cells4 RS4.out).2.2.1, (cells4 RS4.out).2.2.2.1⟩) (fun hHeld => ?_)
  clear hK K
  try simp only [Act.put, List.setIfInBounds_toArray, List.set_cons_zero, List.set_cons_succ]
  refine till_pure 6 (some 51) (v := ?v06) (by decide) rfl (by kernel_rfl) (by kernel_rfl) (by kernel_rfl) (by kernel_rfl) (by decide) (fun _ _ _ h => h) (Or.inl ⟨by rfl, ?y06⟩) (by assumption) ?r06
  case y06 => (intro w hSw; clear hSw; go_simp; (try with_reducible rfl))
  simp only [Act.put, List.setIfInBounds_toArray, List.set_cons_zero, List.set_cons_succ]
  refine till_call 5 (by kernel_rfl) rfl (fun K hK => ?_)
  go_simp
  refine (cloneN_t _ ln lc' _ (HL.out.kept KD4.out (fun g _ e => by rw [e]; exact hF)) bl H1L.out).mono ?_
  rintro e w5 ⟨la', lq', rfl, hl5, hk5, ht5⟩
  have HT5 := hid ht5; clear ht5
  have HL5 := hid hl5; have K5 := hid hk5
  have KD5 := hid (KD4.out.trans (hk5.mono (fun _ _ h => h.elim)))
  have RS5 := hid ((hk5.block sb (row_lt RS4.out) (fun h => h)).trans RS4.out)
  have R35 := hid ((hk5.block (b + 1) (Nat.lt_of_lt_of_le (row_lt R31.out) K4.out.size) (fun h => h)).trans ((K4.out.block (b + 1) (row_lt R31.out) (fun h => h)).trans R31.out))
  have C5 := hid ((hk5.block cb (Nat.lt_of_lt_of_le (row_lt C3.out) K4.out.size) (fun h => h)).trans ((K4.out.block cb (row_lt C3.out) (fun h => h)).trans C3.out))
  have HV5 := hid (HV4.out.kept hk5 (fun _ _ h => h.elim))
  have S3 := hid (show sb < w3.heap.size from row_lt RS.out)
  have S4 := hid K4.out.size
  clear hl5 hk5 K4 RS4 R31 C3 HV4
  try dsimp only []
  refine hK.out _ _ (by exact ⟨(cells4 RS5.out).2.2.1, (cells4 RS5.out).2.2.2.1⟩) (fun hHeld => ?_)
  clear hK K
  try simp only [Act.put, List.setIfInBounds_toArray, List.set_cons_zero, List.set_cons_succ]
  refine till_list [8, 9] (by kernel_rfl) (by kernel_rfl) (by decide) (by decide) ?_
  simp only [pickOps, List.getElem?_toArray, List.getElem?_cons_zero, List.getElem?_cons_succ]
  go_wp2_with (first
    | (refine wpList_store_cell rfl 35 (.tmp 51) (.tmp 47) rfl (by kernel_rfl) sb 2 rfl (.slice va' vn vq') rfl rfl RS5.out (by simp) ?_; intro w6 hr hk; have RS6 := hid hr.out; have K56 := hid hk.out; clear hr hk)
    | (refine wpList_store_cell rfl 36 (.tmp 52) (.tmp 50) rfl (by kernel_rfl) sb 3 rfl (.slice la' ln lq') rfl rfl RS6.out (by simp) ?_; intro w7 hr hk; have hr' := hr.out; simp only [List.setIfInBounds_toArray, List.set_cons_zero, List.set_cons_succ] at hr'; have RS7 := hid hr'; have K67 := hid hk.out; obtain ⟨x0, x1, x2, x3, xf⟩ := cells4 hr'; have R37 := hid ((K67.out.block (b + 1) (by have h := row_lt R35.out; have := K56.out.size; omega) (by omega)).trans ((K56.out.block (b + 1) (row_lt R35.out) (by omega)).trans R35.out)); clear hr hk hr')
    | (refine wpList_store_row rfl 38 (.tmp 4) (.tmp 53) rfl #[.int .i64 ae, .int .i64 ap, .slice va' vn vq', .slice la' ln lq'] #[.int .i64 0, .int .i64 0, .slice none 0 0, .slice none 0 0] (by rfl) (by rfl) (by exact R37.out) rfl infoAn (by simp [Value.oneCell']) ?_; intro w8 hb6 hk6; have HB8 := hid hb6; have K78 := hid hk6; clear hb6 hk6))
  have s3 : sb < w3.heap.size := S3.out
  have s4 : w3.heap.size ≤ w4.heap.size := S4.out
  have KK := hid (show Kept (fun g => g = sb ∨ g = b + 1) w5 w8 from (K56.out.mono (fun _ _ h => .inl h)).trans ((K67.out.mono (fun _ _ h => .inl h)).trans (K78.out.mono (fun _ _ h => .inr h))))
  refine bodyPost_ret (results_row_tmp (fn := Try.f11) rfl (by rfl) rfl HB8.out Try.underlying38 rfl (by exact infoAn)) rfl ⟨va', vq', la', lq', rfl, ?_, ?_, ?_, ?_, ?_⟩
  · exact ((HV5.out.mono (G := fun g => g < sb + 1) (fun g _ e => by show g < w3.heap.size; omega)).kept KK.out (fun g _ e => by omega)).mono (fun g _ e => by omega)
  · exact ((HL5.out.mono (G := fun g => g < sb + 1) (fun g _ e => by omega)).kept KK.out (fun g _ e => by omega)).mono (fun g _ e => by omega)
  · have h := (KK.out.block cb (row_lt C5.out) (by omega)).trans C5.out
    exact h
  · exact KD5.out.trans' KK.out (fun i e => .inr (by omega))
  · exact ((HT5.out.mono (G := fun g => g < sb + 1) (fun g _ e => by omega)).kept KK.out (fun g _ e => by omega)).mono (fun g _ e => by omega)
theorem recv_ms_t {w : World} {F : Nat → Prop} {cb : Nat} (hF : F cb) {id n seq : Int} {rb : Addr} {ms : Array Value} {m1 m2 m3 m4 m5 m6 m7 rk rv rn rt ae ap m23 m24 m25 : Int} {oa va la wa xa da na : Option Addr} {oq vq lq wq xq dq nq : Nat} {ops : List O} {V : List Val} {L : List Int} {WL : List (Int × Int)} {X : List Vt} {D : List (Int × Int × Int)} {NB : List Int}
    {m0 m8 m9 : Int} (hms : Hid (ms = #[.int .u8 m0, .int .u8 m1, .int .u8 m2, .int .u8 m3, .int .u32 m4, .int .u32 m5, .int .u64 m6, .int .u32 m7, .int .u8 m8, .int .u32 m9, .int .u8 rk, .slice oa (List.length ops) oq, .int .u32 rv, .int .i64 rn, .int .i64 rt, .int .i64 ae, .int .i64 ap, .slice va (List.length V) vq, .slice la (List.length L) lq, .slice wa (List.length WL) wq, .slice xa (List.length X) xq, .slice da (List.length D) dq, .slice na (List.length NB) nq, .int .u64 m23, .int .u64 m24, .int .i64 m25])) (e0 : m0 = 2) (e8 : m8 = id) (e9 : m9 = seq) (h : MsgIn F w rk rv rn rt oa va la wa xa da na oq vq lq wq xq dq nq ops V L WL X D NB) (hc : w.heap[cb]? = some (cliRow id n seq (some rb))) :
    Calls Try.prog 11 #[.pointer (some ⟨cb, 0, none⟩), .agg ms] w fun e w' => ∃ ans va' vq' la' lq', e = .returned (.tuple #[.agg ans, .bool true]) ∧ Hid (ans = #[.int .i64 ae, .int .i64 ap, .slice va' V.length vq', .slice la' L.length lq']) ∧
      Lies (fun g => g < w.heap.size) w' 3 (.slice va' V.length vq') V.length (V.flatMap vcell) ∧ Lies (fun g => g < w.heap.size) w' 1 (.slice la' L.length lq') L.length (L.flatMap nuC) ∧ w'.heap[cb]? = some (cliRow id n seq none) ∧ Kept (fun g => g = cb) w w' ∧ Thaw (fun g => g < w.heap.size) w' la' L.length := by
  subst e0 e8 e9
  have e := hms.out
  subst e
  refine (recv_t hF hc h.hv h.hl h.bv h.bl).mono ?_
  rintro e w' ⟨va', vq', la', lq', rfl, h1, h2, h3, h4, h5⟩
  exact ⟨_, va', vq', la', lq', rfl, hid rfl, h1, h2, h3, h4, h5⟩
end Go.Proofs.Ytnlbdlbinoebgaa
