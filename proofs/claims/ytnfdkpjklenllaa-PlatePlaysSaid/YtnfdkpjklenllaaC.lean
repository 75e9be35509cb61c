/- Write. -/
import Derived.Test.YtnfdkpjklenllaaB

namespace Go.Proofs.Ytnfdkpjklenllaa
open Go.RowKit

/-- copy(d, v) of bytes into a row, the world behind it under a name -/
theorem wpList_copy_byt {P : Program} {w : World} {ops : Array Oper} {rest : List Oper} {o : Oper} {a : Act} {Q : Exit → Act → World → Prop} (hgd : o.guard = none) (d s : Operand) (dT sT : TypeId)
    (ho : o.op = .call { callee := .builtin .copy, args := #[d, s], argTypes := #[dT, sT] }) (elem : TypeId) (hu : P.underlying dT = some (.slice elem)) (hs : (P.info? elem).map (·.size) = some 1)
    (g off dLen dCap : Nat) (v : Value) (l : List Int) (hd : a.eval d = .slice (some ⟨g, off, none⟩) dLen dCap) (hsv : a.eval s = v) (hv : Byt w v l) (hl : l.length ≤ dLen)
    (cur : Array Value) (t : TypeId) (hg : w.heap[g]? = some (.cells cur t (0, 0))) (hfit : off + l.length ≤ cur.size)
    (h : ∀ w' cur', w'.heap[g]? = some (.cells cur' t (0, 0)) → cur'.toList = cur.toList.take off ++ u8s l ++ cur.toList.drop (off + l.length) → Kept (fun i => i = g) w w' → wpList P ops Q rest (a.put o.dst (goInt l.length)) w') :
    wpList P ops Q (o :: rest) a w := by
  obtain ⟨ao, c, rfl, ⟨h1, h2⟩, h3, h4⟩ := hv
  cases ao with
  | none =>
    obtain ⟨e0, rfl⟩ := h3 rfl
    obtain rfl := List.eq_nil_of_length_eq_zero e0
    have hr := run_copy_none (P := P) w dT sT o.type elem (some ⟨g, off, none⟩) none dLen dCap 0 0 hu hs (by simp)
    refine wpList_run hgd ?_ (h w cur hg (by simp [u8s]) (Kept.refl _ _))
    simp [execOp, ho, resolve, invoke, builtin, hd, hsv, hr, Result.andThen, goInt]
  | some ad =>
    refine wpList_copy_some hgd d s dT sT ho elem 1 hu hs g off dLen dCap ad l.length c hd hsv cur t hg (u8s l) l.length (Nat.min_eq_left hl) (by simp [u8s]) (fun j u hj => ?_) (by rw [u8s_len]; exact hfit) (u8s_one l) (fun w' cur' q1 q2 q3 => h w' cur' q1.out (by rw [q2.out, u8s_len]) q3.out)
    simp only [u8s, List.getElem?_map, Option.map_eq_some_iff] at hj
    obtain ⟨x, hx, rfl⟩ := hj
    obtain ⟨b, off', e, hc⟩ := h4 j x hx
    cases e
    rw [Addr.add_mid]; exact hc

/-- a page's bytes: with 00 behind -/
def pad (l : List Int) : List Int := l ++ List.replicate (64 - l.length) 0
theorem pad_len {l : List Int} (h : l.length ≤ 64) : (pad l).length = 64 := by simp [pad]; omega
def Plt.add (S : Plt) (i : Int) (l : List Int) : Plt := { S with since := S.since ++ [(i, pad l)] }
def Plt.down (S : Plt) : Int := if S.off then 11 else 0
theorem pcell_zero (i : Int) : #[Value.int .i64 i, .int .u8 0, .int .u8 0, .int .u8 0, .int .u8 0, .int .u8 0, .int .u8 0, .int .u8 0, .int .u8 0, .int .u8 0, .int .u8 0, .int .u8 0, .int .u8 0, .int .u8 0, .int .u8 0, .int .u8 0, .int .u8 0, .int .u8 0, .int .u8 0, .int .u8 0, .int .u8 0, .int .u8 0, .int .u8 0, .int .u8 0, .int .u8 0, .int .u8 0, .int .u8 0, .int .u8 0, .int .u8 0, .int .u8 0, .int .u8 0, .int .u8 0, .int .u8 0, .int .u8 0, .int .u8 0, .int .u8 0, .int .u8 0, .int .u8 0, .int .u8 0, .int .u8 0, .int .u8 0, .int .u8 0, .int .u8 0, .int .u8 0, .int .u8 0, .int .u8 0, .int .u8 0, .int .u8 0, .int .u8 0, .int .u8 0, .int .u8 0, .int .u8 0, .int .u8 0, .int .u8 0, .int .u8 0, .int .u8 0, .int .u8 0, .int .u8 0, .int .u8 0, .int .u8 0, .int .u8 0, .int .u8 0, .int .u8 0, .int .u8 0, .int .u8 0] = (pcell (i, zpg)).toArray := by rfl

/-- a write more -/
theorem PlIn.push {F : Nat → Prop} {w w2 w4 : World} {b mb cap c' : Nat} {ao a' : Option Addr} {S : Plt} (h : PlIn F w b mb ao cap S) (x : Pend) (hx : x.2.length = 64) (hk0 : Kept (fun _ => False) w w2) (ho : Own w4 71 65 (.slice a' (S.since.length + 1) c') (S.since.length + 1) (pcells S.since ++ pcell x))
    (hk : Kept (fun k => (Value.slice ao S.since.length cap).ownBlock = some k) w2 w4) (hf : ∀ g, (Value.slice a' (S.since.length + 1) c').ownBlock = some g → (Value.slice ao S.since.length cap).ownBlock = some g ∨ w2.heap.size ≤ g) :
    PlIn (fun g => F g ∨ w.heap.size ≤ g) (w4.setCell ⟨b, 2, none⟩ (.slice a' (S.since.length + 1) c')) b mb a' c' { S with since := S.since ++ [x] } ∧ Kept F w (w4.setCell ⟨b, 2, none⟩ (.slice a' (S.since.length + 1) c')) ∧ w4.heap[b]? = some (plRow S mb ao cap) := by
  have hsz := hk0.size
  have hne := h.ne
  have h4 : Kept (fun k => (Value.slice ao S.since.length cap).ownBlock = some k) w w4 := (hk0.mono (fun _ _ h => h.elim)).trans hk
  have hr : w4.heap[b]? = some (plRow S mb ao cap) := (h4.block _ (row_lt h.r) (h.o.ne_block h.r (by decide))).trans h.r
  have hmb : w4.heap[mb]? = w.heap[mb]? := h4.block _ (by obtain ⟨L, h1, _⟩ := h.q; exact h1.lt) (fun e => hne.2 _ e rfl)
  refine ⟨⟨?_, ?_, ?_, .inl h.m, .inl h.f, fun g hg => ?_, h.l, ?_⟩, (h4.mono (fun g _ hg => h.g g hg)).setCell (.inl h.m) _, hr⟩
  · have := row_set hr 2 (.slice a' (S.since.length + 1) c')
    rw [this]; simp
  · obtain ⟨L, h1, h2⟩ := h.q
    exact ⟨L, h1.of_block ((Below.heap_setCell _ _ _ _ (by exact Ne.symm hne.1)).trans hmb), h2⟩
  · have : Own w4 71 65 (.slice a' (S.since ++ [x]).length c') (S.since ++ [x]).length (pcells (S.since ++ [x])) := by
      rw [pcells_snoc, List.length_append]; exact ho
    exact this.of_block fun g hg => Below.heap_setCell _ _ _ _ (fun e => by subst e; exact this.ne_block hr (by decide) hg)
  · rcases hf g (by simpa using hg) with h' | h'
    · exact .inl (h.g g h')
    · exact .inr (by omega)
  · intro y hy
    rw [List.mem_append] at hy
    rcases hy with hy | hy
    · exact h.s y hy
    · simp at hy; subst hy; exact hx
theorem infoPend : (Try.prog.info? 71).map (fun i => (i.zero, i.size, i.bytes)) = some (some (.agg (pcell (0, zpg)).toArray), 65, 72) := by kernel_rfl
set_option maxRecDepth 100000 in
set_option maxHeartbeats 2000000 in
theorem write_ok {F : Nat → Prop} {w : World} {b mb cap : Nat} {ao : Option Addr} {S : Plt} (h : PlIn F w b mb ao cap S) (hs : Small S) (hoff : S.off = false) (hn : S.since.length ≤ 10000) (i : Int) (i0 : 0 ≤ i) (i1 : i < S.n) {v : Value} {l : List Int} (hv : Byt w v l) (hl : l.length ≤ 64) :
    Calls Try.prog 10 #[.pointer (some ⟨b, 0, none⟩), .int .i64 i, v] w fun e w' => e = .returned (.int .i64 (tick (S.add i l)).down) ∧ (∃ F', PlAt F' w' b (tick (S.add i l)) ∧ ∀ g, F' g → F g ∨ w.heap.size ≤ g) ∧ Kept F w w' := by
  obtain ⟨c0, c1, c2, c3, c4, c5⟩ := cells6 h.r
  have H := hid h; clear h
  have HV := hid hv
  have HL := hid hl; clear hl
  have HO := hid hoff
  obtain ⟨vo, vc, rfl, _⟩ := hv
  clear c1 c2 c3 c4 c5
  have i0' : ¬ i < 0 := by omega
  have i1' : ¬ S.n ≤ i := by omega
  have l1' : ¬ (64 : Int) < (l.length : Int) := by have := HL.out; omega
  have HN := hid hn; clear hn
  have HSM := hid (show Small (S.add i l) from ⟨hs.o, hs.a⟩)
  have HI := hid i0; have HI1 := hid i1; clear i0 i1
  go_enter Try.func10, Try.ntmps10
  go_wp2_with fail
  refine (check_any ⟨_, _, _, H.out⟩).mono ?_
  rintro e w1 ⟨rfl, hk1⟩
  have he : S.err = 0 := by simp [Plt.err, HO.out]
  rw [he]
  have H1 := hid (H.out.kept hk1 (fun _ _ _ h => h))
  have HV1 := hid (HV.out.kept hk1 (fun _ _ h => h))
  have HK1 := hid hk1
  clear hk1 he c0
  have HN1 := hid (row_new w1 (.cells (pcell (0, zpg)).toArray 71))
  go_wp2_with (first
    | (refine wpList_store_row rfl 71 (.tmp 8) (.tmp 34) rfl (pcell (i, zpg)).toArray (pcell (0, zpg)).toArray (by rfl) (by rfl) (by exact HN1.out) (by simp [pcell_len, zpg_len]) (by rw [infoPd]; simp [pcell_len, zpg_len]) (all_oneCell_toArray (pcell_one _)) ?_; intro w2 hb2 hk2; have HB2 := hid hb2; have HK2 := hid hk2; clear hb2 hk2)
    | (refine wpList_copy_byt rfl (.tmp 36) (.tmp 37) 23 23 rfl 5 Try.underlying23 (by kernel_rfl) w1.heap.size 1 64 64 _ l (by rfl) rfl (by exact HV1.out.kept (((Kept.refl (fun _ => False) w1).alloc _).trans' HK2.out (fun g hg => .inr (by omega))) (fun _ _ h => h)) HL.out (pcell (i, zpg)).toArray 71 (by exact HB2.out) (by have := HL.out; simp [pcell_len, zpg_len]; omega) ?_; intro w3 cur3 hb3 hc3 hk3; have HB3 := hid hb3; have HC3 := hid hc3; have HK3 := hid hk3; clear hb3 hc3 hk3))
  obtain rfl : cur3 = (pcell (i, pad l)).toArray := by
    apply Array.toList_inj.1
    rw [HC3.out]
    have hd : ∀ (k m : Nat), (u8s (List.replicate k 0)).drop m = u8s (List.replicate (k - m) 0) := fun k m => by simp [u8s]
    simp only [pcell, pad, zpg, List.take_succ_cons, List.take_zero, Nat.add_comm 1, List.drop_succ_cons, hd]
    simp [u8s]
  have hk3 : Kept (fun _ => False) w1 w3 := (((Kept.refl (fun _ => False) w1).alloc _).trans' HK2.out (fun g hg => .inr (by omega))).trans' HK3.out (fun g hg => .inr (by omega))
  have H3 := hid (H1.out.kept hk3 (fun _ _ _ h => h))
  obtain ⟨c0, c1, c2, c3, c4, c5⟩ := cells6 H3.out.r
  have HB := hid (row_lt H3.out.r)
  have hnb : b ≠ w1.heap.size := by have := row_lt H1.out.r; omega
  have HK := hid hk3
  clear HB2 HK2 HC3 HK3 hk3 HN1 c0 c1 c3 c4 c5
  refine wp_region_till (fun w' => w'.cell? ⟨b, 2, none⟩ = some (.slice ao S.since.length cap) ∧ w'.rangeAt w1.heap.size 0 (pcell (i, pad l))) 7 (by kernel_rfl) ?s0 (fun hHeld => ?_)
  case s0 => exact ⟨c2, by simpa using range_of HB3.out⟩
  refine till_pure 0 (some 39) (v := ?v100) (by decide) rfl (by kernel_rfl) (by kernel_rfl) (by kernel_rfl) (by kernel_rfl) (by decide) (fun _ _ _ h => h) (Or.inl ⟨by rfl, ?y100⟩) (by assumption) ?r100
  case y100 => (intro w hSw; clear hSw; go_simp; (try with_reducible rfl))
  simp only [Act.put, List.setIfInBounds_toArray, List.set_cons_zero, List.set_cons_succ]
  refine till_pure 1 (some 40) (v := ?v101) (by decide) rfl (by kernel_rfl) (by kernel_rfl) (by kernel_rfl) (by kernel_rfl) (by decide) (fun _ _ _ h => h) (Or.inl ⟨by rfl, ?y101⟩) (by assumption) ?r101
  case y101 => (intro w hSw; clear hSw; go_simp; (try with_reducible rfl))
  simp only [Act.put, List.setIfInBounds_toArray, List.set_cons_zero, List.set_cons_succ]
  refine till_pure 2 (some 41) (v := ?v102) (by decide) rfl (by kernel_rfl) (by kernel_rfl) (by kernel_rfl) (by kernel_rfl) (by decide) (fun _ _ _ h => h) (Or.inl ⟨by rfl, ?y102⟩) (by assumption) ?r102
  case y102 => (intro w hSw; clear hSw; go_simp; (try with_reducible rfl))
  simp only [Act.put, List.setIfInBounds_toArray, List.set_cons_zero, List.set_cons_succ]
  refine till_pure 3 (some 42) (v := ?v103) (by decide) rfl (by kernel_rfl) (by kernel_rfl) (by kernel_rfl) (by kernel_rfl) (by decide) (fun _ _ _ h => h) (Or.inl ⟨by rfl, ?y103⟩) (by assumption) ?r103
  case y103 => (intro w hSw; clear hSw; go_simp; (try with_reducible rfl))
  simp only [Act.put, List.setIfInBounds_toArray, List.set_cons_zero, List.set_cons_succ]
  refine till_load 4 (some 43) [] (v := ?v104) (by decide) rfl (by kernel_rfl) (by kernel_rfl) (by kernel_rfl) (by kernel_rfl) (by kernel_rfl) (by decide) (by decide) (fun _ _ _ h => h) (Or.inl ⟨by rfl, ?y104⟩) (by assumption) ?r104
  case y104 => (intro w hSw; (try dsimp only at hSw); go_simp; (try with_reducible rfl))
  simp only [Act.put, List.setIfInBounds_toArray, List.set_cons_zero, List.set_cons_succ]
  refine till_load 5 (some 44) [6] (v := .agg (pcell (i, pad l)).toArray) (by decide) rfl (by kernel_rfl) (by kernel_rfl) (by kernel_rfl) (by kernel_rfl) (by kernel_rfl) (by decide) (by decide) (fun _ _ _ h => h) (yieldsIf_load_mid (by rfl) 71 (.tmp 8) rfl w1.heap.size 0 rfl (pcell (i, pad l)) _ (fun _ h => h.2) Try.underlying71 rfl (by rw [infoPd, pcell_len _ (pad_len HL.out)])) (by assumption) ?_
  simp only [Act.put, List.setIfInBounds_toArray, List.set_cons_zero, List.set_cons_succ]
  refine till_call 6 (by kernel_rfl) rfl (fun K hK => ?_)
  refine step_build_one (some 45) rfl rfl 66 71 65 (.tmp 44) rfl (.agg (pcell (0, zpg)).toArray) 72 Try.underlying66 infoPend rfl (by decide) (by decide) (pcell (i, pad l)).toArray rfl (by simp [pcell_len, pad_len HL.out]) ?_
  simp only [Act.put, List.setIfInBounds_toArray, List.set_cons_zero, List.set_cons_succ]
  have HS2 := hid (row_new w3.drew (.cells (pcell (i, pad l)).toArray 71))
  have HO3 := hid (show Own (w3.drew.alloc (.cells (pcell (i, pad l)).toArray 71)) 71 65 (.slice ao S.since.length cap) S.since.length (pcells S.since) from H3.out.o.alloc _)
  have hS2 : (w3.drew.alloc (.cells (pcell (i, pad l)).toArray 71)).cell? ⟨b, 2, none⟩ = some (.slice ao S.since.length cap) ∧ (w3.drew.alloc (.cells (pcell (i, pad l)).toArray 71)).rangeAt w1.heap.size 0 (pcell (i, pad l)) := ⟨(World.cell?_alloc_lt _ _ _ (by exact HB.out)).trans c2, World.rangeAt_alloc (by simpa using range_of HB3.out) _⟩
  try dsimp only []
  refine hK.out _ _ (by exact hS2) (fun hHeld => ?_)
  clear hK K
  try simp only [Act.put, List.setIfInBounds_toArray, List.set_cons_zero, List.set_cons_succ]
  clear hS2
  refine till_list [8, 9, 10] (by kernel_rfl) (by kernel_rfl) (by decide) (by decide) ?_
  simp only [pickOps, List.getElem?_toArray, List.getElem?_cons_zero, List.getElem?_cons_succ]
  clear hHeld c2 l1' i0' i1' hs hoff
  go_wp2_with (at_builtin; refine wpList_app rfl (.tmp 43) (.tmp 45) 66 rfl 71 (.agg (pcell (0, zpg)).toArray) 65 72 Try.underlying66 infoPend rfl (by decide) (.slice ao S.since.length cap) S.since.length (pcells S.since) rfl HO3.out _ rfl 1 (pcell (i, pad l)) (src_row (by simp [pcell_len, pad_len HL.out]) (fun j u hu => by rw [Nat.zero_add, row_cell HS2.out]; simpa using hu) (pcell_one _)) (by have := HN.out; simp only [maxLen]; omega) (by have := HN.out; omega) ?_)
  intro a' c' w4 ho hk hf _
  have HP := hid (H1.out.push (i, pad l) (pad_len HL.out) ((HK.out.drew).alloc _) ho hk (fun g hg => by have := hf g hg; simpa using this))
  clear ho hk hf
  obtain ⟨c0, c1, c2, c3, c4, c5⟩ := cells6 HP.out.2.2
  have f2 := row_free HP.out.2.2 2
  clear c0 c1 c3 c4 c5
  go_wp2_with fail
  refine (goes_any (S := S.add i l) (by exact HP.out.1) HSM.out).mono ?_
  rintro e w5 ⟨rfl, h5, k5⟩
  have H5 := hid h5; have K5 := hid k5
  clear h5 k5 c2 f2
  cases hd : (tick (S.add i l)).off
  · have hdn : (tick (S.add i l)).down = 0 := by simp [Plt.down, hd]
    have HD := hid hdn; clear hdn hd
    go_wp2
    go_ret
    refine ⟨ret_int HD.out.symm, ?_, ?_⟩
    · exact ⟨_, ⟨_, _, _, H5.out⟩, fun g hg => hg.imp id (fun h => Nat.le_trans HK1.out.size h)⟩
    · exact ((HK1.out.mono (fun _ _ h => h.elim)).trans HP.out.2.1).trans (K5.out.mono (fun g _ e => by subst e; exact H.out.m))
  · have hdn : (tick (S.add i l)).down = 11 := by simp [Plt.down, hd]
    have HD := hid hdn; clear hdn hd
    go_wp2
    go_ret
    refine ⟨ret_int HD.out.symm, ?_, ?_⟩
    · exact ⟨_, ⟨_, _, _, H5.out⟩, fun g hg => hg.imp id (fun h => Nat.le_trans HK1.out.size h)⟩
    · exact ((HK1.out.mono (fun _ _ h => h.elim)).trans HP.out.2.1).trans (K5.out.mono (fun g _ e => by subst e; exact H.out.m))
end Go.Proofs.Ytnfdkpjklenllaa
