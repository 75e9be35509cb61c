/- An owner is dropped, or laid; Release. -/
import Derived.Test.YtpjhdpfaogdboaaM
import Derived.Test.YtpjhdpfaogdboaaNq
namespace Go.Proofs.Ytpjhdpfaogdboaa
set_option linter.unusedSimpArgs false
set_option linter.unusedVariables false
open Go.RowKit
section
variable {w : World} {ops : Array Oper} {rest : List Oper} {o : Oper} {a : Act} {Q : Exit → Act → World → Prop}
/-- m[k] = v, keyed by TxIDs -/
theorem wpList_layT (hgd : o.guard = none) (t et : TypeId) (xm xk xv : Operand) (ho : o.op = .mapUpdate t xm xk xv) (b : Nat) (k : Tx) (v : Value) (hm : a.eval xm = .map (some b)) (hk : a.eval xk = txv k) (hv : a.eval xv = v)
    (ht : Try.prog.underlying t = some (.map 32 et)) (L : List (Tx × Value)) (hL : MapT w b L)
    (h : ∀ w', MapT w' b (layT L k v) → Kept (fun g => g = b) w w' → wpList Try.prog ops Q rest (a.put o.dst undef) w') : wpList Try.prog ops Q (o :: rest) a w := by
  obtain ⟨es, clock, hr, hM⟩ := hL.run_lay ht k v
  refine wpList_skipK hgd ?_ (h _ hM ((Kept.refl _ _).setBlock _ (.inl rfl)))
  simp [execOp, ho, hm, hk, hv, hr, Result.andThen]
/-- delete(m, k), keyed by TxIDs -/
theorem wpList_wipeT (hgd : o.guard = none) (t et : TypeId) (ts : Array TypeId) (xm xk : Operand) (ho : o.op = .call { callee := .builtin .delete, args := #[xm, xk], argTypes := ts }) (hts : ts[0]? = some t) (b : Nat) (k : Tx) (hm : a.eval xm = .map (some b)) (hk : a.eval xk = txv k)
    (ht : Try.prog.underlying t = some (.map 32 et)) (L : List (Tx × Value)) (hL : MapT w b L)
    (h : ∀ w', MapT w' b (wipeT L k) → Kept (fun g => g = b) w w' → wpList Try.prog ops Q rest (a.put o.dst (.tuple #[])) w') : wpList Try.prog ops Q (o :: rest) a w := by
  obtain ⟨es, clock, hr, hM⟩ := hL.run_wipe ht k ts o.type hts
  refine wpList_run hgd ?_ (h _ hM ((Kept.refl _ _).setBlock _ (.inl rfl)))
  simp [execOp, ho, resolve, invoke, builtin, hm, hk, hr, Result.andThen]
end
section
variable {own : Nat → Option Tx} {B : Nat} {w w' : World} {tb mb : Nat} {L : List Ow} {A : Tx → Ad}
theorem Tab.wiped (h : Tab own B w tb mb L A) {M : List Ow} (hp : M.Perm L) {t : Tx} (hm : MapT w' mb (wipeT (M.map fun o => (o.tx, ptr (A o.tx).ob)) t)) (k : Kept (fun g => g = mb) w w') : Tab own B w' tb mb (dropO L t) A where
  obj := (k.block _ (row_lt h.obj) h.ne).trans h.obj
  map := by
    refine ⟨dropO M t, ?_, hp.filter _⟩
    have e : wipeT (M.map fun o => (o.tx, ptr (A o.tx).ob)) t = (dropO M t).map fun o => (o.tx, ptr (A o.tx).ob) := by
      unfold wipeT dropO
      rw [List.filter_map]
      rfl
    rw [← e]
    exact hm
  ows := fun o ho => (h.ows o (mem_dropO.1 ho).1).kept k (fun i _ h1 h2 => by rw [h2, h.top.2] at h1; cases h1)
  top := h.top
  new := fun i hi => h.new i (Nat.le_trans k.size hi)
  low := h.low
  srt := h.srt.filter _
  ok := fun o ho => h.ok o (mem_dropO.1 ho).1
/-- in its place, or behind all -/
def layM : List Ow → Ow → List Ow
  | [], o => [o]
  | x :: r, o => if o.tx = x.tx then o :: r else x :: layM r o
theorem layM_perm (o : Ow) : ∀ M : List Ow, (M.map (·.tx)).Nodup → (layM M o).Perm (o :: dropO M o.tx)
  | [], _ => List.Perm.refl _
  | x :: r, hn => by
    simp only [List.map_cons, List.nodup_cons] at hn
    unfold layM dropO
    by_cases e : o.tx = x.tx
    · rw [if_pos e, List.filter_cons_of_neg (by simp [e])]
      refine List.Perm.cons _ (List.Perm.of_eq ?_)
      rw [eq_comm, List.filter_eq_self]
      intro y hy
      simp only [decide_eq_true_eq]
      intro e2
      exact hn.1 (by rw [← e, ← e2]; exact List.mem_map.2 ⟨y, hy, rfl⟩)
    · rw [if_neg e, List.filter_cons_of_pos (by simp [Ne.symm e])]
      exact ((layM_perm o r hn.2).cons x).trans (List.Perm.swap _ _ _)
theorem layT_map (o : Ow) (a' : Ad) : ∀ M : List Ow, (M.map (·.tx)).Nodup → layT (M.map fun x => (x.tx, ptr (A x.tx).ob)) o.tx (ptr a'.ob) = (layM M o).map fun x => (x.tx, ptr (if x.tx = o.tx then a' else A x.tx).ob)
  | [], _ => by simp [layT, layM]
  | x :: r, hn => by
    simp only [List.map_cons, List.nodup_cons] at hn
    simp only [List.map_cons, layT, layM]
    by_cases e : o.tx = x.tx
    · rw [if_pos e, if_pos e, List.map_cons, if_pos rfl, e]
      congr 1
      refine List.map_congr_left fun y hy => ?_
      have : ¬ y.tx = x.tx := fun e2 => hn.1 (by rw [← e2]; exact List.mem_map.2 ⟨y, hy, rfl⟩)
      rw [if_neg this]
    · rw [if_neg e, if_neg e, List.map_cons, if_neg (Ne.symm e), layT_map o a' r hn.2]
theorem Tab.laid (h : Tab own B w tb mb L A) {M : List Ow} (hp : M.Perm L) {o : Ow} {a' : Ad} (hm : MapT w' mb (layT (M.map fun x => (x.tx, ptr (A x.tx).ob)) o.tx (ptr a'.ob))) (hin : OwIn (fun i => own i = some o.tx) w' a' o) (hok : OkO o)
    (k : Kept (fun i => own i = some o.tx ∨ i = mb) w w') : Tab own B w' tb mb (layO L o) (fun t => if t = o.tx then a' else A t) where
  obj := (k.block _ (row_lt h.obj) (fun h1 => h1.elim (fun h2 => by rw [h.top.1] at h2; cases h2) h.ne)).trans h.obj
  map := by
    have hn : (M.map (·.tx)).Nodup := (hp.map (·.tx)).nodup_iff.2 h.nodup
    refine ⟨layM M o, ?_, (layM_perm o M hn).trans (((hp.filter _).cons o).trans (insO_perm _ _).symm)⟩
    have := layT_map (A := A) o a' M hn
    rw [← this]
    exact hm
  ows := fun x hx => by
    rcases mem_insO.1 hx with rfl | hx
    · rw [if_pos rfl]; exact hin
    · obtain ⟨h1, h2⟩ := mem_dropO.1 hx
      rw [if_neg h2]
      exact (h.ows x h1).kept k (fun i _ h3 h4 => h4.elim (fun h5 => h2 (Option.some.inj (h3.symm.trans h5))) (fun h5 => by rw [h5, h.top.2] at h3; cases h3))
  top := h.top
  new := fun i hi => h.new i (Nat.le_trans k.size hi)
  low := h.low
  srt := insO_srt (h.srt.filter _) (fun x hx => (mem_dropO.1 hx).2)
  ok := fun x hx => by
    rcases mem_insO.1 hx with rfl | hx
    · exact hok
    · exact h.ok x (mem_dropO.1 hx).1
/-- what it wrote -/
theorem Tab.news (_h : Tab own B w tb mb L A) : True := trivial
set_option maxRecDepth 100000 in
set_option maxHeartbeats 1000000 in
theorem rel_no {t1 t2 t3 : Int} (hb : Tab own B w tb mb L A) (hl : findO L (t1, t2, t3) = none) :
    Calls Try.prog 16 #[.pointer (some ⟨tb, 0, none⟩), .agg #[.int .u8 t1, .int .u32 t2, .int .u32 t3]] w fun e w' => e = .returned (.tuple #[.slice none 0 0, .int .i64 0]) ∧ Kept (fun _ => False) w w' := by
  have hk1 := (Kept.refl (fun _ => False) w).alloc (.cells #[.int .u8 t1, .int .u32 t2, .int .u32 t3] 32)
  have hkb := row_new w (.cells #[.int .u8 t1, .int .u32 t2, .int .u32 t3] 32)
  obtain ⟨w1, hw1⟩ : ∃ w1, w.alloc (.cells #[.int .u8 t1, .int .u32 t2, .int .u32 t3] 32) = w1 := ⟨_, rfl⟩
  obtain ⟨kb, hkb'⟩ : ∃ kb, w.heap.size = kb := ⟨_, rfl⟩
  rw [hw1] at hk1 hkb
  rw [hkb'] at hkb
  have HB := hid (hb.same hk1); have HK := hid hkb; have K1 := hid hk1
  have c0 := HB.out.cell
  obtain ⟨d0, d1, d2⟩ := cells3 HK.out
  have HL := hid hl
  have HKB := hid (Nat.le_of_eq hkb')
  clear hb hk1 hkb hl
  have l0 := HB.out.look0 HL.out
  go_enter Try.func16, Try.ntmps16
  go_wp2_with fail
  try rw [hw1, hkb']
  clear hw1 hkb'
  go_quiet (fail)
  have K2 := hid (K1.out.trans (kept_drewN (F := fun _ => False) w1 nq))
  go_wp2
  go_ret2
  exact ⟨rfl, K2.out⟩
set_option maxRecDepth 100000 in
set_option maxHeartbeats 1000000 in
theorem rel_yes {t1 t2 t3 : Int} {o : Ow} (hb : Tab own B w tb mb L A) (hl : findO L (t1, t2, t3) = some o) (hL : L.length ≤ 1000000) :
    Calls Try.prog 16 #[.pointer (some ⟨tb, 0, none⟩), .agg #[.int .u8 t1, .int .u32 t2, .int .u32 t3]] w fun e w' => ∃ A' ga gc, e = .returned (.tuple #[.slice ga (settled (dropO L (t1, t2, t3))).2.length gc, .int .i64 0]) ∧ Tab own B w' tb mb (settled (dropO L (t1, t2, t3))).1 A' ∧ Own w' 32 3 (.slice ga (settled (dropO L (t1, t2, t3))).2.length gc) (settled (dropO L (t1, t2, t3))).2.length ((settled (dropO L (t1, t2, t3))).2.flatMap encT) ∧ (∀ b, (Value.slice ga (settled (dropO L (t1, t2, t3))).2.length gc).ownBlock = some b → w.heap.size ≤ b) ∧ Kept (fun i => i = mb ∨ ∃ t, own i = some t) w w' := by
  have hk1 := (Kept.refl (fun _ => False) w).alloc (.cells #[.int .u8 t1, .int .u32 t2, .int .u32 t3] 32)
  have hkb := row_new w (.cells #[.int .u8 t1, .int .u32 t2, .int .u32 t3] 32)
  obtain ⟨w1, hw1⟩ : ∃ w1, w.alloc (.cells #[.int .u8 t1, .int .u32 t2, .int .u32 t3] 32) = w1 := ⟨_, rfl⟩
  obtain ⟨kb, hkb'⟩ : ∃ kb, w.heap.size = kb := ⟨_, rfl⟩
  rw [hw1] at hk1 hkb
  rw [hkb'] at hkb
  have HB := hid (hb.same hk1); have HK := hid hkb; have K1 := hid hk1
  have c0 := HB.out.cell
  obtain ⟨d0, d1, d2⟩ := cells3 HK.out
  have HL := hid hl
  have HKB := hid (Nat.le_of_eq hkb')
  clear hb hk1 hkb hl
  have HLN := hid hL
  clear hL
  have l0 := HB.out.look1 HL.out
  go_enter Try.func16, Try.ntmps16
  go_wp2_with fail
  try rw [hw1, hkb']
  clear hw1 hkb'
  go_quiet (fail)
  have K2 := hid (K1.out.trans (kept_drewN (F := fun _ => False) w1 nq))
  have HB2 := hid (HB.out.same (kept_drewN w1 nq))
  have HK2 := hid (((kept_drewN (F := fun _ => False) w1 nq).block _ (row_lt HK.out) id).trans HK.out)
  obtain ⟨w2, hw2⟩ : ∃ w2, w1.drewN nq = w2 := ⟨_, rfl⟩
  rw [hw2] at K2 HB2 HK2
  clear l0
  have c0 := HB2.out.cell
  obtain ⟨d0, d1, d2⟩ := cells3 HK2.out
  go_wp2_with fail
  try rw [hw2]
  clear hw2
  refine wp_region_still_tail 5 (by kernel_rfl) (by kernel_rfl) ?_
  simp only [List.take_succ_cons, List.take_zero, List.drop_succ_cons, List.drop_zero, World.drew_eq]
  iterate 5 still_step
  refine wpStill_nil ?_
  change wpList _ _ _ _ _ (World.drew _)
  obtain ⟨M, hm, hp⟩ := (HB2.out.same (Kept.refl (fun _ => False) w2).drew).map
  have HP := hid hp
  clear hp
  refine wpList_wipeT rfl 61 65 _ (.tmp 18) (.tmp 19) rfl rfl mb (t1, t2, t3) (by rfl) (by rfl) Try.underlying61 _ hm ?_
  intro w3 hm3 hk3
  have HT3 := hid ((HB2.out.same (Kept.refl (fun _ => False) w2).drew).wiped HP.out hm3 hk3)
  have K3 := hid ((K2.out.drew.mono (fun _ _ h => h.elim) : Kept (fun i => i = mb ∨ ∃ t, own i = some t) w w2.drew).trans (hk3.mono (fun _ _ h => .inl h)))
  have HLD := hid (show (dropO L (t1, t2, t3)).length ≤ 1000000 from Nat.le_trans (List.length_filter_le _ _) HLN.out)
  clear hm hm3 hk3 c0 d0 d1 d2
  go_wp2_with fail
  refine (settle_any HT3.out HLD.out).mono ?_
  rintro e w4 ⟨A', ga, gc, rfl, ht4, _, ho4, hn4, hk4⟩
  have HT4 := hid ht4; have HO4 := hid ho4; have HN4 := hid (fun b h => Nat.le_trans K3.out.size (hn4 b h)); have K4 := hid (K3.out.trans (hk4.mono (fun _ _ h => .inr h)))
  clear ht4 ho4 hn4 hk4
  go_wp2
  go_ret2
  exact ⟨A', ga, gc, rfl, HT4.out, HO4.out, HN4.out, K4.out⟩
end
end Go.Proofs.Ytpjhdpfaogdboaa
