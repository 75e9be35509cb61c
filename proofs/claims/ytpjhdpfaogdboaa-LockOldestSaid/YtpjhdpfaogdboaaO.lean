/- Hold, Waiting. -/
import Derived.Test.YtpjhdpfaogdboaaN
import Derived.Test.YtpjhdpfaogdboaaSto
namespace Go.Proofs.Ytpjhdpfaogdboaa
set_option linter.unusedSimpArgs false
set_option linter.unusedVariables false
open Go.RowKit
section
variable {own : Nat → Option Tx} {B : Nat} {w w' : World} {tb mb : Nat} {L : List Ow} {A : Tx → Ad}
set_option maxRecDepth 100000 in
set_option maxHeartbeats 1000000 in
theorem hold_no {t1 t2 t3 : Int} (hb : Tab own B w tb mb L A) (hl : findO L (t1, t2, t3) = none) :
    Calls Try.prog 15 #[.pointer (some ⟨tb, 0, none⟩), .agg #[.int .u8 t1, .int .u32 t2, .int .u32 t3]] w fun e w' => e = .returned (.int .i64 6) ∧ Kept (fun _ => False) w w' := by
  have hk1 := (Kept.refl (fun _ => False) w).alloc (.cells #[.int .u8 t1, .int .u32 t2, .int .u32 t3] 32)
  have hkb := row_new w (.cells #[.int .u8 t1, .int .u32 t2, .int .u32 t3] 32)
  obtain ⟨w1, hw1⟩ : ∃ w1, w.alloc (.cells #[.int .u8 t1, .int .u32 t2, .int .u32 t3] 32) = w1 := ⟨_, rfl⟩
  obtain ⟨kb, hkb'⟩ : ∃ kb, w.heap.size = kb := ⟨_, rfl⟩
  rw [hw1] at hk1 hkb
  rw [hkb'] at hkb
  have HB := hid (hb.same hk1); have HK := hid hkb; have K1 := hid hk1
  have c0 := HB.out.cell
  obtain ⟨d0, d1, d2⟩ := cells3 HK.out
  have HL := hid hl
  have HKB := hid (Nat.le_of_eq hkb')
  clear hb hk1 hkb hl
  have l0 := HB.out.look0 HL.out
  go_enter Try.func15, Try.ntmps15
  go_wp2_with fail
  try rw [hw1, hkb']
  clear hw1 hkb'
  go_quiet (fail)
  have K2 := hid (K1.out.trans (kept_drewN (F := fun _ => False) w1 nq))
  go_wp2
  go_ret
  exact ⟨rfl, K2.out⟩
theorem waits_b {O : Nat → Prop} {w : World} {ad : Ad} {o : Ow} (h : OwIn O w ad o) {b : Bool} (hb : decide (0 < o.ws.length) = b) :
    Calls Try.prog 26 #[.pointer (some ⟨ad.ob, 0, none⟩)] w fun e w' => e = .returned (.bool b) ∧ w = w' := by
  subst hb
  exact waits_any h
set_option maxRecDepth 100000 in
set_option maxHeartbeats 1000000 in
theorem hold_wait {t1 t2 t3 : Int} {o : Ow} (hb : Tab own B w tb mb L A) (hl : findO L (t1, t2, t3) = some o) (hws : 0 < o.ws.length) :
    Calls Try.prog 15 #[.pointer (some ⟨tb, 0, none⟩), .agg #[.int .u8 t1, .int .u32 t2, .int .u32 t3]] w fun e w' => e = .returned (.int .i64 9) ∧ Kept (fun _ => False) w w' := by
  have HW := hid (show decide (0 < o.ws.length) = true by simp [hws])
  clear hws
  have hk1 := (Kept.refl (fun _ => False) w).alloc (.cells #[.int .u8 t1, .int .u32 t2, .int .u32 t3] 32)
  have hkb := row_new w (.cells #[.int .u8 t1, .int .u32 t2, .int .u32 t3] 32)
  obtain ⟨w1, hw1⟩ : ∃ w1, w.alloc (.cells #[.int .u8 t1, .int .u32 t2, .int .u32 t3] 32) = w1 := ⟨_, rfl⟩
  obtain ⟨kb, hkb'⟩ : ∃ kb, w.heap.size = kb := ⟨_, rfl⟩
  rw [hw1] at hk1 hkb
  rw [hkb'] at hkb
  have HB := hid (hb.same hk1); have HK := hid hkb; have K1 := hid hk1
  have c0 := HB.out.cell
  obtain ⟨d0, d1, d2⟩ := cells3 HK.out
  have HL := hid hl
  have HKB := hid (Nat.le_of_eq hkb')
  clear hb hk1 hkb hl
  have l0 := HB.out.look1 HL.out
  go_enter Try.func15, Try.ntmps15
  go_wp2_with fail
  try rw [hw1, hkb']
  clear hw1 hkb'
  go_quiet (fail)
  have K2 := hid (K1.out.trans (kept_drewN (F := fun _ => False) w1 nq))
  have HB2 := hid (HB.out.same (kept_drewN w1 nq))
  have HK2 := hid (((kept_drewN (F := fun _ => False) w1 nq).block _ (row_lt HK.out) id).trans HK.out)
  obtain ⟨w2, hw2⟩ : ∃ w2, w1.drewN nq = w2 := ⟨_, rfl⟩
  rw [hw2] at K2 HB2 HK2
  clear l0
  have l0 := HB2.out.look1 HL.out
  have c0 := HB2.out.cell
  obtain ⟨d0, d1, d2⟩ := cells3 HK2.out
  obtain ⟨hom, hot⟩ := findO_mem HL.out
  have HO := hid (HB2.out.ows o hom)
  have HOT := hid hot; have HOM := hid hom
  rw [hot] at HO
  clear hom hot
  go_wp2_with fail
  try rw [hw2]
  clear hw2
  go_quiet ((go_at_call 26; exact Calls.quiet_of_same ((waits_b (HO.out.same (kept_drewN w2 _)) HW.out).mono (fun e w' h => ⟨h.1, h.2.symm⟩))))
  go_wp2
  go_ret
  exact ⟨rfl, K2.out.trans (kept_drewN (F := fun _ => False) w2 _)⟩
theorem set6 {w : World} {a : Ad} {o : Ow} (h : w.heap[a.ob]? = some (owRow a o)) : (w.setCell ⟨a.ob, 6, none⟩ (.bool true)).heap[a.ob]? = some (owRow a { o with fast := true }) := by
  rw [row_set h 6 (.bool true)]
  rfl
theorem Tab.lookw (h : Tab own B w tb mb L A) {t1 t2 t3 : Int} {o : Ow} (hl : findO L (t1, t2, t3) = some o) :
    (Instr.lookup 61 (.map (some mb)) (.agg #[.int .u8 t1, .int .u32 t2, .int .u32 t3]) false).run Try.prog w = .ok (.pointer (some ⟨(A (t1, t2, t3)).ob, 0, none⟩)) w := by
  obtain ⟨M, hm, he⟩ := h.look t1 t2 t3
  rw [hl] at he
  exact hm.run_look_some Try.underlying61 (k := (t1, t2, t3)) he false
set_option maxRecDepth 100000 in
set_option maxHeartbeats 1000000 in
theorem hold_yes {t1 t2 t3 : Int} {o : Ow} (hb : Tab own B w tb mb L A) (hl : findO L (t1, t2, t3) = some o) (hws : ¬ 0 < o.ws.length) :
    Calls Try.prog 15 #[.pointer (some ⟨tb, 0, none⟩), .agg #[.int .u8 t1, .int .u32 t2, .int .u32 t3]] w fun e w' => ∃ A', e = .returned (.int .i64 0) ∧ Tab own B w' tb mb (L.map (fastO (t1, t2, t3))) A' ∧ Kept (fun i => own i = some (t1, t2, t3)) w w' := by
  have HW := hid (show decide (0 < o.ws.length) = false by simp [hws])
  clear hws
  have hk1 := (Kept.refl (fun _ => False) w).alloc (.cells #[.int .u8 t1, .int .u32 t2, .int .u32 t3] 32)
  have hkb := row_new w (.cells #[.int .u8 t1, .int .u32 t2, .int .u32 t3] 32)
  obtain ⟨w1, hw1⟩ : ∃ w1, w.alloc (.cells #[.int .u8 t1, .int .u32 t2, .int .u32 t3] 32) = w1 := ⟨_, rfl⟩
  obtain ⟨kb, hkb'⟩ : ∃ kb, w.heap.size = kb := ⟨_, rfl⟩
  rw [hw1] at hk1 hkb
  rw [hkb'] at hkb
  have HB := hid (hb.same hk1); have HK := hid hkb; have K1 := hid hk1
  have c0 := HB.out.cell
  obtain ⟨d0, d1, d2⟩ := cells3 HK.out
  have HL := hid hl
  have HKB := hid (Nat.le_of_eq hkb')
  clear hb hk1 hkb hl
  have l0 := HB.out.look1 HL.out
  go_enter Try.func15, Try.ntmps15
  go_wp2_with fail
  try rw [hw1, hkb']
  clear hw1 hkb'
  go_quiet (fail)
  have K2 := hid (K1.out.trans (kept_drewN (F := fun _ => False) w1 nq))
  have HB2 := hid (HB.out.same (kept_drewN w1 nq))
  have HK2 := hid (((kept_drewN (F := fun _ => False) w1 nq).block _ (row_lt HK.out) id).trans HK.out)
  obtain ⟨w2, hw2⟩ : ∃ w2, w1.drewN nq = w2 := ⟨_, rfl⟩
  rw [hw2] at K2 HB2 HK2
  clear l0
  have l0 := HB2.out.look1 HL.out
  have c0 := HB2.out.cell
  obtain ⟨d0, d1, d2⟩ := cells3 HK2.out
  obtain ⟨hom, hot⟩ := findO_mem HL.out
  have HO := hid (HB2.out.ows o hom)
  have HOT := hid hot; have HOM := hid hom
  rw [hot] at HO
  clear hom hot
  go_wp2_with fail
  try rw [hw2]
  clear hw2
  go_quiet ((go_at_call 26; exact Calls.quiet_of_same ((waits_b (HO.out.same (kept_drewN w2 _)) HW.out).mono (fun e w' h => ⟨h.1, h.2.symm⟩))))
  have hk3 := kept_drewN (F := fun _ => False) w2 nq
  have K3 := hid (K2.out.trans hk3)
  have HB3 := hid (HB2.out.same hk3)
  have HO3 := hid (HO.out.same hk3)
  have HK3 := hid ((hk3.block _ (row_lt HK2.out) id).trans HK2.out)
  obtain ⟨w3, hw3⟩ : ∃ w3, w2.drewN nq = w3 := ⟨_, rfl⟩
  rw [hw3] at K3 HB3 HO3 HK3
  clear l0 c0 d0 d1 d2 hk3
  have l1 := (HB3.out.same (Kept.refl (fun _ => False) w3).drew).lookw HL.out
  have c0 := HB3.out.cell
  obtain ⟨d0, d1, d2⟩ := cells3 HK3.out
  obtain ⟨ad, had⟩ : ∃ ad, A (t1, t2, t3) = ad := ⟨_, rfl⟩
  rw [had] at HO3 l1
  have HAD := hid had
  clear had
  go_wp2_with fail
  try rw [hw3]
  clear hw3
  refine wp_region_still_tail 8 (by kernel_rfl) (by kernel_rfl) ?_
  simp only [List.take_succ_cons, List.take_zero, List.drop_succ_cons, List.drop_zero, World.drew_eq]
  iterate 8 still_step
  refine wpStill_nil ?_
  change wpList _ _ _ _ _ (World.drew _)
  have HBx := hid (HB3.out.same (Kept.refl (fun _ => False) w3).drew)
  have HOx := hid (HO3.out.same (Kept.refl (fun _ => False) w3).drew)
  refine wpList_store_cell rfl _ _ _ rfl (by kernel_rfl) ad.ob 6 (by rfl) _ (by rfl) rfl HOx.out.obj (by simp) ?_
  intro w4 hb4 hk4
  have hin : OwIn (fun i => own i = some (t1, t2, t3)) w4 ad { o with fast := true } :=
    ⟨hb4.out, by
      obtain ⟨E, hm, hl⟩ := HOx.out.map
      have hne : ad.lb ≠ ad.ob := fun e => by
        obtain ⟨es, c, hm, _⟩ := hm
        have h1 := HOx.out.obj
        rw [← e, hm] at h1
        cases h1
      exact ⟨E, hm.of_block (hk4.out.block _ hm.lt hne), hl⟩, HOx.out.ws.kept hk4.out (fun g _ e => .inr (.inr e)), HOx.out.own⟩
  have HTX := hid HOT.out
  obtain ⟨i, hi⟩ := List.getElem?_of_mem HOM.out
  have hset := set_eq_map HBx.out.nodup (o' := { o with fast := true }) hi
  have hmap : L.set i { o with fast := true } = L.map (fastO (t1, t2, t3)) := by
    rw [hset]
    refine List.map_congr_left fun x hx => ?_
    unfold fastO
    by_cases e : x.tx = (t1, t2, t3)
    · have : x = o := HBx.out.uniq hx HOM.out (e.trans HOT.out.symm)
      rw [if_pos (e.trans HOT.out.symm), if_pos e, this]
    · rw [if_neg (fun h => e (h.trans HOT.out)), if_neg e]
  have ht := HBx.out.put hi (o' := { o with fast := true }) rfl (a' := ad) (by rw [HOT.out, HAD.out]) (hin.mono (fun i _ h => h.trans (congrArg some HOT.out.symm))) ⟨(HBx.out.ok o HOM.out).r, (HBx.out.ok o HOM.out).f, (HBx.out.ok o HOM.out).g, (HBx.out.ok o HOM.out).n⟩ (hk4.out.mono (fun i _ e => by rw [e, HOT.out]; exact HOx.out.own.1))
  rw [hmap] at ht
  have HT := hid ht
  have K4 := hid ((K3.out.drew.mono (fun _ _ h => h.elim) : Kept (fun i => own i = some (t1, t2, t3)) w w3.drew).trans (hk4.out.mono (fun i _ e => by rw [e]; exact HOx.out.own.1)))
  clear hin hi hset hmap ht hb4 hk4 l1 c0 d0 d1 d2
  go_wp2
  go_ret
  exact ⟨_, rfl, HT.out, K4.out⟩
end
end Go.Proofs.Ytpjhdpfaogdboaa
