/- Texts of this claim, merged: O, P, SrtB, SrtC, SrtD, SrtE, SrtF. -/
import Derived.Test.YtpjhdpfaogdboaaPm1
import Derived.Test.YtpjhdpfaogdboaaPm2
import Derived.Test.YtpjhdpfaogdboaaPm3
import Derived.Test.YtpjhdpfaogdboaaPm4
import Derived.Test.YtpjhdpfaogdboaaPm5
import Derived.Test.YtpjhdpfaogdboaaPm6
import Derived.Test.YtpjhdpfaogdboaaPm7
import Derived.Test.YtpjhdpfaogdboaaPm8
import Derived.Test.YtpjhdpfaogdboaaPm9
import Derived.Test.YtpjhdpfaogdboaaPm10
import Derived.Test.YtpjhdpfaogdboaaPm11
import Derived.Test.YtpjhdpfaogdboaaPm12
import Derived.Test.YtpjhdpfaogdboaaPm13
import Derived.Test.YtpjhdpfaogdboaaPm14
import Derived.Test.YtpjhdpfaogdboaaPm15
/- Hold, Waiting. -/
namespace Go.Proofs.Ytpjhdpfaogdboaa
set_option linter.unusedSimpArgs false
set_option linter.unusedVariables false
open Go.RowKit
section
variable {own : Nat → Option Tx} {B : Nat} {w w' : World} {tb mb : Nat} {L : List Ow} {A : Tx → Ad}
set_option maxRecDepth 100000 in
set_option maxHeartbeats 1000000 in
theorem hold_no {t1 t2 t3 : Int} (hb : Tab own B w tb mb L A) (hl : findO L (t1, t2, t3) = none) :
    Calls Try.prog 15 #[.pointer (some ⟨tb, 0, none⟩), .agg #[.int .u8 t1, .int .u32 t2, .int .u32 t3]] w fun e w' => e = .returned (.int .i64 6) ∧ Kept (fun _ => False) w w' := by
  have hk1 := (Kept.refl (fun _ => False) w).alloc (.cells #[.int .u8 t1, .int .u32 t2, .int .u32 t3] 32)
  have hkb := row_new w (.cells #[.int .u8 t1, .int .u32 t2, .int .u32 t3] 32)
  obtain ⟨w1, hw1⟩ : ∃ w1, w.alloc (.cells #[.int .u8 t1, .int .u32 t2, .int .u32 t3] 32) = w1 := ⟨_, rfl⟩
  obtain ⟨kb, hkb'⟩ : ∃ kb, w.heap.size = kb := ⟨_, rfl⟩
  rw [hw1] at hk1 hkb
  rw [hkb'] at hkb
  have HB := hid (hb.same hk1); have HK := hid hkb; have K1 := hid hk1
  have c0 := HB.out.cell
  obtain ⟨d0, d1, d2⟩ := cells3 HK.out
  have HL := hid hl
  have HKB := hid (Nat.le_of_eq hkb')
  clear hb hk1 hkb hl
  have l0 := HB.out.look0 HL.out
  go_enter Try.func15, Try.ntmps15
  go_wp2_with fail
  try rw [hw1, hkb']
  clear hw1 hkb'
  go_quiet (fail)
  have K2 := hid (K1.out.trans (kept_drewN (F := fun _ => False) w1 nq))
  go_wp2
  go_ret
  exact ⟨rfl, K2.out⟩
theorem waits_b {O : Nat → Prop} {w : World} {ad : Ad} {o : Ow} (h : OwIn O w ad o) {b : Bool} (hb : decide (0 < o.ws.length) = b) :
    Calls Try.prog 26 #[.pointer (some ⟨ad.ob, 0, none⟩)] w fun e w' => e = .returned (.bool b) ∧ w = w' := by
  subst hb
  exact waits_any h
set_option maxRecDepth 100000 in
set_option maxHeartbeats 1000000 in
theorem hold_wait {t1 t2 t3 : Int} {o : Ow} (hb : Tab own B w tb mb L A) (hl : findO L (t1, t2, t3) = some o) (hws : 0 < o.ws.length) :
    Calls Try.prog 15 #[.pointer (some ⟨tb, 0, none⟩), .agg #[.int .u8 t1, .int .u32 t2, .int .u32 t3]] w fun e w' => e = .returned (.int .i64 9) ∧ Kept (fun _ => False) w w' := by
  have HW := hid (show decide (0 < o.ws.length) = true by simp [hws])
  clear hws
  have hk1 := (Kept.refl (fun _ => False) w).alloc (.cells #[.int .u8 t1, .int .u32 t2, .int .u32 t3] 32)
  have hkb := row_new w (.cells #[.int .u8 t1, .int .u32 t2, .int .u32 t3] 32)
  obtain ⟨w1, hw1⟩ : ∃ w1, w.alloc (.cells #[.int .u8 t1, .int .u32 t2, .int .u32 t3] 32) = w1 := ⟨_, rfl⟩
  obtain ⟨kb, hkb'⟩ : ∃ kb, w.heap.size = kb := ⟨_, rfl⟩
  rw [hw1] at hk1 hkb
  rw [hkb'] at hkb
  have HB := hid (hb.same hk1); have HK := hid hkb; have K1 := hid hk1
  have c0 := HB.out.cell
  obtain ⟨d0, d1, d2⟩ := cells3 HK.out
  have HL := hid hl
  have HKB := hid (Nat.le_of_eq hkb')
  clear hb hk1 hkb hl
  have l0 := HB.out.look1 HL.out
  go_enter Try.func15, Try.ntmps15
  go_wp2_with fail
  try rw [hw1, hkb']
  clear hw1 hkb'
  go_quiet (fail)
  have K2 := hid (K1.out.trans (kept_drewN (F := fun _ => False) w1 nq))
  have HB2 := hid (HB.out.same (kept_drewN w1 nq))
  have HK2 := hid (((kept_drewN (F := fun _ => False) w1 nq).block _ (row_lt HK.out) id).trans HK.out)
  obtain ⟨w2, hw2⟩ : ∃ w2, w1.drewN nq = w2 := ⟨_, rfl⟩
  rw [hw2] at K2 HB2 HK2
  clear l0
  have l0 := HB2.out.look1 HL.out
  have c0 := HB2.out.cell
  obtain ⟨d0, d1, d2⟩ := cells3 HK2.out
  obtain ⟨hom, hot⟩ := findO_mem HL.out
  have HO := hid (HB2.out.ows o hom)
  have HOT := hid hot; have HOM := hid hom
  rw [hot] at HO
  clear hom hot
  go_wp2_with fail
  try rw [hw2]
  clear hw2
  go_quiet ((go_at_call 26; exact Calls.quiet_of_same ((waits_b (HO.out.same (kept_drewN w2 _)) HW.out).mono (fun e w' h => ⟨h.1, h.2.symm⟩))))
  go_wp2
  go_ret
  exact ⟨rfl, K2.out.trans (kept_drewN (F := fun _ => False) w2 _)⟩
theorem set6 {w : World} {a : Ad} {o : Ow} (h : w.heap[a.ob]? = some (owRow a o)) : (w.setCell ⟨a.ob, 6, none⟩ (.bool true)).heap[a.ob]? = some (owRow a { o with fast := true }) := by
  rw [row_set h 6 (.bool true)]
  rfl
theorem Tab.lookw (h : Tab own B w tb mb L A) {t1 t2 t3 : Int} {o : Ow} (hl : findO L (t1, t2, t3) = some o) :
    (Instr.lookup 61 (.map (some mb)) (.agg #[.int .u8 t1, .int .u32 t2, .int .u32 t3]) false).run Try.prog w = .ok (.pointer (some ⟨(A (t1, t2, t3)).ob, 0, none⟩)) w := by
  obtain ⟨M, hm, he⟩ := h.look t1 t2 t3
  rw [hl] at he
  exact hm.run_look_some Try.underlying61 (k := (t1, t2, t3)) he false
set_option maxRecDepth 100000 in
set_option maxHeartbeats 1000000 in
theorem hold_yes {t1 t2 t3 : Int} {o : Ow} (hb : Tab own B w tb mb L A) (hl : findO L (t1, t2, t3) = some o) (hws : ¬ 0 < o.ws.length) :
    Calls Try.prog 15 #[.pointer (some ⟨tb, 0, none⟩), .agg #[.int .u8 t1, .int .u32 t2, .int .u32 t3]] w fun e w' => ∃ A', e = .returned (.int .i64 0) ∧ Tab own B w' tb mb (L.map (fastO (t1, t2, t3))) A' ∧ Kept (fun i => own i = some (t1, t2, t3)) w w' := by
  have HW := hid (show decide (0 < o.ws.length) = false by simp [hws])
  clear hws
  have hk1 := (Kept.refl (fun _ => False) w).alloc (.cells #[.int .u8 t1, .int .u32 t2, .int .u32 t3] 32)
  have hkb := row_new w (.cells #[.int .u8 t1, .int .u32 t2, .int .u32 t3] 32)
  obtain ⟨w1, hw1⟩ : ∃ w1, w.alloc (.cells #[.int .u8 t1, .int .u32 t2, .int .u32 t3] 32) = w1 := ⟨_, rfl⟩
  obtain ⟨kb, hkb'⟩ : ∃ kb, w.heap.size = kb := ⟨_, rfl⟩
  rw [hw1] at hk1 hkb
  rw [hkb'] at hkb
  have HB := hid (hb.same hk1); have HK := hid hkb; have K1 := hid hk1
  have c0 := HB.out.cell
  obtain ⟨d0, d1, d2⟩ := cells3 HK.out
  have HL := hid hl
  have HKB := hid (Nat.le_of_eq hkb')
  clear hb hk1 hkb hl
  have l0 := HB.out.look1 HL.out
  go_enter Try.func15, Try.ntmps15
  go_wp2_with fail
  try rw [hw1, hkb']
  clear hw1 hkb'
  go_quiet (fail)
  have K2 := hid (K1.out.trans (kept_drewN (F := fun _ => False) w1 nq))
  have HB2 := hid (HB.out.same (kept_drewN w1 nq))
  have HK2 := hid (((kept_drewN (F := fun _ => False) w1 nq).block _ (row_lt HK.out) id).trans HK.out)
  obtain ⟨w2, hw2⟩ : ∃ w2, w1.drewN nq = w2 := ⟨_, rfl⟩
  rw [hw2] at K2 HB2 HK2
  clear l0
  have l0 := HB2.out.look1 HL.out
  have c0 := HB2.out.cell
  obtain ⟨d0, d1, d2⟩ := cells3 HK2.out
  obtain ⟨hom, hot⟩ := findO_mem HL.out
  have HO := hid (HB2.out.ows o hom)
  have HOT := hid hot; have HOM := hid hom
  rw [hot] at HO
  clear hom hot
  go_wp2_with fail
  try rw [hw2]
  clear hw2
  go_quiet ((go_at_call 26; exact Calls.quiet_of_same ((waits_b (HO.out.same (kept_drewN w2 _)) HW.out).mono (fun e w' h => ⟨h.1, h.2.symm⟩))))
  have hk3 := kept_drewN (F := fun _ => False) w2 nq
  have K3 := hid (K2.out.trans hk3)
  have HB3 := hid (HB2.out.same hk3)
  have HO3 := hid (HO.out.same hk3)
  have HK3 := hid ((hk3.block _ (row_lt HK2.out) id).trans HK2.out)
  obtain ⟨w3, hw3⟩ : ∃ w3, w2.drewN nq = w3 := ⟨_, rfl⟩
  rw [hw3] at K3 HB3 HO3 HK3
  clear l0 c0 d0 d1 d2 hk3
  have l1 := (HB3.out.same (Kept.refl (fun _ => False) w3).drew).lookw HL.out
  have c0 := HB3.out.cell
  obtain ⟨d0, d1, d2⟩ := cells3 HK3.out
  obtain ⟨ad, had⟩ : ∃ ad, A (t1, t2, t3) = ad := ⟨_, rfl⟩
  rw [had] at HO3 l1
  have HAD := hid had
  clear had
  go_wp2_with fail
  try rw [hw3]
  clear hw3
  refine wp_region_still_tail 8 (by kernel_rfl) (by kernel_rfl) ?_
  simp only [List.take_succ_cons, List.take_zero, List.drop_succ_cons, List.drop_zero, World.drew_eq]
  iterate 8 still_step
  refine wpStill_nil ?_
  change wpList _ _ _ _ _ (World.drew _)
  have HBx := hid (HB3.out.same (Kept.refl (fun _ => False) w3).drew)
  have HOx := hid (HO3.out.same (Kept.refl (fun _ => False) w3).drew)
  refine wpList_store_cell rfl _ _ _ rfl (by kernel_rfl) ad.ob 6 (by rfl) _ (by rfl) rfl HOx.out.obj (by simp) ?_
  intro w4 hb4 hk4
  have hin : OwIn (fun i => own i = some (t1, t2, t3)) w4 ad { o with fast := true } :=
    ⟨hb4.out, by
      obtain ⟨E, hm, hl⟩ := HOx.out.map
      have hne : ad.lb ≠ ad.ob := fun e => by
        obtain ⟨es, c, hm, _⟩ := hm
        have h1 := HOx.out.obj
        rw [← e, hm] at h1
        cases h1
      exact ⟨E, hm.of_block (hk4.out.block _ hm.lt hne), hl⟩, HOx.out.ws.kept hk4.out (fun g _ e => .inr (.inr e)), HOx.out.own⟩
  have HTX := hid HOT.out
  obtain ⟨i, hi⟩ := List.getElem?_of_mem HOM.out
  have hset := set_eq_map HBx.out.nodup (o' := { o with fast := true }) hi
  have hmap : L.set i { o with fast := true } = L.map (fastO (t1, t2, t3)) := by
    rw [hset]
    refine List.map_congr_left fun x hx => ?_
    unfold fastO
    by_cases e : x.tx = (t1, t2, t3)
    · have : x = o := HBx.out.uniq hx HOM.out (e.trans HOT.out.symm)
      rw [if_pos (e.trans HOT.out.symm), if_pos e, this]
    · rw [if_neg (fun h => e (h.trans HOT.out)), if_neg e]
  have ht := HBx.out.put hi (o' := { o with fast := true }) rfl (a' := ad) (by rw [HOT.out, HAD.out]) (hin.mono (fun i _ h => h.trans (congrArg some HOT.out.symm))) ⟨(HBx.out.ok o HOM.out).r, (HBx.out.ok o HOM.out).f, (HBx.out.ok o HOM.out).g, (HBx.out.ok o HOM.out).n⟩ (hk4.out.mono (fun i _ e => by rw [e, HOT.out]; exact HOx.out.own.1))
  rw [hmap] at ht
  have HT := hid ht
  have K4 := hid ((K3.out.drew.mono (fun _ _ h => h.elim) : Kept (fun i => own i = some (t1, t2, t3)) w w3.drew).trans (hk4.out.mono (fun i _ e => by rw [e]; exact HOx.out.own.1)))
  clear hin hi hset hmap ht hb4 hk4 l1 c0 d0 d1 d2
  go_wp2
  go_ret
  exact ⟨_, rfl, HT.out, K4.out⟩
end
end Go.Proofs.Ytpjhdpfaogdboaa
/- Waiting. -/
namespace Go.Proofs.Ytpjhdpfaogdboaa
set_option linter.unusedSimpArgs false
set_option linter.unusedVariables false
open Go.RowKit
theorem waitP_take {L : List Ow} {k : Nat} {o : Ow} (h : L[k]? = some o) : waitP (L.take (k + 1)) = waitP (L.take k) ++ (if 0 < o.ws.length then [o.tx] else []) := by
  unfold waitP
  rw [List.take_add_one, h, List.filter_append, List.map_append]
  by_cases h0 : 0 < o.ws.length
  · simp [h0]
  · simp [h0]
theorem waitP_len (L : List Ow) : (waitP L).length ≤ L.length := by
  unfold waitP
  rw [List.length_map]
  exact List.length_filter_le _ _
structure Wai (w w1 : World) (A : Tx → Ad) (L : List Ow) (S : List Tx) (a : Option Addr) (N c : Nat) (ga : Option Addr) (gc : Nat) (wr : World) : Prop where
  g : Own wr 32 3 (.slice ga S.length gc) S.length (S.flatMap encT)
  n : ∀ b, (Value.slice ga S.length gc).ownBlock = some b → w1.heap.size ≤ b
  l : Lies (fun g => g < w.heap.size ∨ w1.heap.size ≤ g) wr 1 (.slice a N c) N (ptrs (obs A L))
  k : Kept (fun _ => False) w1 wr
section
variable {own : Nat → Option Tx} {B : Nat} {w w' : World} {tb mb : Nat} {L : List Ow} {A : Tx → Ad}
set_option maxRecDepth 100000 in
set_option maxHeartbeats 2000000 in
theorem waiting_any (hb : Tab own B w tb mb L A) (hL : L.length ≤ 1000000) :
    Calls Try.prog 17 #[.pointer (some ⟨tb, 0, none⟩)] w fun e w' => ∃ ga gc, e = .returned (.slice ga (waitP L).length gc) ∧ Own w' 32 3 (.slice ga (waitP L).length gc) (waitP L).length ((waitP L).flatMap encT) ∧ (∀ b, (Value.slice ga (waitP L).length gc).ownBlock = some b → w.heap.size ≤ b) ∧ Kept (fun _ => False) w w' := by
  have HB := hid hb; have HL := hid hL
  clear hb hL
  go_enter Try.func17, Try.ntmps17
  go_wp2_with fail
  refine (all_any HB.out HL.out).mono ?_
  rintro e w1 ⟨a, c, rfl, hl, hk1⟩
  obtain ⟨N, hN⟩ : ∃ N, L.length = N := ⟨_, rfl⟩
  rw [hN] at hl ⊢
  have HN := hid hN
  have hN6 : N ≤ 1000000 := by have := HL.out; omega
  have K1 := hid hk1
  have HS0 := hid (show Wai w w1 A L (waitP (L.take 0)) a N c none 0 w1 from ⟨Own.nil _ _ _, fun b h => by simp [Value.ownBlock] at h, hl.mono (fun g hg h => h.elim id (fun h => by omega)), Kept.refl _ _⟩)
  clear hl hk1 hN
  go_wp2_with fail
  go_loopw [3, 11] (fun g i wr => ∃ (k : Nat) (S : List Tx) (ga : Option Addr) (gc : Nat), g = .slice ga S.length gc ∧ i = .int .i64 k ∧ k ≤ N ∧ waitP (L.take k) = S ∧ Wai w w1 A L S a N c ga gc wr) (fun _ i _ => N - (RowKit.intOf i).toNat)
  case atStart => exact ⟨0, _, none, 0, rfl, rfl, Nat.zero_le _, rfl, HS0.out⟩
  case round =>
    rename World => wr
    clear HS0
    obtain ⟨k, S, ga, gc, rfl, rfl, hk, hsk, hst⟩ := hrel
    have HST := hid hst; have HSK := hid hsk
    clear hst hsk
    by_cases hlt : k < N
    · have hltI : (k : Int) < (N : Int) := by omega
      obtain ⟨o, ho⟩ : ∃ o, L[k]? = some o := ⟨_, List.getElem?_eq_getElem (by rw [HN.out]; exact hlt)⟩
      have HO := hid ho
      have hom := List.mem_of_getElem? ho
      have hob : (obs A L)[k]? = some (A o.tx).ob := by rw [obs, List.getElem?_map, ho]; rfl
      obtain ⟨_, hcap, hcm, gb, off, rfl, c0⟩ := lies_ptr HST.out.l hob
      unfold maxLen at hcm
      have hkw : Kept (fun _ => False) w wr := K1.out.trans HST.out.k
      obtain ⟨ob, hobb⟩ : ∃ ob, (A o.tx).ob = ob := ⟨_, rfl⟩
      have HOI := hid ((HB.out.ows o hom).same hkw)
      have hwa := fun w' (k : Kept (fun _ => False) wr w') => waits_any (HOI.out.same k)
      obtain ⟨x0, x1, x2, _, _, _, _⟩ := cells7 HOI.out.obj
      rw [hobb] at c0 hwa x0 x1 x2
      unfold ptr at c0
      have HWA := hid hwa
      have HNX := hid (waitP_take ho)
      have hsl : S.length ≤ N := by
        have := waitP_len (L.take k)
        rw [HSK.out, List.length_take] at this
        omega
      clear ho hom hob hobb hkw hwa
      go_wp2_with fail
      refine (HWA.out _ (Kept.refl _ _)).mono ?_
      rintro e w' ⟨rfl, rfl⟩
      by_cases hw0 : 0 < o.ws.length
      · have hd : decide (0 < o.ws.length) = true := by simp [hw0]
        rw [hd]
        have HSN := hid (show waitP (L.take (k + 1)) = S ++ [o.tx] by rw [HNX.out, HSK.out, if_pos hw0])
        obtain ⟨m, hm⟩ : ∃ m, S.length = m := ⟨_, rfl⟩
        have HMM := hid hm
        have hg := HST.out.g
        rw [hm] at hg hsl ⊢
        have HG := hid hg
        have HT := hid (show (S ++ [o.tx]).flatMap encT = S.flatMap encT ++ encT o.tx by simp)
        clear hw0 hd hg hm c0
        go_wp2_with (at_builtin; refine wpList_app rfl _ _ 27 rfl 32 (txv (0, 0, 0)) 3 12 Try.underlying27 infoT rfl (by decide) (.slice ga m gc) m _ rfl (by exact HG.out.alloc _) _ rfl 1 _ (tx_src _ o.tx.1 o.tx.2.1 o.tx.2.2 rfl) (by unfold maxLen; omega) (by omega) ?_; intro ga2 gc2 w8 ho3 hk3 hf3 _; have HA8 := hid ho3; have HK8 := hid hk3; have HF8 := hid hf3; clear ho3 hk3 hf3)
        have k78 : Kept (fun i => (Value.slice ga m gc).ownBlock = some i) wr w8 := ((Kept.refl _ wr).alloc _).trans HK8.out
        have hgn : ∀ i, (Value.slice ga m gc).ownBlock = some i → w1.heap.size ≤ i := fun i h => HST.out.n i (by rw [HMM.out]; exact h)
        have HS8 := hid (show Wai w w1 A L (S ++ [o.tx]) (some ⟨gb, off, none⟩) N c ga2 gc2 w8 from by
          have hln : (S ++ [o.tx]).length = m + 1 := by rw [List.length_append, HMM.out]; rfl
          refine ⟨?_, fun b hb => ?_, HST.out.l.kept k78 (fun i _ h => .inr (hgn i h)), HST.out.k.trans' k78 (fun i h => .inr (hgn i h))⟩
          · rw [hln, HT.out]
            exact HA8.out
          · have hb' : (Value.slice ga2 (m + 1) gc2).ownBlock = some b := by rwa [hln] at hb
            rcases HF8.out b hb' with h | h
            · exact hgn b h
            · have := HST.out.k.size
              simp at h
              omega)
        clear k78 hgn
        go_roundw
        case rel => exact ⟨k + 1, _, ga2, gc2, by rw [List.length_append, HMM.out]; rfl, by go_num, by omega, HSN.out, HS8.out⟩
        case measure => (simp only [RowKit.intOf]; omega)
      · have hd : decide (0 < o.ws.length) = false := by simp [hw0]
        rw [hd]
        have HSN := hid (show waitP (L.take (k + 1)) = S by rw [HNX.out, HSK.out, if_neg hw0, List.append_nil])
        clear hw0 hd c0
        go_wp2
        go_roundw
        case rel => exact ⟨k + 1, S, ga, gc, rfl, by go_num, by omega, HSN.out, HST.out⟩
        case measure => (simp only [RowKit.intOf]; omega)
    · obtain rfl : k = N := by omega
      have hse : waitP L = S := by rw [← HSK.out, ← HN.out, List.take_length]
      have HSE := hid hse
      clear hse
      go_wp2
      go_ret
      rw [HSE.out]
      exact ⟨ga, gc, rfl, HST.out.g, fun b hb => Nat.le_trans K1.out.size (HST.out.n b hb), K1.out.trans HST.out.k⟩
end
end Go.Proofs.Ytpjhdpfaogdboaa
/- order2, median, choosePivot (fewer than 50), reverseRange, insertionSort. -/
namespace Go.Proofs.Ytpjhdpfaogdboaa
set_option linter.unusedSimpArgs false
set_option linter.unusedVariables false
open Go.RowKit
open Go.Sort (swp ltInt)

set_option maxRecDepth 100000 in
set_option maxHeartbeats 1000000 in
theorem order2_any {w : World} {g s : Nat} {d : Array Int} {tl : List Value} (h : Srt w g d tl) {N : Nat} (hN : d.size = N) (cap : Nat) {a b : Nat} (ha : a < N) (hb : b < N) (hd : N ≤ 1000) (n : Nat) (hn : n ≤ 1000) (hs : w.heap[s]? = some (.cells #[.int .i64 n] 3 (0, 0))) :
    Calls Try.prog 103 #[.slice (some ⟨g, 0, none⟩) N cap, .int .i64 a, .int .i64 b, .pointer (some ⟨s, 0, none⟩)] w fun e w' =>
      e = .returned (.tuple #[.int .i64 (Go.Sort.order2 ltInt d a b n).1, .int .i64 (Go.Sort.order2 ltInt d a b n).2.1]) ∧ w'.heap[s]? = some (.cells #[.int .i64 (Go.Sort.order2 ltInt d a b n).2.2] 3 (0, 0)) ∧ Kept (fun k => k = s) w w' := by
  have ca := h.cell (i := a) (by omega)
  have cb := h.cell (i := b) (by omega)
  have cs := row_cell hs 0
  have fs := row_free hs 0
  simp at cs
  have HS := hid hs
  clear hs h hN
  obtain ⟨t, ht⟩ : ∃ t, ls d b a = t := ⟨_, rfl⟩
  have HT := hid ht
  clear ht
  go_enter Try.func103, Try.ntmps103
  go_wp2_with fail
  go_quiet ((go_at_call 82; exact Calls.quiet_of_same (less_any _ _ _ _)))
  rw [HT.out]
  cases t with
  | true =>
    have e : Go.Sort.order2 ltInt d a b n = (b, a, n + 1) := by unfold Go.Sort.order2; rw [ls_eq, HT.out]; rfl
    go_wp2
    go_ret2
    rw [e]
    exact ⟨rfl, by simpa using row_set (show (w.drewN nq).heap[s]? = _ from HS.out) 0 (.int .i64 ((n : Int) + 1)), (kept_drewN (F := fun k => k = s) w nq).setCell (p := ⟨s, 0, none⟩) (.inl rfl) _⟩
  | false =>
    have e : Go.Sort.order2 ltInt d a b n = (a, b, n) := by unfold Go.Sort.order2; rw [ls_eq, HT.out]; rfl
    go_wp2
    go_ret2
    rw [e]
    exact ⟨rfl, HS.out, kept_drewN w nq⟩
theorem order2_le (d : Array Int) (a b n : Nat) : (Go.Sort.order2 ltInt d a b n).2.2 ≤ n + 1 ∧ (((Go.Sort.order2 ltInt d a b n).1 = a ∧ (Go.Sort.order2 ltInt d a b n).2.1 = b) ∨ ((Go.Sort.order2 ltInt d a b n).1 = b ∧ (Go.Sort.order2 ltInt d a b n).2.1 = a)) := by
  unfold Go.Sort.order2
  split <;> simp
set_option maxRecDepth 100000 in
set_option maxHeartbeats 1000000 in
theorem median_any {w : World} {g s : Nat} {d : Array Int} {tl : List Value} (h : Srt w g d tl) {N : Nat} (hN : d.size = N) (hgs : s ≠ g) (cap : Nat) {a b c : Nat} (ha : a < N) (hb : b < N) (hc : c < N) (hd : N ≤ 1000) (n : Nat) (hn : n ≤ 900) (hs : w.heap[s]? = some (.cells #[.int .i64 n] 3 (0, 0))) :
    Calls Try.prog 99 #[.slice (some ⟨g, 0, none⟩) N cap, .int .i64 a, .int .i64 b, .int .i64 c, .pointer (some ⟨s, 0, none⟩)] w fun e w' =>
      e = .returned (.int .i64 (Go.Sort.median ltInt d a b c n).1) ∧ w'.heap[s]? = some (.cells #[.int .i64 (Go.Sort.median ltInt d a b c n).2] 3 (0, 0)) ∧ Kept (fun k => k = s) w w' := by
  have H := hid h; have HS := hid hs; have HN := hid hN
  clear h hs hN
  have hm : Hid (Go.Sort.median ltInt d a b c n = ((Go.Sort.order2 ltInt d (Go.Sort.order2 ltInt d a b n).1 (Go.Sort.order2 ltInt d (Go.Sort.order2 ltInt d a b n).2.1 c (Go.Sort.order2 ltInt d a b n).2.2).1 (Go.Sort.order2 ltInt d (Go.Sort.order2 ltInt d a b n).2.1 c (Go.Sort.order2 ltInt d a b n).2.2).2.2).2.1, (Go.Sort.order2 ltInt d (Go.Sort.order2 ltInt d a b n).1 (Go.Sort.order2 ltInt d (Go.Sort.order2 ltInt d a b n).2.1 c (Go.Sort.order2 ltInt d a b n).2.2).1 (Go.Sort.order2 ltInt d (Go.Sort.order2 ltInt d a b n).2.1 c (Go.Sort.order2 ltInt d a b n).2.2).2.2).2.2)) := hid rfl
  have l1 := order2_le d a b n
  obtain ⟨r1, hr1⟩ : ∃ r, Go.Sort.order2 ltInt d a b n = r := ⟨_, rfl⟩
  rw [hr1] at hm l1
  have l2 := order2_le d r1.2.1 c r1.2.2
  obtain ⟨r2, hr2⟩ : ∃ r, Go.Sort.order2 ltInt d r1.2.1 c r1.2.2 = r := ⟨_, rfl⟩
  rw [hr2] at hm l2
  have l3 := order2_le d r1.1 r2.1 r2.2.2
  obtain ⟨r3, hr3⟩ : ∃ r, Go.Sort.order2 ltInt d r1.1 r2.1 r2.2.2 = r := ⟨_, rfl⟩
  rw [hr3] at hm l3
  obtain ⟨x1, y1, n1⟩ := r1
  obtain ⟨x2, y2, n2⟩ := r2
  obtain ⟨x3, y3, n3⟩ := r3
  dsimp only at hm l1 l2 l3 hr2 hr3
  have hb1 : x1 < N ∧ y1 < N ∧ n1 ≤ n + 1 := by omega
  have hb2 : x2 < N ∧ y2 < N ∧ n2 ≤ n + 2 := by omega
  have R1 := hid hr1; have R2 := hid hr2; have R3 := hid hr3; have HB1 := hid hb1; have HB2 := hid hb2
  have HGS := hid hgs
  clear hr1 hr2 hr3 l1 l2 l3 hb1 hb2 hgs
  go_enter Try.func99, Try.ntmps99
  go_wp2_with fail
  refine (order2_any H.out HN.out cap ha hb hd n (by omega) HS.out).mono ?_
  rintro e w1 ⟨rfl, hs1, hk1⟩
  rw [R1.out] at hs1 ⊢
  dsimp only at hs1 ⊢
  have H1 := hid (H.out.kept hk1 (by exact fun e => HGS.out e.symm)); have HS1 := hid hs1; have HK1 := hid hk1
  clear hs1 hk1
  go_wp2_with fail
  refine (order2_any H1.out HN.out cap HB1.out.2.1 hc hd n1 (by have := HB1.out; omega) HS1.out).mono ?_
  rintro e w2 ⟨rfl, hs2, hk2⟩
  rw [R2.out] at hs2 ⊢
  dsimp only at hs2 ⊢
  have H2 := hid (H1.out.kept hk2 (by exact fun e => HGS.out e.symm)); have HS2 := hid hs2; have HK2 := hid (HK1.out.trans hk2)
  clear hs2 hk2
  go_wp2_with fail
  refine (order2_any H2.out HN.out cap HB1.out.1 HB2.out.1 hd n2 (by have := HB2.out; omega) HS2.out).mono ?_
  rintro e w3 ⟨rfl, hs3, hk3⟩
  rw [R3.out] at hs3 ⊢
  dsimp only at hs3 ⊢
  have HS3 := hid hs3; have HK3 := hid (HK2.out.trans hk3)
  clear hs3 hk3
  go_wp2
  go_ret
  rw [hm.out]
  exact ⟨rfl, HS3.out, HK3.out⟩
def hintN : Go.Sort.Hint → Int
  | .unknown => 0
  | .increasing => 1
  | .decreasing => 2
theorem median_le (d : Array Int) (a b c n : Nat) : (Go.Sort.median ltInt d a b c n).2 ≤ n + 3 := by
  simp only [Go.Sort.median]
  have l1 := (order2_le d a b n).1
  have l2 := (order2_le d (Go.Sort.order2 ltInt d a b n).2.1 c (Go.Sort.order2 ltInt d a b n).2.2).1
  have l3 := (order2_le d (Go.Sort.order2 ltInt d a b n).1 (Go.Sort.order2 ltInt d (Go.Sort.order2 ltInt d a b n).2.1 c (Go.Sort.order2 ltInt d a b n).2.2).1 (Go.Sort.order2 ltInt d (Go.Sort.order2 ltInt d a b n).2.1 c (Go.Sort.order2 ltInt d a b n).2.2).2.2).1
  omega
set_option maxRecDepth 100000 in
set_option maxHeartbeats 1000000 in
theorem pivot_any {w : World} {g : Nat} {d : Array Int} {tl : List Value} (h : Srt w g d tl) {N : Nat} (hN : d.size = N) (cap : Nat) {a b : Nat} (hab : a + 12 < b) (hb : b ≤ N) (hd : N < 50) :
    Calls Try.prog 79 #[.slice (some ⟨g, 0, none⟩) N cap, .int .i64 a, .int .i64 b] w fun e w' =>
      e = .returned (.tuple #[.int .i64 (Go.Sort.choosePivot ltInt d a b).1, .int .i64 (hintN (Go.Sort.choosePivot ltInt d a b).2)]) ∧ (Go.Sort.choosePivot ltInt d a b).2 ≠ .decreasing ∧ Kept (fun _ => False) w w' := by
  have H := hid h; have HN := hid hN
  clear h hN
  obtain ⟨L, rfl⟩ : ∃ L, b = a + L := ⟨b - a, by omega⟩
  have hL : 12 < L ∧ L < 50 := by omega
  obtain ⟨q, hq⟩ : ∃ q, L / 4 = q := ⟨_, rfl⟩
  have hq' : 4 * q ≤ L ∧ L < 4 * q + 4 := by omega
  have e0 : (a : Int) + (L : Int) - (a : Int) = (L : Int) := by omega
  have e1 : (L : Int) / 4 = (q : Int) := by omega
  have hc : Go.Sort.choosePivot ltInt d a (a + L) = ((Go.Sort.median ltInt d (a + q) (a + q * 2) (a + q * 3) 0).1, if (Go.Sort.median ltInt d (a + q) (a + q * 2) (a + q * 3) 0).2 = 0 then .increasing else if (Go.Sort.median ltInt d (a + q) (a + q * 2) (a + q * 3) 0).2 = 12 then .decreasing else .unknown) := by
    unfold Go.Sort.choosePivot
    simp only [Nat.add_sub_cancel_left, hq, Nat.mul_one]
    rw [if_pos (by omega), if_neg (by omega)]
  have hm := median_le d (a + q) (a + q * 2) (a + q * 3) 0
  obtain ⟨⟨m, s⟩, hr⟩ : ∃ r, Go.Sort.median ltInt d (a + q) (a + q * 2) (a + q * 3) 0 = r := ⟨_, rfl⟩
  rw [hr] at hc hm
  have HC := hid hc; have HR := hid hr
  have hlt := H.out.lt
  dsimp only at hm
  clear hc hr hq
  go_enter Try.func79, Try.ntmps79
  go_wp2_with fail
  have hs0 := row_new w (.cells #[.int .i64 0] 3)
  have hk0 := (Kept.refl (fun _ => False) w).alloc (.cells #[.int .i64 0] 3)
  obtain ⟨s0, hs0e⟩ : ∃ s0, w.heap.size = s0 := ⟨_, rfl⟩
  obtain ⟨w1, hw1⟩ : ∃ w1, w.alloc (.cells #[.int .i64 0] 3) = w1 := ⟨_, rfl⟩
  rw [hw1] at hk0 ⊢
  rw [hw1, hs0e] at hs0
  rw [hs0e] at hlt ⊢
  have h1 := H.out.kept hk0 (fun h => h)
  refine ((median_any (a := a + q) (b := a + q * 2) (c := a + q * 3) h1 HN.out (by omega) cap (by omega) (by omega) (by omega) (by omega) 0 (by omega) hs0)).mono ?_
  rintro e w2 ⟨rfl, hs2, hk2⟩
  rw [HR.out] at hs2 ⊢
  dsimp only at hs2 ⊢
  have c2 := row_cell hs2 0
  simp at c2
  have K2 := hid (hk0.trans' hk2 (fun i e => .inr (by omega)))
  clear hs2 hk2 hk0 h1 hs0 hw1 hs0e
  rcases (show s = 0 ∨ s = 1 ∨ s = 2 ∨ s = 3 by omega) with rfl | rfl | rfl | rfl
  all_goals
    go_wp2
    go_ret2
    rw [HC.out]
    exact ⟨by simp [hintN], by simp, K2.out⟩
end Go.Proofs.Ytpjhdpfaogdboaa
/- insertionSort, siftDown, heapSort. -/
namespace Go.Proofs.Ytpjhdpfaogdboaa
set_option linter.unusedSimpArgs false
set_option linter.unusedVariables false
open Go.RowKit
open Go.Sort (swp ltInt)

def SrtEnd (w : World) (g : Nat) (tl : List Value) (d' : Array Int) (e : Ending) (w' : World) : Prop := e = .returned (.tuple #[]) ∧ Srt w' g d' tl ∧ Kept (fun k => k = g) w w'
theorem insInner_yes {a m : Nat} {d : Array Int} (h : a < m + 1) (hl : ls d (m + 1) m = true) : Go.Sort.insInner ltInt a (m + 1) d = Go.Sort.insInner ltInt a m (swp d (m + 1) m) := by
  rw [Go.Sort.insInner, ls_eq, hl, if_pos (by simpa using h)]
theorem insInner_no {a j : Nat} {d : Array Int} (h : ∀ m, j = m + 1 → a < m + 1 → ls d (m + 1) m = false) : Go.Sort.insInner ltInt a j d = d := by
  cases j with
  | zero => rw [Go.Sort.insInner]
  | succ m =>
    rw [Go.Sort.insInner, ls_eq]
    split
    · rename_i hc
      simp only [gt_iff_lt, Bool.and_eq_true, decide_eq_true_eq] at hc
      rw [h m rfl hc.1] at hc
      exact absurd hc.2 (by decide)
    · rfl
theorem insOuter_step {a b i : Nat} {d : Array Int} (h : i < b) : Go.Sort.insOuter ltInt a b i d = Go.Sort.insOuter ltInt a b (i + 1) (Go.Sort.insInner ltInt a i d) := by
  rw [Go.Sort.insOuter, if_pos h]
theorem insOuter_end {a b i : Nat} {d : Array Int} (h : ¬ i < b) : Go.Sort.insOuter ltInt a b i d = d := by
  rw [Go.Sort.insOuter, if_neg h]
/-- behind a swap that a region has drawn -/
theorem Srt.swapd {w : World} {g : Nat} {d : Array Int} {tl : List Value} (h : Srt w g d tl) {i j : Nat} (hi : i < d.size) (hj : j < d.size) :
    Srt ((w.setCell ⟨g, i, none⟩ (.int .u32 (nt d j))).setCell ⟨g, j, none⟩ (.int .u32 (nt d i))).drew g (swp d i j) tl ∧ Kept (fun k => k = g) w ((w.setCell ⟨g, i, none⟩ (.int .u32 (nt d j))).setCell ⟨g, j, none⟩ (.int .u32 (nt d i))).drew :=
  ⟨h.swap hi hj, (kept_swap w).drew⟩
theorem Srt.drewN {w : World} {g : Nat} {d : Array Int} {tl : List Value} (h : Srt w g d tl) (n : Nat) : Srt (w.drewN n) g d tl := h
set_option maxRecDepth 100000 in
set_option maxHeartbeats 1000000 in
theorem ins_any {w : World} {g : Nat} {d : Array Int} {tl : List Value} (h : Srt w g d tl) {N : Nat} (hN : d.size = N) (cap : Nat) {a b : Nat} (hab : a ≤ b) (hb : b ≤ N) (hd : N < 50) :
    Calls Try.prog 76 #[.slice (some ⟨g, 0, none⟩) N cap, .int .i64 a, .int .i64 b] w (SrtEnd w g tl (Go.Sort.insertionSort ltInt d a b)) := by
  have H := hid h; have HN := hid hN
  clear h hN
  go_enter Try.func76, Try.ntmps76
  go_wp2_with fail
  go_loopw [6] (fun i wr => ∃ (k : Nat) (dk : Array Int), i = .int .i64 k ∧ a + 1 ≤ k ∧ (k ≤ b ∨ k = a + 1) ∧ dk.size = N ∧ Srt wr g dk tl ∧ Kept (fun k => k = g) w wr ∧ Go.Sort.insOuter ltInt a b k dk = Go.Sort.insertionSort ltInt d a b) (fun i _ => b - (intOf i).toNat)
  case atStart => exact ⟨a + 1, d, by go_num, Nat.le_refl _, .inr rfl, HN.out, H.out, Kept.refl _ _, rfl⟩
  case round =>
    rename World => wA
    obtain ⟨k, dk, rfl, hk, hkb, hsz, hs, hkp, heq⟩ := hrel
    have HS := hid hs; have HK := hid hkp; have HE := hid heq; have HZ := hid hsz
    clear hs hkp heq H
    by_cases hlt : k < b
    · have hkd : k < dk.size := by omega
      clear hsz
      go_wp2_with fail
      go_loopw [7] (fun j wr => ∃ (jn : Nat) (dj : Array Int), j = .int .i64 jn ∧ a ≤ jn ∧ jn ≤ k ∧ dj.size = N ∧ Srt wr g dj tl ∧ Kept (fun k => k = g) wA wr ∧ Go.Sort.insInner ltInt a jn dj = Go.Sort.insInner ltInt a k dk) (fun j _ => (intOf j).toNat)
      case atStart => exact ⟨k, dk, rfl, by omega, Nat.le_refl _, HZ.out, HS.out, Kept.refl _ _, rfl⟩
      case round =>
        rename World => wB
        obtain ⟨jn, dj, rfl, hja, hjk, hsz, hs, hkp, heq⟩ := hrel
        have HS2 := hid hs; have HK2 := hid hkp; have HE2 := hid heq; have HZ2 := hid hsz
        clear hs hkp heq
        by_cases hj : a < jn
        · obtain ⟨m, rfl⟩ : ∃ m, jn = m + 1 := ⟨jn - 1, by omega⟩
          have c0 := HS2.out.cell (i := m + 1) (by omega)
          have c1 := HS2.out.cell (i := m) (by omega)
          have f0 := HS2.out.free (m + 1)
          have f1 := HS2.out.free m
          have hjd : m + 1 < dj.size := by omega
          clear hsz
          obtain ⟨t, ht⟩ : ∃ t, ls dj (m + 1) m = t := ⟨_, rfl⟩
          have HT := hid ht; clear ht
          have hdec : decide ((a : Int) < (m : Int) + 1) = true := by simp; omega
          go_wp2_with fail
          go_quiet ((go_at_call 82; exact Calls.quiet_of_same (less_any _ _ _ _)))
          have HS3 := hid (HS2.out.drewN nq)
          have HK3 := hid (HK2.out.trans (kept_drewN wB nq))
          obtain ⟨wC, hwC⟩ : ∃ wC, wB.drewN nq = wC := ⟨_, rfl⟩
          rw [hwC] at HS3 HK3 ⊢
          rw [HT.out]
          clear c0 c1 f0 f1 hwC hdec
          cases t with
          | true =>
            have c0 := HS3.out.cell (i := m + 1) (by omega)
            have c1 := HS3.out.cell (i := m) (by omega)
            have f0 := HS3.out.free (m + 1)
            have f1 := HS3.out.free m
            go_wp2_with fail
            go_region
            obtain ⟨h1, h2⟩ := HS3.out.swapd (i := m + 1) (j := m) (by omega) (by omega)
            have HS4 := hid h1; have HK4 := hid (HK3.out.trans h2)
            clear h1 h2 c0 c1 f0 f1
            go_wp2
            go_roundw
            case rel => exact ⟨m, _, by go_num, by omega, by omega, by rw [size_swp]; exact HZ2.out, HS4.out, HK4.out, by rw [← HE2.out, insInner_yes (by omega) HT.out]⟩
            case measure => (simp [intOf]; try omega)
          | false =>
            go_wp2_with fail
            go_roundw
            case rel => exact ⟨k + 1, dj, by go_num, by omega, .inl (by omega), HZ2.out, HS3.out, HK.out.trans HK3.out, by rw [← HE.out, insOuter_step hlt, ← HE2.out, insInner_no (fun m' e _ => by cases e; exact HT.out)]⟩
            case measure => (simp [intOf]; try omega)
        · obtain rfl : jn = a := by omega
          have hdec : decide ((jn : Int) < (jn : Int)) = false := by simp
          go_wp2_with fail
          go_quiet ((go_at_call 82; exact Calls.quiet_of_same (less_any _ _ _ _)))
          go_wp2_with fail
          go_roundw
          case rel => exact ⟨k + 1, dj, by go_num, by omega, .inl (by omega), HZ2.out, HS2.out.drewN nq, (HK.out.trans HK2.out).trans (kept_drewN _ nq), by rw [← HE.out, insOuter_step hlt, ← HE2.out, insInner_no (fun m' e h => by omega)]⟩
          case measure => (simp [intOf]; try omega)
    · go_wp2
      go_end0
      exact ⟨rfl, by rw [← HE.out, insOuter_end hlt]; exact HS.out, HK.out⟩
/-! ### the heap -/
theorem siftDown_step {hi f r c : Nat} {d : Array Int} (hc : 2 * r + 1 < hi) (e : c = if 2 * r + 1 + 1 < hi ∧ ls d (f + (2 * r + 1)) (f + (2 * r + 1) + 1) = true then 2 * r + 2 else 2 * r + 1) :
    Go.Sort.siftDown ltInt hi f r d = if ls d (f + r) (f + c) = true then Go.Sort.siftDown ltInt hi f c (swp d (f + r) (f + c)) else d := by
  rw [Go.Sort.siftDown, dif_neg (by omega)]
  simp only [ls_eq]
  by_cases h : 2 * r + 1 + 1 < hi ∧ ls d (f + (2 * r + 1)) (f + (2 * r + 1) + 1) = true
  · rw [if_pos h] at e
    subst e
    rw [if_pos (by simpa using h), dif_pos (by omega)]
    cases ls d (f + r) (f + (2 * r + 2)) <;> simp
  · rw [if_neg h] at e
    subst e
    rw [if_neg (by simpa using h)]
    cases ls d (f + r) (f + (2 * r + 1)) <;> simp
theorem siftDown_end {hi f r : Nat} {d : Array Int} (hc : ¬ 2 * r + 1 < hi) : Go.Sort.siftDown ltInt hi f r d = d := by
  rw [Go.Sort.siftDown, dif_pos (by omega)]
set_option maxRecDepth 100000 in
set_option maxHeartbeats 1000000 in
theorem sift_any {w : World} {g : Nat} {d : Array Int} {tl : List Value} (h : Srt w g d tl) {N : Nat} (hN : d.size = N) (cap : Nat) {lo hi f : Nat} (hf : f + hi ≤ N) (hlo : lo ≤ N) (hd : N < 50) :
    Calls Try.prog 95 #[.slice (some ⟨g, 0, none⟩) N cap, .int .i64 lo, .int .i64 hi, .int .i64 f] w (SrtEnd w g tl (Go.Sort.siftDown ltInt hi f lo d)) := by
  have H := hid h; have HN := hid hN
  clear h hN
  go_enter Try.func95, Try.ntmps95
  go_wp2_with fail
  go_loopw [8] (fun r wr => ∃ (k : Nat) (dk : Array Int), r = .int .i64 k ∧ k ≤ N ∧ dk.size = N ∧ Srt wr g dk tl ∧ Kept (fun k => k = g) w wr ∧ Go.Sort.siftDown ltInt hi f k dk = Go.Sort.siftDown ltInt hi f lo d) (fun r _ => N - (intOf r).toNat)
  case atStart => exact ⟨lo, d, rfl, hlo, HN.out, H.out, Kept.refl _ _, rfl⟩
  case round =>
    rename World => wA
    obtain ⟨k, dk, rfl, hk, hsz, hs, hkp, heq⟩ := hrel
    have HS := hid hs; have HK := hid hkp; have HE := hid heq
    clear hs hkp heq H
    by_cases hlt : 2 * k + 1 < hi
    · obtain ⟨c, hc⟩ : ∃ c, c = if 2 * k + 1 + 1 < hi ∧ ls dk (f + (2 * k + 1)) (f + (2 * k + 1) + 1) = true then 2 * k + 2 else 2 * k + 1 := ⟨_, rfl⟩
      have hst := siftDown_step hlt hc
      have hcb : k < c ∧ c < hi := by rw [hc]; split <;> omega
      have HST := hid hst
      have HC := hid hc
      clear hst hc
      obtain ⟨p0, hp0⟩ : ∃ p, p = f + k := ⟨_, rfl⟩
      obtain ⟨c1, hc1⟩ : ∃ p, p = 2 * k + 1 := ⟨_, rfl⟩
      obtain ⟨p1, hp1⟩ : ∃ p, p = f + c1 := ⟨_, rfl⟩
      obtain ⟨c2, hc2⟩ : ∃ p, p = c1 + 1 := ⟨_, rfl⟩
      obtain ⟨p2, hp2⟩ : ∃ p, p = f + c2 := ⟨_, rfl⟩
      have hch : c1 < hi := by omega
      have hchd : decide ((hi : Int) ≤ (c1 : Int)) = false := by simp; omega
      have e1 : 2 * (k : Int) + 1 = (c1 : Int) := by omega
      have e2 : (c1 : Int) + 1 = (c2 : Int) := by omega
      have e3 : (f : Int) + (c1 : Int) = (p1 : Int) := by omega
      have e4 : (f : Int) + (c2 : Int) = (p2 : Int) := by omega
      have e5 : (p1 : Int) + 1 = (p2 : Int) := by omega
      have e6 : (f : Int) + (k : Int) = (p0 : Int) := by omega
      have P0 := hid hp0; have C1 := hid hc1; have P1 := hid hp1; have C2 := hid hc2; have P2 := hid hp2
      have g0 : p0 < N ∧ p1 < N ∧ (c2 < hi → p2 < N) := by omega
      have g1 : c1 ≤ N ∧ c2 ≤ N + 1 := by omega
      have hcc : c = if c2 < hi ∧ ls dk p1 p2 = true then c2 else c1 := by
        rw [HC.out, hp1, hp2, hc2, hc1]
        rfl
      rw [← hp0] at HST
      have HCC := hid hcc
      clear hp0 hc1 hp1 hc2 hp2 hcc
      have a0 := HS.out.cell (i := p0) (by omega)
      have a1 := HS.out.cell (i := p1) (by omega)
      have f0 := HS.out.free p0
      have f1 := HS.out.free p1
      by_cases h2 : c2 < hi
      · have a2 := HS.out.cell (i := p2) (by omega)
        have f2 := HS.out.free p2
        have hdec : decide ((c2 : Int) < (hi : Int)) = true := by simp; omega
        have hg2 := g0.2.2 h2
        obtain ⟨t, ht⟩ : ∃ t, ls dk p1 p2 = t := ⟨_, rfl⟩
        have HT := hid ht; clear ht
        go_wp2_with fail
        go_quiet ((go_at_call 82; exact Calls.quiet_of_same (less_any _ _ _ _)))
        rw [HT.out]
        have HS3 := hid (HS.out.drewN nq)
        have HK3 := hid (HK.out.trans (kept_drewN wA nq))
        obtain ⟨wC, hwC⟩ : ∃ wC, wA.drewN nq = wC := ⟨_, rfl⟩
        rw [hwC] at HS3 HK3 ⊢
        clear a0 a1 a2 f0 f1 f2 hwC
        cases t with
        | true =>
          have EC := hid (show c = c2 by rw [HCC.out, if_pos ⟨h2, HT.out⟩])
          obtain ⟨u, hu⟩ : ∃ u, ls dk p0 p2 = u := ⟨_, rfl⟩
          have HU := hid hu; clear hu
          have b0 := HS3.out.cell (i := p0) (by omega)
          have b1 := HS3.out.cell (i := p2) (by omega)
          go_wp2_with fail
          go_quiet ((go_at_call 82; exact Calls.quiet_of_same (less_any _ _ _ _)))
          rw [HU.out]
          have HS4 := hid (HS3.out.drewN nq)
          have HK4 := hid (HK3.out.trans (kept_drewN wC nq))
          obtain ⟨wD, hwD⟩ : ∃ wD, wC.drewN nq = wD := ⟨_, rfl⟩
          rw [hwD] at HS4 HK4 ⊢
          clear b0 b1 hwD
          have hfc : f + c = p2 := by rw [EC.out]; exact P2.out.symm
          have HFC := hid hfc; clear hfc
          cases u with
          | true =>
            have b0 := HS4.out.cell (i := p0) (by omega)
            have b1 := HS4.out.cell (i := p2) (by omega)
            have f0 := HS4.out.free p0
            have f1 := HS4.out.free p2
            go_wp2_with fail
            go_region
            obtain ⟨h1, h2⟩ := HS4.out.swapd (i := p0) (j := p2) (by omega) (by omega)
            have HS5 := hid h1; have HK5 := hid (HK4.out.trans h2)
            clear h1 h2 b0 b1 f0 f1
            go_wp2
            go_roundw
            case rel => exact ⟨c2, _, rfl, by omega, by rw [size_swp]; exact hsz, HS5.out, HK5.out, by rw [← HE.out, HST.out, HFC.out, HU.out, if_pos rfl, EC.out]⟩
            case measure => (have hc := EC.out; simp [intOf]; omega)
          | false =>
            go_wp2
            go_end0
            exact ⟨rfl, by rw [← HE.out, HST.out, HFC.out, HU.out, if_neg (by decide)]; exact HS4.out, HK4.out⟩
        | false =>
          have EC := hid (show c = c1 by rw [HCC.out, if_neg (by rw [HT.out]; simp)])
          obtain ⟨u, hu⟩ : ∃ u, ls dk p0 p1 = u := ⟨_, rfl⟩
          have HU := hid hu; clear hu
          have b0 := HS3.out.cell (i := p0) (by omega)
          have b1 := HS3.out.cell (i := p1) (by omega)
          go_wp2_with fail
          go_quiet ((go_at_call 82; exact Calls.quiet_of_same (less_any _ _ _ _)))
          rw [HU.out]
          have HS4 := hid (HS3.out.drewN nq)
          have HK4 := hid (HK3.out.trans (kept_drewN wC nq))
          obtain ⟨wD, hwD⟩ : ∃ wD, wC.drewN nq = wD := ⟨_, rfl⟩
          rw [hwD] at HS4 HK4 ⊢
          clear b0 b1 hwD
          have hfc : f + c = p1 := by rw [EC.out]; exact P1.out.symm
          have HFC := hid hfc; clear hfc
          cases u with
          | true =>
            have b0 := HS4.out.cell (i := p0) (by omega)
            have b1 := HS4.out.cell (i := p1) (by omega)
            have f0 := HS4.out.free p0
            have f1 := HS4.out.free p1
            go_wp2_with fail
            go_region
            obtain ⟨h1, h2⟩ := HS4.out.swapd (i := p0) (j := p1) (by omega) (by omega)
            have HS5 := hid h1; have HK5 := hid (HK4.out.trans h2)
            clear h1 h2 b0 b1 f0 f1
            go_wp2
            go_roundw
            case rel => exact ⟨c1, _, rfl, by omega, by rw [size_swp]; exact hsz, HS5.out, HK5.out, by rw [← HE.out, HST.out, HFC.out, HU.out, if_pos rfl, EC.out]⟩
            case measure => (have hc := EC.out; simp [intOf]; omega)
          | false =>
            go_wp2
            go_end0
            exact ⟨rfl, by rw [← HE.out, HST.out, HFC.out, HU.out, if_neg (by decide)]; exact HS4.out, HK4.out⟩
      · have hdec : decide ((c2 : Int) < (hi : Int)) = false := by simp; omega
        go_wp2_with fail
        go_quiet ((go_at_call 82; exact Calls.quiet_of_same (less_any _ _ _ _)))
        have HS3 := hid (HS.out.drewN nq)
        have HK3 := hid (HK.out.trans (kept_drewN wA nq))
        obtain ⟨wC, hwC⟩ : ∃ wC, wA.drewN nq = wC := ⟨_, rfl⟩
        rw [hwC] at HS3 HK3 ⊢
        clear a0 a1 f0 f1 hwC
        have EC := hid (show c = c1 by rw [HCC.out, if_neg (by omega)])
        obtain ⟨u, hu⟩ : ∃ u, ls dk p0 p1 = u := ⟨_, rfl⟩
        have HU := hid hu; clear hu
        have b0 := HS3.out.cell (i := p0) (by omega)
        have b1 := HS3.out.cell (i := p1) (by omega)
        go_wp2_with fail
        go_quiet ((go_at_call 82; exact Calls.quiet_of_same (less_any _ _ _ _)))
        rw [HU.out]
        have HS4 := hid (HS3.out.drewN nq)
        have HK4 := hid (HK3.out.trans (kept_drewN wC nq))
        obtain ⟨wD, hwD⟩ : ∃ wD, wC.drewN nq = wD := ⟨_, rfl⟩
        rw [hwD] at HS4 HK4 ⊢
        clear b0 b1 hwD
        have hfc : f + c = p1 := by rw [EC.out]; exact P1.out.symm
        have HFC := hid hfc; clear hfc
        cases u with
        | true =>
          have b0 := HS4.out.cell (i := p0) (by omega)
          have b1 := HS4.out.cell (i := p1) (by omega)
          have f0 := HS4.out.free p0
          have f1 := HS4.out.free p1
          go_wp2_with fail
          go_region
          obtain ⟨h1, h2⟩ := HS4.out.swapd (i := p0) (j := p1) (by omega) (by omega)
          have HS5 := hid h1; have HK5 := hid (HK4.out.trans h2)
          clear h1 h2 b0 b1 f0 f1
          go_wp2
          go_roundw
          case rel => exact ⟨c1, _, rfl, by omega, by rw [size_swp]; exact hsz, HS5.out, HK5.out, by rw [← HE.out, HST.out, HFC.out, HU.out, if_pos rfl, EC.out]⟩
          case measure => (have hc := EC.out; simp [intOf]; omega)
        | false =>
          go_wp2
          go_end0
          exact ⟨rfl, by rw [← HE.out, HST.out, HFC.out, HU.out, if_neg (by decide)]; exact HS4.out, HK4.out⟩
    · have hlt2 : ¬ 2 * (k : Int) + 1 < (hi : Int) := by omega
      go_wp2
      go_end0
      exact ⟨rfl, by rw [← HE.out, siftDown_end hlt]; exact HS.out, HK.out⟩
end Go.Proofs.Ytpjhdpfaogdboaa
/- heapSort; the scan for a sorted row. -/
namespace Go.Proofs.Ytpjhdpfaogdboaa
set_option linter.unusedSimpArgs false
set_option linter.unusedVariables false
open Go.RowKit
open Go.Sort (swp ltInt)

theorem size_siftDown : ∀ (n hi f r : Nat) (d : Array Int), hi - r ≤ n → (Go.Sort.siftDown ltInt hi f r d).size = d.size := by
  intro n
  induction n with
  | zero => intro hi f r d h; rw [siftDown_end (by omega)]
  | succ n ih =>
    intro hi f r d h
    by_cases hc : 2 * r + 1 < hi
    · obtain ⟨c, hcc⟩ : ∃ c, c = if 2 * r + 1 + 1 < hi ∧ ls d (f + (2 * r + 1)) (f + (2 * r + 1) + 1) = true then 2 * r + 2 else 2 * r + 1 := ⟨_, rfl⟩
      have hrc : r < c := by rw [hcc]; split <;> omega
      rw [siftDown_step hc hcc]
      split
      · rw [ih _ _ _ _ (by omega), size_swp]
      · rfl
    · rw [siftDown_end hc]
theorem sift_size (hi f r : Nat) (d : Array Int) : (Go.Sort.siftDown ltInt hi f r d).size = d.size := size_siftDown _ _ _ _ _ (Nat.le_refl _)
set_option maxRecDepth 100000 in
set_option maxHeartbeats 1000000 in
theorem heap_any {w : World} {g : Nat} {d : Array Int} {tl : List Value} (h : Srt w g d tl) {N : Nat} (hN : d.size = N) (cap : Nat) {a b : Nat} (hab : a < b) (hb : b ≤ N) (hd : N < 50) :
    Calls Try.prog 77 #[.slice (some ⟨g, 0, none⟩) N cap, .int .i64 a, .int .i64 b] w (SrtEnd w g tl (Go.Sort.heapSort ltInt d a b)) := by
  have H := hid h; have HN := hid hN
  clear h hN
  obtain ⟨L, hbL⟩ : ∃ L, b = a + L := ⟨b - a, by omega⟩
  have hL : 0 < L ∧ a + L ≤ N := by omega
  obtain ⟨M, hM⟩ : ∃ M, (L - 1) / 2 = M := ⟨_, rfl⟩
  have hM2 : M < L := by omega
  have e0 : (b : Int) - (a : Int) = (L : Int) := by omega
  have e1 : ((L : Int) - 1) / 2 = (M : Int) := by omega
  have E1 := hid e1
  have hdef : Hid (Go.Sort.heapSort ltInt d a b = Go.Sort.heapPop ltInt a L (Go.Sort.heapBuild ltInt L a (M + 1) d)) := by
    refine hid ?_
    unfold Go.Sort.heapSort
    rw [hbL, Nat.add_sub_cancel_left, hM]
  clear hM hbL
  go_enter Try.func77, Try.ntmps77
  go_wp2_with fail
  go_loopw [9] (fun i wr => ∃ (z : Int) (k : Nat) (dk : Array Int), i = .int .i64 z ∧ z + 1 = (k : Int) ∧ k ≤ M + 1 ∧ dk.size = N ∧ Srt wr g dk tl ∧ Kept (fun k => k = g) w wr ∧ Go.Sort.heapBuild ltInt L a k dk = Go.Sort.heapBuild ltInt L a (M + 1) d) (fun i _ => (intOf i + 1).toNat)
  case atStart => exact ⟨M, M + 1, d, by rw [E1.out], by omega, Nat.le_refl _, HN.out, H.out, Kept.refl _ _, rfl⟩
  case round =>
    rename World => wA
    obtain ⟨z, k, dk, rfl, hz, hk, hsz, hs, hkp, heq⟩ := hrel
    have HS := hid hs; have HK := hid hkp; have HE := hid heq; have HZ := hid hsz
    clear hs hkp heq hsz H e0 e1
    by_cases hlt : 0 < k
    · obtain ⟨m, rfl⟩ : ∃ m : Nat, k = m + 1 := ⟨k - 1, by omega⟩
      obtain rfl : z = (m : Int) := by omega
      clear hz
      go_wp2_with fail
      refine ((sift_any HS.out HZ.out cap (lo := m) (hi := L) (f := a) (by omega) (by omega) hd)).mono ?_
      rintro e w' ⟨rfl, hs, hk2⟩
      have HS3 := hid hs; have HK3 := hid (HK.out.trans hk2)
      clear hs hk2
      go_wp2
      go_roundw
      case rel => exact ⟨(m : Int) - 1, m, _, rfl, by omega, by omega, by rw [sift_size]; exact HZ.out, HS3.out, HK3.out, by rw [← HE.out, Go.Sort.heapBuild]⟩
      case measure => (simp [intOf]; try omega)
    · obtain rfl : k = 0 := by omega
      obtain rfl : z = -1 := by omega
      clear hz
      go_wp2_with fail
      have HB : Hid (dk = Go.Sort.heapBuild ltInt L a (M + 1) d) := by rw [← HE.out, Go.Sort.heapBuild]; exact rfl
      go_loopw [10] (fun i wr => ∃ (z : Int) (k : Nat) (dp : Array Int), i = .int .i64 z ∧ z + 1 = (k : Int) ∧ k ≤ L ∧ dp.size = N ∧ Srt wr g dp tl ∧ Kept (fun k => k = g) w wr ∧ Go.Sort.heapPop ltInt a k dp = Go.Sort.heapSort ltInt d a b) (fun i _ => (intOf i + 1).toNat)
      case atStart => exact ⟨(L : Int) - 1, L, dk, rfl, by omega, Nat.le_refl _, HZ.out, HS.out, HK.out, by rw [hdef.out, ← HB.out]⟩
      case round =>
        rename World => wB
        obtain ⟨z, k, dp, rfl, hz, hk, hsz, hs, hkp, heq⟩ := hrel
        have HS2 := hid hs; have HK2 := hid hkp; have HE2 := hid heq; have HZ2 := hid hsz
        clear hs hkp heq HS HK HE
        by_cases hlt : 0 < k
        · obtain ⟨m, rfl⟩ : ∃ m : Nat, k = m + 1 := ⟨k - 1, by omega⟩
          obtain rfl : z = (m : Int) := by omega
          obtain ⟨p, hp⟩ : ∃ p, p = a + m := ⟨_, rfl⟩
          have e1 : (a : Int) + (m : Int) = (p : Int) := by omega
          have hpN : p < N := by omega
          have HP := hid hp
          have c0 := HS2.out.cell (i := a) (by omega)
          have c1 := HS2.out.cell (i := p) (by omega)
          have f0 := HS2.out.free a
          have f1 := HS2.out.free p
          have haN : a < N := by omega
          clear hz hp
          obtain ⟨v', c2⟩ : ∃ v', (wB.setCell ⟨g, a, none⟩ (.int .u32 (nt dp p))).cell? ⟨g, p, none⟩ = some v' := ⟨_, (HS2.out.put a (nt dp p) (by omega)).cell (i := p) (by simp; omega)⟩
          go_wp2_with fail
          go_region
          obtain ⟨h1, h2⟩ := HS2.out.swapd (i := a) (j := p) (by omega) (by omega)
          have HS5 := hid h1; have HK5 := hid (HK2.out.trans h2)
          obtain ⟨wD, hwD⟩ : ∃ wD, ((wB.setCell ⟨g, a, none⟩ (.int .u32 (nt dp p))).setCell ⟨g, p, none⟩ (.int .u32 (nt dp a))).drew = wD := ⟨_, rfl⟩
          rw [hwD] at HS5 HK5 ⊢
          clear h1 h2 c0 c1 c2 f0 f1 hwD
          have HZ5 := hid (show (swp dp a p).size = N by rw [size_swp]; exact HZ2.out)
          go_wp2_with fail
          refine ((sift_any HS5.out HZ5.out cap (lo := 0) (hi := m) (f := a) (by omega) (by omega) hd)).mono ?_
          rintro e w' ⟨rfl, hs, hk2⟩
          have HS3 := hid hs; have HK3 := hid (HK5.out.trans hk2)
          clear hs hk2
          go_wp2
          go_roundw
          case rel => exact ⟨(m : Int) - 1, m, _, rfl, by omega, by omega, by rw [sift_size]; exact HZ5.out, HS3.out, HK3.out, by rw [← HE2.out, Go.Sort.heapPop, ← HP.out]⟩
          case measure => (simp [intOf]; try omega)
        · obtain rfl : k = 0 := by omega
          obtain rfl : z = -1 := by omega
          clear hz
          go_wp2
          go_end0
          exact ⟨rfl, by rw [← HE2.out, Go.Sort.heapPop]; exact HS2.out, HK2.out⟩
end Go.Proofs.Ytpjhdpfaogdboaa
/- The scans; partialInsertionSort of fewer than 50; partitionEqual. -/
namespace Go.Proofs.Ytpjhdpfaogdboaa
set_option linter.unusedSimpArgs false
set_option linter.unusedVariables false
open Go.RowKit
open Go.Sort (swp ltInt)

section
variable {p : Int → Bool} {d : Array Int} {i j b : Nat}
theorem scanUp_yes (h : i ≤ j) (hp : p d[i]! = true) : Go.Sort.scanUp p d j i = Go.Sort.scanUp p d j (i + 1) := by
  rw [Go.Sort.scanUp, hp]; simp [h]
theorem scanUp_no (h : i ≤ j → p d[i]! = false) : Go.Sort.scanUp p d j i = i := by
  rw [Go.Sort.scanUp]
  split
  · rename_i hc
    simp only [Bool.and_eq_true, decide_eq_true_eq] at hc
    rw [h hc.1] at hc
    exact absurd hc.2 (by decide)
  · rfl
theorem scanDown_yes (hi : 1 ≤ i) (h : i ≤ j) (hp : p d[j]! = true) : Go.Sort.scanDown p d i j = Go.Sort.scanDown p d i (j - 1) := by
  cases j with
  | zero => omega
  | succ j => rw [Go.Sort.scanDown, hp]; simp [h]
theorem scanDown_no (h : i ≤ j → p d[j]! = false) : Go.Sort.scanDown p d i j = j := by
  cases j with
  | zero => rw [Go.Sort.scanDown]
  | succ j =>
    rw [Go.Sort.scanDown]
    split
    · rename_i hc
      simp only [Bool.and_eq_true, decide_eq_true_eq] at hc
      rw [h hc.1] at hc
      exact absurd hc.2 (by decide)
    · rfl
theorem scanSorted_yes (h : i < b) (hp : ls d i (i - 1) = false) : Go.Sort.scanSorted ltInt d b i = Go.Sort.scanSorted ltInt d b (i + 1) := by
  rw [Go.Sort.scanSorted, ls_eq, hp]; simp [h]
theorem scanSorted_no (h : i < b → ls d i (i - 1) = true) : Go.Sort.scanSorted ltInt d b i = i := by
  rw [Go.Sort.scanSorted, ls_eq]
  split
  · rename_i hc
    simp only [Bool.and_eq_true, decide_eq_true_eq, Bool.not_eq_true'] at hc
    rw [h hc.1] at hc
    exact absurd hc.2 (by decide)
  · rfl
end
set_option maxRecDepth 100000 in
set_option maxHeartbeats 1000000 in
theorem pins_any {w : World} {g : Nat} {d : Array Int} {tl : List Value} (h : Srt w g d tl) {N : Nat} (hN : d.size = N) (cap : Nat) {a b : Nat} (hab : a < b) (hb : b ≤ N) (hd : N < 50) :
    Calls Try.prog 81 #[.slice (some ⟨g, 0, none⟩) N cap, .int .i64 a, .int .i64 b] w fun e w' => e = .returned (.bool (Go.Sort.partialInsertionSort ltInt d a b).2) ∧ (Go.Sort.partialInsertionSort ltInt d a b).1 = d ∧ Kept (fun _ => False) w w' := by
  have H := hid h; have HN := hid hN
  clear h hN
  have hdef : Hid (Go.Sort.partialInsertionSort ltInt d a b = (d, decide (Go.Sort.scanSorted ltInt d b (a + 1) = b))) := by
    refine hid ?_
    unfold Go.Sort.partialInsertionSort
    rw [Go.Sort.partialIns]
    simp only []
    split
    · rename_i h; rw [decide_eq_true h]
    · rename_i h; rw [if_pos (by omega), decide_eq_false h]
  go_enter Try.func81, Try.ntmps81
  go_wp2_with fail
  refine wp_loop_rounds 1 ?_
  rw [rounds_succ]
  go_wp2_with fail
  go_loopw [7] (fun i wr => ∃ k : Nat, i = .int .i64 k ∧ a + 1 ≤ k ∧ k ≤ b ∧ Srt wr g d tl ∧ Kept (fun _ => False) w wr ∧ Go.Sort.scanSorted ltInt d b k = Go.Sort.scanSorted ltInt d b (a + 1)) (fun i _ => b - (intOf i).toNat)
  case atStart => exact ⟨a + 1, by go_num, Nat.le_refl _, by omega, H.out, Kept.refl _ _, rfl⟩
  case round =>
    rename World => wA
    obtain ⟨k, rfl, hk, hkb, hs, hkp, heq⟩ := hrel
    have HS := hid hs; have HK := hid hkp; have HE := hid heq
    have HNN := HN.out
    clear hs hkp heq H
    by_cases hlt : k < b
    · obtain ⟨m, rfl⟩ : ∃ m, k = m + 1 := ⟨k - 1, by omega⟩
      have c0 := HS.out.cell (i := m + 1) (by omega)
      have c1 := HS.out.cell (i := m) (by omega)
      have hmN : m + 1 < N := by omega
      clear HNN
      have hdec : decide ((m : Int) + 1 < (b : Int)) = true := by simp; omega
      have hne : ((m : Int) + 1 == (b : Int)) = false := by simp; omega
      have h50 : (b : Int) - (a : Int) < 50 := by omega
      obtain ⟨t, ht⟩ : ∃ t, ls d (m + 1) m = t := ⟨_, rfl⟩
      have HT := hid ht; clear ht
      go_wp2_with fail
      go_quiet ((go_at_call 82; exact Calls.quiet_of_same (less_any _ _ _ _)))
      rw [HT.out]
      cases t with
      | true =>
        go_wp2
        go_ret
        rw [hdef.out]
        refine ⟨ret_bool (Eq.symm ?_), rfl, HK.out.trans (kept_drewN _ nq)⟩
        rw [decide_eq_false_iff_not, ← HE.out, scanSorted_no (fun _ => by simpa using HT.out)]
        omega
      | false =>
        go_wp2
        go_roundw
        case rel => exact ⟨m + 1 + 1, by go_num, by omega, by omega, HS.out.drewN nq, HK.out.trans (kept_drewN _ nq), by rw [← HE.out, ← scanSorted_yes hlt (by simpa using HT.out)]⟩
        case measure => (simp [intOf]; try omega)
    · obtain rfl : k = b := by omega
      clear HNN
      have hdec : decide ((k : Int) < (k : Int)) = false := by simp
      have hne : ((k : Int) == (k : Int)) = true := by simp
      go_wp2_with fail
      go_quiet ((go_at_call 82; exact Calls.quiet_of_same (less_any _ _ _ _)))
      go_wp2
      go_ret
      rw [hdef.out]
      refine ⟨ret_bool (Eq.symm ?_), rfl, HK.out.trans (kept_drewN _ nq)⟩
      rw [decide_eq_true_eq, ← HE.out, scanSorted_no (fun h => by omega)]
theorem partEq_step {a i j i2 j2 : Nat} {d : Array Int} (h1 : Go.Sort.scanUp (fun x => !ltInt d[a]! x) d j i = i2) (h2 : Go.Sort.scanDown (fun x => ltInt d[a]! x) d i2 j = j2) (hi : i ≤ i2) (hj : j2 ≤ j) :
    Go.Sort.partEqLoop ltInt a i j d = if i2 > j2 then (i2, d) else Go.Sort.partEqLoop ltInt a (i2 + 1) (j2 - 1) (swp d i2 j2) := by
  rw [Go.Sort.partEqLoop, h1, h2]
  by_cases h : i2 > j2
  · rw [if_pos h, if_pos h]
  · rw [if_neg h, if_neg h, dif_pos (by omega)]
set_option maxRecDepth 100000 in
set_option maxHeartbeats 2000000 in
theorem peq_any {w : World} {g : Nat} {d : Array Int} {tl : List Value} (h : Srt w g d tl) {N : Nat} (hN : d.size = N) (cap : Nat) {a b pv : Nat} (hap : a ≤ pv) (hpb : pv < b) (hb : b ≤ N) (hd : N < 50) :
    Calls Try.prog 83 #[.slice (some ⟨g, 0, none⟩) N cap, .int .i64 a, .int .i64 b, .int .i64 pv] w fun e w' => e = .returned (.int .i64 (Go.Sort.partitionEqual ltInt d a b pv).1) ∧ Srt w' g (Go.Sort.partitionEqual ltInt d a b pv).2 tl ∧ Kept (fun k => k = g) w w' := by
  have H := hid h; have HN := hid hN
  have c0 := h.cell (i := a) (by omega)
  have c1 := h.cell (i := pv) (by omega)
  have f0 := h.free a
  have f1 := h.free pv
  have haN : a < N ∧ pv < N := by omega
  obtain ⟨v', c2⟩ : ∃ v', (w.setCell ⟨g, a, none⟩ (.int .u32 (nt d pv))).cell? ⟨g, pv, none⟩ = some v' := ⟨_, (h.put a (nt d pv) (by omega)).cell (i := pv) (by simp; omega)⟩
  clear h hN
  go_enter Try.func83, Try.ntmps83
  go_wp2_with fail
  go_region
  obtain ⟨h1, h2⟩ := H.out.swapd (i := a) (j := pv) (by have := HN.out; omega) (by have := HN.out; omega)
  have HS := hid h1; have HK := hid h2
  have HZ := hid (show (swp d a pv).size = N by rw [size_swp]; exact HN.out)
  have hdef : Hid (Go.Sort.partitionEqual ltInt d a b pv = Go.Sort.partEqLoop ltInt a (a + 1) (b - 1) (swp d a pv)) := hid rfl
  obtain ⟨d1, hd1⟩ : ∃ d1, swp d a pv = d1 := ⟨_, rfl⟩
  obtain ⟨w1, hw1⟩ : ∃ w1, ((w.setCell ⟨g, a, none⟩ (.int .u32 (nt d pv))).setCell ⟨g, pv, none⟩ (.int .u32 (nt d a))).drew = w1 := ⟨_, rfl⟩
  rw [hw1] at HS HK ⊢
  rw [hd1] at HS HZ hdef
  clear h1 h2 c0 c1 c2 f0 f1 hw1 hd1 H HN
  obtain ⟨q, hq⟩ : ∃ q, b = q + 1 := ⟨b - 1, by omega⟩
  have HQ := hid hq
  have hqb : q < b ∧ q < N ∧ a ≤ q := by omega
  have e1 : (b : Int) - 1 = (q : Int) := by omega
  clear hq
  go_wp2_with fail
  clear e1
  go_loopw [9, 10] (fun i j wr => ∃ (k m : Nat) (dk : Array Int), i = .int .i64 k ∧ j = .int .i64 m ∧ a + 1 ≤ k ∧ k ≤ m + 1 ∧ m ≤ q ∧ dk.size = N ∧ Srt wr g dk tl ∧ Kept (fun k => k = g) w wr ∧ Go.Sort.partEqLoop ltInt a k m dk = Go.Sort.partitionEqual ltInt d a b pv) (fun i j _ => N + (intOf j).toNat - (intOf i).toNat)
  case atStart => exact ⟨a + 1, q, d1, by go_num, rfl, Nat.le_refl _, by omega, Nat.le_refl _, HZ.out, HS.out, HK.out, by rw [hdef.out, HQ.out]; rfl⟩
  case round =>
    rename World => wA
    obtain ⟨k, m, dk, rfl, rfl, hk, hkm, hmq, hsz, hs, hkp, heq⟩ := hrel
    have HS1 := hid hs; have HK1 := hid hkp; have HE := hid heq; have HZ1 := hid hsz
    clear hs hkp heq hsz HS HK HZ hdef
    go_wp2_with fail
    go_loopw [9] (fun i wr => ∃ u : Nat, i = .int .i64 u ∧ k ≤ u ∧ u ≤ m + 1 ∧ Srt wr g dk tl ∧ Kept (fun _ => False) wA wr ∧ Go.Sort.scanUp (fun x => !ltInt dk[a]! x) dk m u = Go.Sort.scanUp (fun x => !ltInt dk[a]! x) dk m k) (fun i _ => m + 1 - (intOf i).toNat)
    case atStart => exact ⟨k, rfl, Nat.le_refl _, hkm, HS1.out, Kept.refl _ _, rfl⟩
    case round =>
      rename World => wB
      obtain ⟨u, rfl, hku, hum, hs, hkp, heq⟩ := hrel
      have HS2 := hid hs; have HK2 := hid hkp; have HE2 := hid heq
      clear hs hkp heq
      have hZ := HZ1.out
      by_cases hlt : u ≤ m
      · have c0 := HS2.out.cell (i := a) (by omega)
        have c1 := HS2.out.cell (i := u) (by omega)
        have huN : u < N := by omega
        clear hZ
        have hdec : decide ((u : Int) ≤ (m : Int)) = true := by simp; omega
        obtain ⟨t, ht⟩ : ∃ t, ls dk a u = t := ⟨_, rfl⟩
        have HT := hid ht; clear ht
        go_wp2_with fail
        go_quiet ((go_at_call 82; exact Calls.quiet_of_same (less_any _ _ _ _)))
        rw [HT.out]
        clear c0 c1
        have HS3 := hid (HS2.out.drewN nq)
        have HK3 := hid (HK2.out.trans (kept_drewN wB nq))
        obtain ⟨wC, hwC⟩ : ∃ wC, wB.drewN nq = wC := ⟨_, rfl⟩
        rw [hwC] at HS3 HK3 ⊢
        clear hwC
        cases t with
        | false =>
          go_wp2
          go_roundw
          case rel => exact ⟨u + 1, by go_num, by omega, by omega, HS3.out, HK3.out, by rw [← HE2.out, ← scanUp_yes hlt (by rw [ls_eq, HT.out]; rfl)]⟩
          case measure => (simp [intOf]; try omega)
        | true =>
          have HU := hid (show Go.Sort.scanUp (fun x => !ltInt dk[a]! x) dk m k = u by rw [← HE2.out, scanUp_no (fun _ => by rw [ls_eq, HT.out]; rfl)])
          go_wp2_with fail
          go_loopw [10] (fun j wr => ∃ v : Nat, j = .int .i64 v ∧ u ≤ v + 1 ∧ v ≤ m ∧ Srt wr g dk tl ∧ Kept (fun _ => False) wA wr ∧ Go.Sort.scanDown (fun x => ltInt dk[a]! x) dk u v = Go.Sort.scanDown (fun x => ltInt dk[a]! x) dk u m) (fun j _ => (intOf j).toNat)
          case atStart => exact ⟨m, rfl, hum, Nat.le_refl _, HS3.out, HK3.out, rfl⟩
          case round =>
            rename World => wD
            obtain ⟨v, rfl, huv, hvm, hs, hkp, heq⟩ := hrel
            have HS4 := hid hs; have HK4 := hid hkp; have HE4 := hid heq
            clear hs hkp heq HS3 HK3 HS2 HK2 HE2
            have hZ := HZ1.out
            by_cases hlv : u ≤ v
            · have c0 := HS4.out.cell (i := a) (by omega)
              have c1 := HS4.out.cell (i := v) (by omega)
              have hvN : v < N := by omega
              clear hZ
              have hdec : decide ((u : Int) ≤ (v : Int)) = true := by simp; omega
              obtain ⟨t, ht⟩ : ∃ t, ls dk a v = t := ⟨_, rfl⟩
              have HT4 := hid ht; clear ht
              go_wp2_with fail
              go_quiet ((go_at_call 82; exact Calls.quiet_of_same (less_any _ _ _ _)))
              rw [HT4.out]
              clear c0 c1
              have HS5 := hid (HS4.out.drewN nq)
              have HK5 := hid (HK4.out.trans (kept_drewN wD nq))
              obtain ⟨wE, hwE⟩ : ∃ wE, wD.drewN nq = wE := ⟨_, rfl⟩
              rw [hwE] at HS5 HK5 ⊢
              clear hwE
              cases t with
              | true =>
                obtain ⟨z, hz⟩ : ∃ z : Nat, v = z + 1 := ⟨v - 1, by omega⟩
                subst hz
                go_wp2
                go_roundw
                case rel => exact ⟨z, by go_num, by omega, by omega, HS5.out, HK5.out, by rw [← HE4.out, scanDown_yes (by omega) hlv (by rw [ls_eq, HT4.out])]; rfl⟩
                case measure => (simp [intOf]; try omega)
              | false =>
                have HV := hid (show Go.Sort.scanDown (fun x => ltInt dk[a]! x) dk u m = v by rw [← HE4.out, scanDown_no (fun _ => by rw [ls_eq, HT4.out])])
                have HP := hid (partEq_step HU.out HV.out hku hvm)
                have hne : u < v := by
                  rcases Nat.lt_or_ge u v with h | h
                  · exact h
                  · have e : u = v := by omega
                    have h1 := HT.out; rw [e, HT4.out] at h1; cases h1
                have c0 := HS5.out.cell (i := u) (by have := HZ1.out; omega)
                have c1 := HS5.out.cell (i := v) (by have := HZ1.out; omega)
                have f0 := HS5.out.free u
                have f1 := HS5.out.free v
                have huN : u < N := by omega
                obtain ⟨v', c2⟩ : ∃ v', (wE.setCell ⟨g, u, none⟩ (.int .u32 (nt dk v))).cell? ⟨g, v, none⟩ = some v' := ⟨_, (HS5.out.put u (nt dk v) (by have := HZ1.out; omega)).cell (i := v) (by simp; have := HZ1.out; omega)⟩
                obtain ⟨z, hz⟩ : ∃ z : Nat, v = z + 1 := ⟨v - 1, by omega⟩
                have hgt : decide ((v : Int) < (u : Int)) = false := by simp; omega
                have hvz : (v : Int) - 1 = (z : Int) := by omega
                have HVZ := hid hz
                clear hz
                go_wp2_with fail
                go_region
                obtain ⟨h1, h2⟩ := HS5.out.swapd (i := u) (j := v) (by have := HZ1.out; omega) (by have := HZ1.out; omega)
                have HS6 := hid h1; have HK6 := hid ((HK1.out.trans (HK5.out.mono (fun _ _ h => h.elim))).trans h2)
                clear h1 h2 c0 c1 c2 f0 f1
                go_wp2
                go_roundw
                case rel => exact ⟨u + 1, z, _, by go_num, rfl, by omega, by have := HVZ.out; omega, by have := HVZ.out; omega, by rw [size_swp]; exact HZ1.out, HS6.out, HK6.out, by rw [← HE.out, HP.out, if_neg (by omega), HVZ.out]; rfl⟩
                case measure => (have := HVZ.out; simp [intOf]; try omega)
            · obtain ⟨u2, hu2⟩ : ∃ u2, v + 1 = u2 := ⟨_, rfl⟩
              have hvu : u = v + 1 := by omega
              have HVU := hid hvu
              clear hZ hvu hu2
              have hdec : decide ((u : Int) ≤ (v : Int)) = false := by simp; omega
              have hgt : decide ((v : Int) < (u : Int)) = true := by simp; omega
              have HV := hid (show Go.Sort.scanDown (fun x => ltInt dk[a]! x) dk u m = v by rw [← HE4.out, scanDown_no (fun h => by omega)])
              have HP := hid (partEq_step HU.out HV.out hku hvm)
              go_wp2_with fail
              go_quiet ((go_at_call 82; exact Calls.quiet_of_same (less_any _ _ _ _)))
              go_wp2
              go_ret
              rw [← HE.out, HP.out, if_pos (by omega)]
              exact ⟨rfl, HS4.out.drewN nq, (HK1.out.trans (HK4.out.mono (fun _ _ h => h.elim))).trans (kept_drewN _ nq)⟩
      · clear hZ
        have hdec : decide ((u : Int) ≤ (m : Int)) = false := by simp; omega
        go_wp2_with fail
        go_quiet ((go_at_call 82; exact Calls.quiet_of_same (less_any _ _ _ _)))
        have HS3 := hid (HS2.out.drewN nq)
        have HK3 := hid (HK2.out.trans (kept_drewN wB nq))
        obtain ⟨wC, hwC⟩ : ∃ wC, wB.drewN nq = wC := ⟨_, rfl⟩
        rw [hwC] at HS3 HK3 ⊢
        clear hwC
        have HU := hid (show Go.Sort.scanUp (fun x => !ltInt dk[a]! x) dk m k = u by rw [← HE2.out, scanUp_no (fun h => by omega)])
        go_wp2_with fail
        go_loopw [10] (fun j wr => ∃ v : Nat, j = .int .i64 v ∧ u ≤ v + 1 ∧ v ≤ m ∧ Srt wr g dk tl ∧ Kept (fun _ => False) wA wr ∧ Go.Sort.scanDown (fun x => ltInt dk[a]! x) dk u v = Go.Sort.scanDown (fun x => ltInt dk[a]! x) dk u m) (fun j _ => (intOf j).toNat)
        case atStart => exact ⟨m, rfl, hum, Nat.le_refl _, HS3.out, HK3.out, rfl⟩
        case round =>
          rename World => wD
          obtain ⟨v, rfl, huv, hvm, hs, hkp, heq⟩ := hrel
          have HS4 := hid hs; have HK4 := hid hkp; have HE4 := hid heq
          clear hs hkp heq HS3 HK3 HS2 HK2 HE2
          have hZ := HZ1.out
          have hlv : ¬ u ≤ v := by omega
          obtain ⟨u2, hu2⟩ : ∃ u2, v + 1 = u2 := ⟨_, rfl⟩
          have hvu : u = v + 1 := by omega
          have HVU := hid hvu
          clear hZ hvu hu2
          have hdec : decide ((u : Int) ≤ (v : Int)) = false := by simp; omega
          have hgt : decide ((v : Int) < (u : Int)) = true := by simp; omega
          have HV := hid (show Go.Sort.scanDown (fun x => ltInt dk[a]! x) dk u m = v by rw [← HE4.out, scanDown_no (fun h => by omega)])
          have HP := hid (partEq_step HU.out HV.out hku hvm)
          go_wp2_with fail
          go_quiet ((go_at_call 82; exact Calls.quiet_of_same (less_any _ _ _ _)))
          go_wp2
          go_ret
          rw [← HE.out, HP.out, if_pos (by omega)]
          exact ⟨rfl, HS4.out.drewN nq, (HK1.out.trans (HK4.out.mono (fun _ _ h => h.elim))).trans (kept_drewN _ nq)⟩
end Go.Proofs.Ytpjhdpfaogdboaa
/- partition (printed by tools/part.py). -/
namespace Go.Proofs.Ytpjhdpfaogdboaa
set_option linter.unusedSimpArgs false
set_option linter.unusedVariables false
open Go.RowKit
open Go.Sort (swp ltInt)

theorem part_step {a i j i2 j2 : Nat} {d : Array Int} (h1 : Go.Sort.scanUp (fun x => ltInt x d[a]!) d j i = i2) (h2 : Go.Sort.scanDown (fun x => !ltInt x d[a]!) d i2 j = j2) (hi : i ≤ i2) (hj : j2 ≤ j) :
    Go.Sort.partLoop ltInt a i j d = if i2 > j2 then (j2, d) else Go.Sort.partLoop ltInt a (i2 + 1) (j2 - 1) (swp d i2 j2) := by
  rw [Go.Sort.partLoop, h1, h2]
  by_cases h : i2 > j2
  · rw [if_pos h, if_pos h]
  · rw [if_neg h, if_neg h, dif_pos (by omega)]
theorem part_def {a b pv q i j : Nat} {d d1 : Array Int} {r : Nat × Bool × Array Int} (hr : Go.Sort.partition ltInt d a b pv = r) (hd : swp d a pv = d1) (hq : b = q + 1) (h1 : Go.Sort.scanUp (fun x => ltInt x d1[a]!) d1 q (a + 1) = i) (h2 : Go.Sort.scanDown (fun x => !ltInt x d1[a]!) d1 i q = j) :
    r = if i > j then (j, true, swp d1 j a) else ((Go.Sort.partLoop ltInt a (i + 1) (j - 1) (swp d1 i j)).1, false, swp (Go.Sort.partLoop ltInt a (i + 1) (j - 1) (swp d1 i j)).2 (Go.Sort.partLoop ltInt a (i + 1) (j - 1) (swp d1 i j)).1 a) := by
  subst hq
  rw [← hr]
  unfold Go.Sort.partition
  simp only [hd, Nat.add_sub_cancel, h1, h2]
set_option maxRecDepth 100000 in
set_option maxHeartbeats 4000000 in
theorem part_any {w : World} {g : Nat} {d : Array Int} {tl : List Value} (h : Srt w g d tl) {N : Nat} (hN : d.size = N) (cap : Nat) {a b pv : Nat} (hap : a ≤ pv) (hpb : pv < b) (hb : b ≤ N) (hd : N < 50) :
    Calls Try.prog 84 #[.slice (some ⟨g, 0, none⟩) N cap, .int .i64 a, .int .i64 b, .int .i64 pv] w fun e w' => e = .returned (.tuple #[.int .i64 (Go.Sort.partition ltInt d a b pv).1, .bool (Go.Sort.partition ltInt d a b pv).2.1]) ∧ Srt w' g (Go.Sort.partition ltInt d a b pv).2.2 tl ∧ Kept (fun k => k = g) w w' := by
  have HSw := hid h; have HZd := hid hN
  have haN : a < N ∧ pv < N := by omega
  clear h hN
  obtain ⟨q, hq⟩ : ∃ q, b = q + 1 := ⟨b - 1, by omega⟩
  have HQ := hid hq
  have hqb : q < b ∧ q < N ∧ a ≤ q := by omega
  have e1 : (b : Int) - 1 = (q : Int) := by omega
  clear hq
  go_enter Try.func84, Try.ntmps84
  have c0 := HSw.out.cell (i := a) (by have := HZd.out; omega)
  have c1 := HSw.out.cell (i := pv) (by have := HZd.out; omega)
  have f0 := HSw.out.free a
  have f1 := HSw.out.free pv
  obtain ⟨v', c2⟩ : ∃ v', (w.setCell ⟨g, a, none⟩ (.int .u32 (nt d pv))).cell? ⟨g, pv, none⟩ = some v' := ⟨_, (HSw.out.put a (nt d pv) (by have := HZd.out; omega)).cell (i := pv) (by simp; have := HZd.out; omega)⟩
  go_wp2_with fail
  go_region
  obtain ⟨h1, h2⟩ := HSw.out.swapd (i := a) (j := pv) (by have := HZd.out; omega) (by have := HZd.out; omega)
  have HSw1 := hid h1; have HKw1 := hid ((Kept.refl (fun k => k = g) w).trans h2)
  have HZd0 := hid (show (swp d a pv).size = N by rw [size_swp]; exact HZd.out)
  obtain ⟨w1, ho⟩ : ∃ x, ((w.setCell ⟨g, a, none⟩ (.int .u32 (nt d pv))).setCell ⟨g, pv, none⟩ (.int .u32 (nt d a))).drew = x := ⟨_, rfl⟩
  rw [ho] at HSw1 HKw1 ⊢
  clear h1 h2 c0 c1 c2 f0 f1 ho
  obtain ⟨d1, hd1⟩ : ∃ x, swp d a pv = x := ⟨_, rfl⟩
  rw [hd1] at HSw1 HZd0
  have HD1 := hid hd1; have HZd1 := hid HZd0.out
  clear hd1 HZd0
  go_wp2_with fail
  clear e1
  have hk1 : a + 1 ≤ q + 1 := by omega
  go_wp2_with fail
  go_loopw [10] (fun i wr => ∃ u : Nat, i = .int .i64 u ∧ (a + 1) ≤ u ∧ u ≤ q + 1 ∧ Srt wr g d1 tl ∧ Kept (fun _ => False) w1 wr ∧ Go.Sort.scanUp (fun x => ltInt x d1[a]!) d1 q u = Go.Sort.scanUp (fun x => ltInt x d1[a]!) d1 q (a + 1)) (fun i _ => q + 1 - (intOf i).toNat)
  case atStart => exact ⟨(a + 1), by first | rfl | go_num, Nat.le_refl _, by omega, HSw1.out, Kept.refl _ _, rfl⟩
  case round =>
    rename World => wu1
    obtain ⟨u1, rfl, hlu1, huh1, hs, hkp, heq⟩ := hrel
    have HSu1 := hid hs; have HKu1 := hid hkp; have HEu1 := hid heq
    clear hs hkp heq HSw1
    by_cases hlt1 : u1 ≤ q
    · have c0 := HSu1.out.cell (i := a) (by have := HZd1.out; omega)
      have c1 := HSu1.out.cell (i := u1) (by have := HZd1.out; omega)
      have huN1 : u1 < N := by omega
      have hdec : decide ((u1 : Int) ≤ (q : Int)) = true := by simp; omega
      obtain ⟨t, ht⟩ : ∃ t, ls d1 u1 a = t := ⟨_, rfl⟩
      have HTu1 := hid ht; clear ht
      go_wp2_with fail
      go_quiet ((go_at_call 82; exact Calls.quiet_of_same (less_any _ _ _ _)))
      rw [HTu1.out]
      clear c0 c1 hdec
      have HSx1 := hid (HSu1.out.drewN nq)
      have HKx1 := hid (HKu1.out.trans (kept_drewN wu1 nq))
      obtain ⟨x1, hx⟩ : ∃ x, wu1.drewN nq = x := ⟨_, rfl⟩
      rw [hx] at HSx1 HKx1 ⊢
      clear hx HSu1 HKu1
      cases t with
      | true =>
        go_wp2
        go_roundw
        case rel => exact ⟨u1 + 1, by go_num, by omega, by omega, HSx1.out, HKx1.out, by rw [← HEu1.out, ← scanUp_yes hlt1 (by rw [ls_eq, HTu1.out])]⟩
        case measure => (simp [intOf]; try omega)
      | false =>
        have HU1 := hid (show Go.Sort.scanUp (fun x => ltInt x d1[a]!) d1 q (a + 1) = u1 by rw [← HEu1.out, scanUp_no (fun _ => by rw [ls_eq, HTu1.out])])
        go_wp2_with fail
        go_loopw [11] (fun j wr => ∃ v : Nat, j = .int .i64 v ∧ u1 ≤ v + 1 ∧ v ≤ q ∧ Srt wr g d1 tl ∧ Kept (fun _ => False) x1 wr ∧ Go.Sort.scanDown (fun x => !ltInt x d1[a]!) d1 u1 v = Go.Sort.scanDown (fun x => !ltInt x d1[a]!) d1 u1 q) (fun j _ => (intOf j).toNat)
        case atStart => exact ⟨q, rfl, by omega, Nat.le_refl _, HSx1.out, Kept.refl _ _, rfl⟩
        case round =>
          rename World => wv2
          obtain ⟨v2, rfl, huv2, hvh2, hs, hkp, heq⟩ := hrel
          have HSv2 := hid hs; have HKv2 := hid hkp; have HEv2 := hid heq
          clear hs hkp heq HSx1
          by_cases hlv2 : u1 ≤ v2
          · have c0 := HSv2.out.cell (i := a) (by have := HZd1.out; omega)
            have c1 := HSv2.out.cell (i := v2) (by have := HZd1.out; omega)
            have hvN2 : v2 < N := by omega
            have hdec : decide ((u1 : Int) ≤ (v2 : Int)) = true := by simp; omega
            obtain ⟨t, ht⟩ : ∃ t, ls d1 v2 a = t := ⟨_, rfl⟩
            have HTv2 := hid ht; clear ht
            go_wp2_with fail
            go_quiet ((go_at_call 82; exact Calls.quiet_of_same (less_any _ _ _ _)))
            rw [HTv2.out]
            clear c0 c1 hdec
            have HSy2 := hid (HSv2.out.drewN nq)
            have HKy2 := hid (HKv2.out.trans (kept_drewN wv2 nq))
            obtain ⟨y2, hy⟩ : ∃ y, wv2.drewN nq = y := ⟨_, rfl⟩
            rw [hy] at HSy2 HKy2 ⊢
            clear hy HSv2 HKv2
            cases t with
            | false =>
              obtain ⟨z, hz⟩ : ∃ z : Nat, v2 = z + 1 := ⟨v2 - 1, by omega⟩
              subst hz
              go_wp2
              go_roundw
              case rel => exact ⟨z, by go_num, by omega, by omega, HSy2.out, HKy2.out, by rw [← HEv2.out, scanDown_yes (by omega) hlv2 (by rw [ls_eq, HTv2.out]; rfl)]; rfl⟩
              case measure => (simp [intOf]; try omega)
            | true =>
              have HV2 := hid (show Go.Sort.scanDown (fun x => !ltInt x d1[a]!) d1 u1 q = v2 by rw [← HEv2.out, scanDown_no (fun _ => by rw [ls_eq, HTv2.out]; rfl)])
              have hne : u1 < v2 := by
                rcases Nat.lt_or_ge u1 v2 with h | h
                · exact h
                · have e : u1 = v2 := by omega
                  have h1 := HTu1.out; rw [e, HTv2.out] at h1; cases h1
              have hgt : decide ((v2 : Int) < (u1 : Int)) = false := by simp; omega
              obtain ⟨z, hz⟩ : ∃ z : Nat, v2 = z + 1 := ⟨v2 - 1, by omega⟩
              have hvz : (v2 : Int) - 1 = (z : Int) := by omega
              have hzb : u1 + 1 ≤ z + 1 ∧ z ≤ q := by omega
              have HVZ := hid hz
              clear hz
              have c0 := HSy2.out.cell (i := u1) (by have := HZd1.out; omega)
              have c1 := HSy2.out.cell (i := v2) (by have := HZd1.out; omega)
              have f0 := HSy2.out.free u1
              have f1 := HSy2.out.free v2
              obtain ⟨v', c2⟩ : ∃ v', (y2.setCell ⟨g, u1, none⟩ (.int .u32 (nt d1 v2))).cell? ⟨g, v2, none⟩ = some v' := ⟨_, (HSy2.out.put u1 (nt d1 v2) (by have := HZd1.out; omega)).cell (i := v2) (by simp; have := HZd1.out; omega)⟩
              go_wp2_with fail
              go_region
              obtain ⟨h1, h2⟩ := HSy2.out.swapd (i := u1) (j := v2) (by have := HZd1.out; omega) (by have := HZd1.out; omega)
              have HSwf := hid h1; have HKwf := hid ((HKw1.out.trans ((HKx1.out.trans HKy2.out).mono (fun _ _ h => h.elim))).trans h2)
              have HZdf := hid (show (swp d1 u1 v2).size = N by rw [size_swp]; exact HZd1.out)
              obtain ⟨wf, ho⟩ : ∃ x, ((y2.setCell ⟨g, u1, none⟩ (.int .u32 (nt d1 v2))).setCell ⟨g, v2, none⟩ (.int .u32 (nt d1 u1))).drew = x := ⟨_, rfl⟩
              rw [ho] at HSwf HKwf ⊢
              clear h1 h2 c0 c1 c2 f0 f1 ho
              obtain ⟨R, hR⟩ : ∃ R, Go.Sort.partLoop ltInt a (u1 + 1) z (swp d1 u1 v2) = R := ⟨_, rfl⟩
              have HR := hid hR
              have HDEF : Hid (Go.Sort.partition ltInt d a b pv = (R.1, false, swp R.2 R.1 a)) := by
                refine hid ?_
                rw [part_def rfl HD1.out HQ.out HU1.out HV2.out, if_neg (by omega)]
                rw [show v2 - 1 = z by have := HVZ.out; omega, hR]
              clear hR
              go_wp2_with fail
              go_loopw [10, 11] (fun i j wr => ∃ (k0 m0 : Nat) (dk : Array Int), i = .int .i64 k0 ∧ j = .int .i64 m0 ∧ a + 1 ≤ k0 ∧ k0 ≤ m0 + 1 ∧ m0 ≤ q ∧ dk.size = N ∧ Srt wr g dk tl ∧ Kept (fun k => k = g) w wr ∧ Go.Sort.partLoop ltInt a k0 m0 dk = R) (fun i j _ => N + (intOf j).toNat - (intOf i).toNat)
              case atStart => exact ⟨_, z, _, by go_num, rfl, by omega, by omega, by omega, HZdf.out, HSwf.out, HKwf.out, HR.out⟩
              case round =>
                rename World => wo
                obtain ⟨k0, m0, dk, rfl, rfl, hk0, hkm0, hmq0, hsz, hs, hkp, heq⟩ := hrel
                have HSwo := hid hs; have HKwo := hid hkp; have HEo := hid heq; have HZdk := hid hsz
                clear hs hkp heq hsz HSwf HKwf HR
                go_wp2_with fail
                go_loopw [10] (fun i wr => ∃ u : Nat, i = .int .i64 u ∧ k0 ≤ u ∧ u ≤ m0 + 1 ∧ Srt wr g dk tl ∧ Kept (fun _ => False) wo wr ∧ Go.Sort.scanUp (fun x => ltInt x dk[a]!) dk m0 u = Go.Sort.scanUp (fun x => ltInt x dk[a]!) dk m0 k0) (fun i _ => m0 + 1 - (intOf i).toNat)
                case atStart => exact ⟨k0, by first | rfl | go_num, Nat.le_refl _, by omega, HSwo.out, Kept.refl _ _, rfl⟩
                case round =>
                  rename World => wu4
                  obtain ⟨u4, rfl, hlu4, huh4, hs, hkp, heq⟩ := hrel
                  have HSu4 := hid hs; have HKu4 := hid hkp; have HEu4 := hid heq
                  clear hs hkp heq HSwo
                  by_cases hlt4 : u4 ≤ m0
                  · have c0 := HSu4.out.cell (i := a) (by have := HZdk.out; omega)
                    have c1 := HSu4.out.cell (i := u4) (by have := HZdk.out; omega)
                    have huN4 : u4 < N := by omega
                    have hdec : decide ((u4 : Int) ≤ (m0 : Int)) = true := by simp; omega
                    obtain ⟨t, ht⟩ : ∃ t, ls dk u4 a = t := ⟨_, rfl⟩
                    have HTu4 := hid ht; clear ht
                    go_wp2_with fail
                    go_quiet ((go_at_call 82; exact Calls.quiet_of_same (less_any _ _ _ _)))
                    rw [HTu4.out]
                    clear c0 c1 hdec
                    have HSx4 := hid (HSu4.out.drewN nq)
                    have HKx4 := hid (HKu4.out.trans (kept_drewN wu4 nq))
                    obtain ⟨x4, hx⟩ : ∃ x, wu4.drewN nq = x := ⟨_, rfl⟩
                    rw [hx] at HSx4 HKx4 ⊢
                    clear hx HSu4 HKu4
                    cases t with
                    | true =>
                      go_wp2
                      go_roundw
                      case rel => exact ⟨u4 + 1, by go_num, by omega, by omega, HSx4.out, HKx4.out, by rw [← HEu4.out, ← scanUp_yes hlt4 (by rw [ls_eq, HTu4.out])]⟩
                      case measure => (simp [intOf]; try omega)
                    | false =>
                      have HU4 := hid (show Go.Sort.scanUp (fun x => ltInt x dk[a]!) dk m0 k0 = u4 by rw [← HEu4.out, scanUp_no (fun _ => by rw [ls_eq, HTu4.out])])
                      go_wp2_with fail
                      go_loopw [11] (fun j wr => ∃ v : Nat, j = .int .i64 v ∧ u4 ≤ v + 1 ∧ v ≤ m0 ∧ Srt wr g dk tl ∧ Kept (fun _ => False) x4 wr ∧ Go.Sort.scanDown (fun x => !ltInt x dk[a]!) dk u4 v = Go.Sort.scanDown (fun x => !ltInt x dk[a]!) dk u4 m0) (fun j _ => (intOf j).toNat)
                      case atStart => exact ⟨m0, rfl, by omega, Nat.le_refl _, HSx4.out, Kept.refl _ _, rfl⟩
                      case round =>
                        rename World => wv5
                        obtain ⟨v5, rfl, huv5, hvh5, hs, hkp, heq⟩ := hrel
                        have HSv5 := hid hs; have HKv5 := hid hkp; have HEv5 := hid heq
                        clear hs hkp heq HSx4
                        by_cases hlv5 : u4 ≤ v5
                        · have c0 := HSv5.out.cell (i := a) (by have := HZdk.out; omega)
                          have c1 := HSv5.out.cell (i := v5) (by have := HZdk.out; omega)
                          have hvN5 : v5 < N := by omega
                          have hdec : decide ((u4 : Int) ≤ (v5 : Int)) = true := by simp; omega
                          obtain ⟨t, ht⟩ : ∃ t, ls dk v5 a = t := ⟨_, rfl⟩
                          have HTv5 := hid ht; clear ht
                          go_wp2_with fail
                          go_quiet ((go_at_call 82; exact Calls.quiet_of_same (less_any _ _ _ _)))
                          rw [HTv5.out]
                          clear c0 c1 hdec
                          have HSy5 := hid (HSv5.out.drewN nq)
                          have HKy5 := hid (HKv5.out.trans (kept_drewN wv5 nq))
                          obtain ⟨y5, hy⟩ : ∃ y, wv5.drewN nq = y := ⟨_, rfl⟩
                          rw [hy] at HSy5 HKy5 ⊢
                          clear hy HSv5 HKv5
                          cases t with
                          | false =>
                            obtain ⟨z, hz⟩ : ∃ z : Nat, v5 = z + 1 := ⟨v5 - 1, by omega⟩
                            subst hz
                            go_wp2
                            go_roundw
                            case rel => exact ⟨z, by go_num, by omega, by omega, HSy5.out, HKy5.out, by rw [← HEv5.out, scanDown_yes (by omega) hlv5 (by rw [ls_eq, HTv5.out]; rfl)]; rfl⟩
                            case measure => (simp [intOf]; try omega)
                          | true =>
                            have HV5 := hid (show Go.Sort.scanDown (fun x => !ltInt x dk[a]!) dk u4 m0 = v5 by rw [← HEv5.out, scanDown_no (fun _ => by rw [ls_eq, HTv5.out]; rfl)])
                            have hne : u4 < v5 := by
                              rcases Nat.lt_or_ge u4 v5 with h | h
                              · exact h
                              · have e : u4 = v5 := by omega
                                have h1 := HTu4.out; rw [e, HTv5.out] at h1; cases h1
                            have hgt : decide ((v5 : Int) < (u4 : Int)) = false := by simp; omega
                            have HP := hid (part_step HU4.out HV5.out hlu4 hvh5)
                            obtain ⟨z, hz⟩ : ∃ z : Nat, v5 = z + 1 := ⟨v5 - 1, by omega⟩
                            have hvz : (v5 : Int) - 1 = (z : Int) := by omega
                            have HVZ := hid hz
                            clear hz
                            have c0 := HSy5.out.cell (i := u4) (by have := HZdk.out; omega)
                            have c1 := HSy5.out.cell (i := v5) (by have := HZdk.out; omega)
                            have f0 := HSy5.out.free u4
                            have f1 := HSy5.out.free v5
                            obtain ⟨v', c2⟩ : ∃ v', (y5.setCell ⟨g, u4, none⟩ (.int .u32 (nt dk v5))).cell? ⟨g, v5, none⟩ = some v' := ⟨_, (HSy5.out.put u4 (nt dk v5) (by have := HZdk.out; omega)).cell (i := v5) (by simp; have := HZdk.out; omega)⟩
                            go_wp2_with fail
                            go_region
                            obtain ⟨h1, h2⟩ := HSy5.out.swapd (i := u4) (j := v5) (by have := HZdk.out; omega) (by have := HZdk.out; omega)
                            have HSwe5 := hid h1; have HKwe5 := hid ((HKwo.out.trans ((HKx4.out.trans HKy5.out).mono (fun _ _ h => h.elim))).trans h2)
                            have HZde5 := hid (show (swp dk u4 v5).size = N by rw [size_swp]; exact HZdk.out)
                            obtain ⟨we5, ho⟩ : ∃ x, ((y5.setCell ⟨g, u4, none⟩ (.int .u32 (nt dk v5))).setCell ⟨g, v5, none⟩ (.int .u32 (nt dk u4))).drew = x := ⟨_, rfl⟩
                            rw [ho] at HSwe5 HKwe5 ⊢
                            clear h1 h2 c0 c1 c2 f0 f1 ho
                            go_wp2
                            go_roundw
                            case rel => exact ⟨u4 + 1, z, _, by go_num, rfl, by omega, by have := HVZ.out; omega, by have := HVZ.out; omega, HZde5.out, HSwe5.out, HKwe5.out, by rw [← HEo.out, HP.out, if_neg (by omega), HVZ.out]; rfl⟩
                            case measure => (have := HVZ.out; simp [intOf]; try omega)
                        · have hno5 : ¬ u4 ≤ v5 := hlv5
                          have hdec : decide ((u4 : Int) ≤ (v5 : Int)) = false := by simp; omega
                          go_wp2_with fail
                          go_quiet ((go_at_call 82; exact Calls.quiet_of_same (less_any _ _ _ _)))
                          clear hdec
                          have HSy5 := hid (HSv5.out.drewN nq)
                          have HKy5 := hid (HKv5.out.trans (kept_drewN wv5 nq))
                          obtain ⟨y5, hy⟩ : ∃ y, wv5.drewN nq = y := ⟨_, rfl⟩
                          rw [hy] at HSy5 HKy5 ⊢
                          clear hy HSv5 HKv5
                          have HV5 := hid (show Go.Sort.scanDown (fun x => !ltInt x dk[a]!) dk u4 m0 = v5 by rw [← HEv5.out, scanDown_no (fun h => by omega)])
                          have hgt : decide ((v5 : Int) < (u4 : Int)) = true := by simp; omega
                          have HP := hid (part_step HU4.out HV5.out hlu4 hvh5)
                          have c0 := HSy5.out.cell (i := v5) (by have := HZdk.out; omega)
                          have c1 := HSy5.out.cell (i := a) (by have := HZdk.out; omega)
                          have f0 := HSy5.out.free v5
                          have f1 := HSy5.out.free a
                          obtain ⟨v', c2⟩ : ∃ v', (y5.setCell ⟨g, v5, none⟩ (.int .u32 (nt dk a))).cell? ⟨g, a, none⟩ = some v' := ⟨_, (HSy5.out.put v5 (nt dk a) (by have := HZdk.out; omega)).cell (i := a) (by simp; have := HZdk.out; omega)⟩
                          go_wp2_with fail
                          go_region
                          obtain ⟨h1, h2⟩ := HSy5.out.swapd (i := v5) (j := a) (by have := HZdk.out; omega) (by have := HZdk.out; omega)
                          have HSwe5 := hid h1; have HKwe5 := hid ((HKwo.out.trans ((HKx4.out.trans HKy5.out).mono (fun _ _ h => h.elim))).trans h2)
                          have HZde5 := hid (show (swp dk v5 a).size = N by rw [size_swp]; exact HZdk.out)
                          obtain ⟨we5, ho⟩ : ∃ x, ((y5.setCell ⟨g, v5, none⟩ (.int .u32 (nt dk a))).setCell ⟨g, a, none⟩ (.int .u32 (nt dk v5))).drew = x := ⟨_, rfl⟩
                          rw [ho] at HSwe5 HKwe5 ⊢
                          clear h1 h2 c0 c1 c2 f0 f1 ho
                          go_wp2
                          go_ret2
                          have he : Go.Sort.partLoop ltInt a k0 m0 dk = (v5, dk) := by rw [HP.out, if_pos (by omega)]
                          rw [HDEF.out, ← HEo.out, he]
                          exact ⟨rfl, HSwe5.out, HKwe5.out⟩
                  · have hdec : decide ((u4 : Int) ≤ (m0 : Int)) = false := by simp; omega
                    go_wp2_with fail
                    go_quiet ((go_at_call 82; exact Calls.quiet_of_same (less_any _ _ _ _)))
                    clear hdec
                    have HSx4 := hid (HSu4.out.drewN nq)
                    have HKx4 := hid (HKu4.out.trans (kept_drewN wu4 nq))
                    obtain ⟨x4, hx⟩ : ∃ x, wu4.drewN nq = x := ⟨_, rfl⟩
                    rw [hx] at HSx4 HKx4 ⊢
                    clear hx HSu4 HKu4
                    have HU4 := hid (show Go.Sort.scanUp (fun x => ltInt x dk[a]!) dk m0 k0 = u4 by rw [← HEu4.out, scanUp_no (fun h => by omega)])
                    go_wp2_with fail
                    go_loopw [11] (fun j wr => ∃ v : Nat, j = .int .i64 v ∧ u4 ≤ v + 1 ∧ v ≤ m0 ∧ Srt wr g dk tl ∧ Kept (fun _ => False) x4 wr ∧ Go.Sort.scanDown (fun x => !ltInt x dk[a]!) dk u4 v = Go.Sort.scanDown (fun x => !ltInt x dk[a]!) dk u4 m0) (fun j _ => (intOf j).toNat)
                    case atStart => exact ⟨m0, rfl, by omega, Nat.le_refl _, HSx4.out, Kept.refl _ _, rfl⟩
                    case round =>
                      rename World => wv6
                      obtain ⟨v6, rfl, huv6, hvh6, hs, hkp, heq⟩ := hrel
                      have HSv6 := hid hs; have HKv6 := hid hkp; have HEv6 := hid heq
                      clear hs hkp heq HSx4
                      · have hno6 : ¬ u4 ≤ v6 := by omega
                        have hdec : decide ((u4 : Int) ≤ (v6 : Int)) = false := by simp; omega
                        go_wp2_with fail
                        go_quiet ((go_at_call 82; exact Calls.quiet_of_same (less_any _ _ _ _)))
                        clear hdec
                        have HSy6 := hid (HSv6.out.drewN nq)
                        have HKy6 := hid (HKv6.out.trans (kept_drewN wv6 nq))
                        obtain ⟨y6, hy⟩ : ∃ y, wv6.drewN nq = y := ⟨_, rfl⟩
                        rw [hy] at HSy6 HKy6 ⊢
                        clear hy HSv6 HKv6
                        have HV6 := hid (show Go.Sort.scanDown (fun x => !ltInt x dk[a]!) dk u4 m0 = v6 by rw [← HEv6.out, scanDown_no (fun h => by omega)])
                        have hgt : decide ((v6 : Int) < (u4 : Int)) = true := by simp; omega
                        have HP := hid (part_step HU4.out HV6.out hlu4 hvh6)
                        have c0 := HSy6.out.cell (i := v6) (by have := HZdk.out; omega)
                        have c1 := HSy6.out.cell (i := a) (by have := HZdk.out; omega)
                        have f0 := HSy6.out.free v6
                        have f1 := HSy6.out.free a
                        obtain ⟨v', c2⟩ : ∃ v', (y6.setCell ⟨g, v6, none⟩ (.int .u32 (nt dk a))).cell? ⟨g, a, none⟩ = some v' := ⟨_, (HSy6.out.put v6 (nt dk a) (by have := HZdk.out; omega)).cell (i := a) (by simp; have := HZdk.out; omega)⟩
                        go_wp2_with fail
                        go_region
                        obtain ⟨h1, h2⟩ := HSy6.out.swapd (i := v6) (j := a) (by have := HZdk.out; omega) (by have := HZdk.out; omega)
                        have HSwe6 := hid h1; have HKwe6 := hid ((HKwo.out.trans ((HKx4.out.trans HKy6.out).mono (fun _ _ h => h.elim))).trans h2)
                        have HZde6 := hid (show (swp dk v6 a).size = N by rw [size_swp]; exact HZdk.out)
                        obtain ⟨we6, ho⟩ : ∃ x, ((y6.setCell ⟨g, v6, none⟩ (.int .u32 (nt dk a))).setCell ⟨g, a, none⟩ (.int .u32 (nt dk v6))).drew = x := ⟨_, rfl⟩
                        rw [ho] at HSwe6 HKwe6 ⊢
                        clear h1 h2 c0 c1 c2 f0 f1 ho
                        go_wp2
                        go_ret2
                        have he : Go.Sort.partLoop ltInt a k0 m0 dk = (v6, dk) := by rw [HP.out, if_pos (by omega)]
                        rw [HDEF.out, ← HEo.out, he]
                        exact ⟨rfl, HSwe6.out, HKwe6.out⟩
          · have hno2 : ¬ u1 ≤ v2 := hlv2
            have hdec : decide ((u1 : Int) ≤ (v2 : Int)) = false := by simp; omega
            go_wp2_with fail
            go_quiet ((go_at_call 82; exact Calls.quiet_of_same (less_any _ _ _ _)))
            clear hdec
            have HSy2 := hid (HSv2.out.drewN nq)
            have HKy2 := hid (HKv2.out.trans (kept_drewN wv2 nq))
            obtain ⟨y2, hy⟩ : ∃ y, wv2.drewN nq = y := ⟨_, rfl⟩
            rw [hy] at HSy2 HKy2 ⊢
            clear hy HSv2 HKv2
            have HV2 := hid (show Go.Sort.scanDown (fun x => !ltInt x d1[a]!) d1 u1 q = v2 by rw [← HEv2.out, scanDown_no (fun h => by omega)])
            have hgt : decide ((v2 : Int) < (u1 : Int)) = true := by simp; omega
            have c0 := HSy2.out.cell (i := v2) (by have := HZd1.out; omega)
            have c1 := HSy2.out.cell (i := a) (by have := HZd1.out; omega)
            have f0 := HSy2.out.free v2
            have f1 := HSy2.out.free a
            obtain ⟨v', c2⟩ : ∃ v', (y2.setCell ⟨g, v2, none⟩ (.int .u32 (nt d1 a))).cell? ⟨g, a, none⟩ = some v' := ⟨_, (HSy2.out.put v2 (nt d1 a) (by have := HZd1.out; omega)).cell (i := a) (by simp; have := HZd1.out; omega)⟩
            go_wp2_with fail
            go_region
            obtain ⟨h1, h2⟩ := HSy2.out.swapd (i := v2) (j := a) (by have := HZd1.out; omega) (by have := HZd1.out; omega)
            have HSwe2 := hid h1; have HKwe2 := hid ((HKw1.out.trans ((HKx1.out.trans HKy2.out).mono (fun _ _ h => h.elim))).trans h2)
            have HZde2 := hid (show (swp d1 v2 a).size = N by rw [size_swp]; exact HZd1.out)
            obtain ⟨we2, ho⟩ : ∃ x, ((y2.setCell ⟨g, v2, none⟩ (.int .u32 (nt d1 a))).setCell ⟨g, a, none⟩ (.int .u32 (nt d1 v2))).drew = x := ⟨_, rfl⟩
            rw [ho] at HSwe2 HKwe2 ⊢
            clear h1 h2 c0 c1 c2 f0 f1 ho
            go_wp2
            go_ret2
            rw [part_def rfl HD1.out HQ.out HU1.out HV2.out, if_pos (by omega)]
            exact ⟨rfl, HSwe2.out, HKwe2.out⟩
    · have hdec : decide ((u1 : Int) ≤ (q : Int)) = false := by simp; omega
      go_wp2_with fail
      go_quiet ((go_at_call 82; exact Calls.quiet_of_same (less_any _ _ _ _)))
      clear hdec
      have HSx1 := hid (HSu1.out.drewN nq)
      have HKx1 := hid (HKu1.out.trans (kept_drewN wu1 nq))
      obtain ⟨x1, hx⟩ : ∃ x, wu1.drewN nq = x := ⟨_, rfl⟩
      rw [hx] at HSx1 HKx1 ⊢
      clear hx HSu1 HKu1
      have HU1 := hid (show Go.Sort.scanUp (fun x => ltInt x d1[a]!) d1 q (a + 1) = u1 by rw [← HEu1.out, scanUp_no (fun h => by omega)])
      go_wp2_with fail
      go_loopw [11] (fun j wr => ∃ v : Nat, j = .int .i64 v ∧ u1 ≤ v + 1 ∧ v ≤ q ∧ Srt wr g d1 tl ∧ Kept (fun _ => False) x1 wr ∧ Go.Sort.scanDown (fun x => !ltInt x d1[a]!) d1 u1 v = Go.Sort.scanDown (fun x => !ltInt x d1[a]!) d1 u1 q) (fun j _ => (intOf j).toNat)
      case atStart => exact ⟨q, rfl, by omega, Nat.le_refl _, HSx1.out, Kept.refl _ _, rfl⟩
      case round =>
        rename World => wv3
        obtain ⟨v3, rfl, huv3, hvh3, hs, hkp, heq⟩ := hrel
        have HSv3 := hid hs; have HKv3 := hid hkp; have HEv3 := hid heq
        clear hs hkp heq HSx1
        · have hno3 : ¬ u1 ≤ v3 := by omega
          have hdec : decide ((u1 : Int) ≤ (v3 : Int)) = false := by simp; omega
          go_wp2_with fail
          go_quiet ((go_at_call 82; exact Calls.quiet_of_same (less_any _ _ _ _)))
          clear hdec
          have HSy3 := hid (HSv3.out.drewN nq)
          have HKy3 := hid (HKv3.out.trans (kept_drewN wv3 nq))
          obtain ⟨y3, hy⟩ : ∃ y, wv3.drewN nq = y := ⟨_, rfl⟩
          rw [hy] at HSy3 HKy3 ⊢
          clear hy HSv3 HKv3
          have HV3 := hid (show Go.Sort.scanDown (fun x => !ltInt x d1[a]!) d1 u1 q = v3 by rw [← HEv3.out, scanDown_no (fun h => by omega)])
          have hgt : decide ((v3 : Int) < (u1 : Int)) = true := by simp; omega
          have c0 := HSy3.out.cell (i := v3) (by have := HZd1.out; omega)
          have c1 := HSy3.out.cell (i := a) (by have := HZd1.out; omega)
          have f0 := HSy3.out.free v3
          have f1 := HSy3.out.free a
          obtain ⟨v', c2⟩ : ∃ v', (y3.setCell ⟨g, v3, none⟩ (.int .u32 (nt d1 a))).cell? ⟨g, a, none⟩ = some v' := ⟨_, (HSy3.out.put v3 (nt d1 a) (by have := HZd1.out; omega)).cell (i := a) (by simp; have := HZd1.out; omega)⟩
          go_wp2_with fail
          go_region
          obtain ⟨h1, h2⟩ := HSy3.out.swapd (i := v3) (j := a) (by have := HZd1.out; omega) (by have := HZd1.out; omega)
          have HSwe3 := hid h1; have HKwe3 := hid ((HKw1.out.trans ((HKx1.out.trans HKy3.out).mono (fun _ _ h => h.elim))).trans h2)
          have HZde3 := hid (show (swp d1 v3 a).size = N by rw [size_swp]; exact HZd1.out)
          obtain ⟨we3, ho⟩ : ∃ x, ((y3.setCell ⟨g, v3, none⟩ (.int .u32 (nt d1 a))).setCell ⟨g, a, none⟩ (.int .u32 (nt d1 v3))).drew = x := ⟨_, rfl⟩
          rw [ho] at HSwe3 HKwe3 ⊢
          clear h1 h2 c0 c1 c2 f0 f1 ho
          go_wp2
          go_ret2
          rw [part_def rfl HD1.out HQ.out HU1.out HV3.out, if_pos (by omega)]
          exact ⟨rfl, HSwe3.out, HKwe3.out⟩
end Go.Proofs.Ytpjhdpfaogdboaa
