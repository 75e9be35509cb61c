/- Texts of this claim, merged: C. -/
import Derived.BigQuiet
import Derived.Deep.QuietTactic
import Derived.Deep.RegionHeld3
import Derived.Test.YtaobioleodfafaaAp1
import Derived.Test.YtaobioleodfafaaAp2
import Derived.Test.YtaobioleodfafaaAp3
import Derived.Test.YtaobioleodfafaaAp4
import Derived.Test.YtaobioleodfafaaAp5
import Derived.Test.YtaobioleodfafaaAp6
import Derived.Test.YtaobioleodfafaaAp7
/- Begin. -/
namespace Go.Proofs.Ytaobioleodfafaa
open Go.RowKit
abbrev bcells (l : List Int) : List Value := l.map (.int .u8)
theorem pents_put {ns : List Int} {pb : Int → Nat} {v : Int} (h : v ∉ ns) (b : Nat) : lay (pents ns pb) v (ptr b) = pents (ns ++ [v]) (fun x => if x = v then b else pb x) := by
  rw [lay_new]
  · simp only [pents, List.map_append, List.map_cons, List.map_nil, if_true]
    congr 1
    apply List.map_congr_left
    intro x hx
    rw [if_neg (by rintro rfl; exact h hx)]
  · simp only [pents, List.map_map]
    have e : ((fun p : Int × Value => p.1) ∘ fun v => (v, ptr (pb v))) = id := rfl
    rw [e, List.map_id]
    exact h
/-- 'm[k] = v', the key is new: in every world where the map is the same -/
theorem MapT.lay_all {w : World} {t et : TypeId} {b : Nat} {L : List (Tx × Value)} (h : MapT w b L) (ht : Try.prog.underlying t = some (.map 28 et)) {k : Tx} (hl : lookT L k = none) :
    ∃ (es : Array MapEntry) (clock : Nat), ∀ (w' : World) (v : Value), w'.heap[b]? = w.heap[b]? → (Instr.mapUpdate t (.map (some b)) (txv k) v).run Try.prog w' = .ok () (ChangeMaps.setBlock w' b (.map (es.push ⟨txv k, v, clock⟩) (clock + 1))) ∧ MapT (ChangeMaps.setBlock w' b (.map (es.push ⟨txv k, v, clock⟩) (clock + 1))) b (L ++ [(k, v)]) := by
  obtain ⟨es, clock, hb, he, hn, hst0⟩ := h
  have h2 := lookT_lk L k 0
  rw [hl] at h2
  have h3 : lkT L k 0 = none := by cases h : lkT L k 0 <;> simp_all
  refine ⟨es, clock, fun w' v hw => ?_⟩
  have hb' := hw.trans hb
  have h1 := findKeyT (w := w') (k := k) es.toList L he
  have hck := fun e => tx_check k e w'
  rw [h3] at h1
  have hnk := (layT_new (v := v) L 0 h3).2
  refine ⟨?_, es.push ⟨txv k, v, clock⟩, clock + 1, ChangeMaps.heap_setBlock_same hb' _, ?_, ?_, ?_⟩
  · simp [Instr.mapUpdate, run_underlying ht, MapKept.run_getObj_map hb', hck, h1, MapKept.run_setObj_map _ hb', Result.andThen, ChangeMaps.setBlock]
  · simp [he]
  · rw [List.map_append, List.nodup_append]
    exact ⟨hn, by simp, fun a ha b hb e => by simp at hb; rw [e, hb] at ha; exact hnk ha⟩
  · refine MapKept.stamped_push hst0 (fun x hx e => ?_)
    have hm : (x.key, x.val) ∈ L.map (fun p => (txv p.1, p.2)) := by rw [← he]; exact List.mem_map.2 ⟨x, hx, rfl⟩
    obtain ⟨p, hp, e2⟩ := List.mem_map.1 hm
    simp only [Prod.mk.injEq] at e2
    rw [← e2.1] at e
    exact hnk (List.mem_map.2 ⟨p, hp, txv_inj e⟩)
theorem cells3 {w : World} {b T : Nat} {x y z : Value} (h : w.heap[b]? = some (.cells #[x, y, z] T (0, 0))) : w.cell? ⟨b, 0, none⟩ = some x ∧ w.cell? ⟨b, 1, none⟩ = some y ∧ w.cell? ⟨b, 2, none⟩ = some z :=
  ⟨by rw [row_cell h]; rfl, by rw [row_cell h]; rfl, by rw [row_cell h]; rfl⟩
theorem ptr_zero (w : World) : (zeroValue 59).run Try.prog w = .ok (.pointer none) w := by kernel_rfl
set_option maxRecDepth 100000 in
set_option maxHeartbeats 1000000 in
theorem begin_any {w : World} {F : Nat → Prop} {bb m1 : Nat} {B T : Nat} (hb : BookAt B T w bb m1 []) (t : Tx) {a : Option Addr} {N c : Nat} {ns : List Int} (hl : Lies F w 1 (.slice a N c) N (bcells ns)) (h4 : 1 ≤ N ∧ N ≤ 4) (hn : ns.Nodup) (hr : ∀ v ∈ ns, 0 ≤ v ∧ v < 4) :
    Calls Try.prog 9 #[ptr bb, txv t, .slice a N c] w fun e w' => e = .returned (.int .i64 0) ∧ (∃ rb mp pb, BookAt B T w' bb m1 [(t, ptr rb)] ∧ RunAt w.heap.size w'.heap.size w' rb mp ns pb (fun _ => false) 1) ∧ Kept (fun i => i = m1) w w' := by
  obtain ⟨t1, t2, t3⟩ := t
  have hlen : ns.length = N := by have := hl.len; simpa using this
  have HLN := hid hlen; have HN := hid hn; have HR := hid hr; have HB := hid hb; have HL := hid hl
  obtain ⟨n1, n4⟩ := h4
  have hmm := @run_makeMap Try.prog
  clear hlen hn hr hb hl
  unfold ptr txv
  go_enter Try.func9, Try.ntmps9
  have hz : ((N : Int) == 0) = false := by rw [beq_eq_false_iff_ne]; omega
  have hd4 : decide (4 < (N : Int)) = false := by simp; omega
  go_wp2_with fail
  have hk1 := (((Kept.refl (fun _ => False) w).alloc (.cells #[.int .u8 t1, .int .u32 t2, .int .u32 t3] 28)).alloc (.map #[] 0))
  have hm1 : MapIs ((w.alloc (.cells #[.int .u8 t1, .int .u32 t2, .int .u32 t3] 28)).alloc (.map #[] 0)) (w.heap.size + 1) .u8 [] := by
    simpa using MapIs.made (w.alloc (.cells #[.int .u8 t1, .int .u32 t2, .int .u32 t3] 28)) .u8
  have hkb := (two_new w (.cells #[.int .u8 t1, .int .u32 t2, .int .u32 t3] 28) (.map #[] 0)).1
  obtain ⟨w1, hw1⟩ : ∃ w1, (w.alloc (.cells #[.int .u8 t1, .int .u32 t2, .int .u32 t3] 28)).alloc (.map #[] 0) = w1 := ⟨_, rfl⟩
  obtain ⟨mp, hmp⟩ : ∃ mp, w.heap.size + 1 = mp := ⟨_, rfl⟩
  obtain ⟨kb, hkb'⟩ : ∃ kb, w.heap.size = kb := ⟨_, rfl⟩
  rw [hw1] at hk1 hm1 hkb ⊢
  rw [hmp] at hm1 ⊢
  rw [hkb'] at hkb ⊢
  have HSZ := hid (show w.heap.size = kb ∧ mp = kb + 1 from ⟨hkb', by omega⟩)
  have K1 := hid hk1; have M1 := hid hm1; have KB := hid hkb
  clear hw1 hmp hkb' hk1 hm1 hkb hz hd4
  go_loopw [21] (fun i wr => ∃ (k : Nat) (pb : Int → Nat), k ≤ N ∧ i = .int .i64 k ∧ MapIs wr mp .u8 (pents (ns.take k) pb) ∧ (∀ v ∈ ns.take k, wr.heap[pb v]? = some (.cells #[.bool false, .bool false] 58 (0, 0)) ∧ mp < pb v) ∧ (∀ a ∈ ns.take k, ∀ b ∈ ns.take k, pb a = pb b → a = b) ∧ Kept (fun i => i = mp) w1 wr) (fun i _ => N - (RowKit.intOf i).toNat)
  case atStart => exact ⟨0, fun _ => 0, Nat.zero_le _, rfl, M1.out, by simp, by simp, Kept.refl _ _⟩
  case round =>
    rename World => wr
    obtain ⟨k, pb, hk, rfl, hm, hp, hi, hkp⟩ := hrel
    have MR := hid hm; have PR := hid hp; have IR := hid hi; have KR := hid hkp
    clear hm hp hi hkp
    by_cases hlt : k < N
    · have hltI : (k : Int) < (N : Int) := by omega
      obtain ⟨v, hv⟩ : ∃ v, ns[k]? = some v := ⟨_, List.getElem?_eq_getElem (by rw [HLN.out]; exact hlt)⟩
      obtain ⟨v0, v4⟩ := HR.out v (List.mem_of_getElem? hv)
      have hnk : v ∉ ns.take k := fun h => by
        obtain ⟨j, hj⟩ := List.mem_iff_getElem?.1 h
        have hjk : j < k := by have := (List.getElem?_eq_some_iff.1 hj).1; simp at this; omega
        rw [List.getElem?_take, if_pos hjk] at hj
        obtain ⟨h1, e1⟩ := List.getElem?_eq_some_iff.1 hj
        obtain ⟨h2, e2⟩ := List.getElem?_eq_some_iff.1 hv
        have := (List.getElem_inj HN.out (h₀ := h1) (h₁ := h2)).1 (by rw [e1, e2])
        omega
      obtain ⟨gs, os, cs, e1, m2, m3, _, hg, zc⟩ := HL.out.cell (by omega)
      simp only [Value.slice.injEq] at e1
      obtain ⟨rfl, _, rfl⟩ := e1
      have y0 := zc k _ (show (bcells ns)[k]? = some (.int .u8 v) by simp [hv])
      have c0 := KR.out.cell (K1.out.cell y0 id) (show ¬ gs = mp by have := HSZ.out; omega)
      have HV := hid hv; have HNK := hid hnk
      have hTK := hid (show ns.take (k + 1) = ns.take k ++ [v] by rw [List.take_add_one, hv]; rfl)
      unfold maxLen at m3
      clear hv hnk zc y0
      go_wp2_with (refine wpList_lay rfl 55 5 56 (.tmp 27) (.tmp 28) (.tmp 30) rfl mp .u8 v (ptr wr.heap.size) rfl rfl rfl Try.underlying55 Try.underlying5 _ (by exact MR.out.of_block (Below.heap_alloc _ _ _ MR.out.lt)) ?_; intro w2 hm2 hk2; have M2 := hid hm2; have K2 := hid hk2; clear hm2 hk2)
      go_roundw
      case rel =>
        have hpz : ∀ x ∈ ns.take k, pb x < wr.heap.size := fun x hx => row_lt (PR.out x hx).1
        have hmlt := MR.out.lt
        have hnew : w2.heap[wr.heap.size]? = some (.cells #[.bool false, .bool false] 58 (0, 0)) := (K2.out.block _ (by simp) (by omega)).trans (row_new wr _)
        refine ⟨k + 1, fun x => if x = v then wr.heap.size else pb x, by omega, by go_num, ?_, fun x hx => ?_, fun x hx y hy e => ?_, (KR.out.alloc _).trans K2.out⟩
        · rw [hTK.out, ← pents_put HNK.out]; exact M2.out
        · rw [hTK.out, List.mem_append, List.mem_singleton] at hx
          by_cases hxv : x = v
          · simp only [if_pos hxv]; exact ⟨hnew, hmlt⟩
          · have hx' := hx.resolve_right hxv
            simp only [if_neg hxv]
            have h1 := PR.out x hx'
            exact ⟨((K2.out.block _ (by have := hpz x hx'; simp; omega) (by omega)).trans (Below.heap_alloc _ _ _ (hpz x hx'))).trans h1.1, h1.2⟩
        · rw [hTK.out, List.mem_append, List.mem_singleton] at hx hy
          by_cases hxv : x = v <;> by_cases hyv : y = v <;> simp only [hxv, hyv, if_true, if_false] at e ⊢
          · have := hpz y (hy.resolve_right hyv); omega
          · have := hpz x (hx.resolve_right hxv); omega
          · exact IR.out x (hx.resolve_right hxv) y (hy.resolve_right hyv) e
      case measure => (simp only [RowKit.intOf]; omega)
    · obtain rfl : k = N := by omega
      have htk : ns.take k = ns := by rw [← HLN.out, List.take_length]
      rw [htk] at MR PR IR
      have HKW := hid (show Kept (fun _ => False) w wr from K1.out.trans' KR.out (fun i e => .inr (by have := HSZ.out; omega)))
      have BR := hid (HB.out.same HKW.out)
      obtain ⟨m2, hbo⟩ := BR.out.obj
      have kbz := (KR.out.block kb (row_lt KB.out) (by have := HSZ.out; omega)).trans KB.out
      have hpl : (pents ns pb).length = k := by simp [pents, HLN.out]
      have c0 := row_cell hbo 0
      obtain ⟨d0, d1, d2⟩ := cells3 kbz
      simp only [List.getElem?_toArray, List.getElem?_cons_zero] at c0
      have hlook := fun w' (h : MapT w' m1 []) => h.run_look_none Try.underlying51 (ptr_zero w') (k := (t1, t2, t3)) rfl false
      have hlk : ∀ q, (Instr.lookup 51 (.map (some m1)) (.agg #[.int .u8 t1, .int .u32 t2, .int .u32 t3]) false).run Try.prog (wr.drewN q) = .ok (.pointer none) (wr.drewN q) := fun q => hlook _ (BR.out.same (kept_drewN (F := fun _ => False) wr q)).map
      have HBO := hid hbo; have HKB := hid kbz; have HLOOK := hid hlook
      clear htk hbo kbz hlook
      go_wp2_with (refine wpList_mlen rfl (.tmp 33) 55 _ _ rfl mp rfl Try.underlying55 .u8 (pents ns pb) MR.out ?_)
      go_quiet (fail)
      have KQ := kept_drewN (F := fun _ => False) wr nq
      obtain ⟨wq, hwq⟩ : ∃ wq, wr.drewN nq = wq := ⟨_, rfl⟩
      rw [hwq] at KQ
      have HKQ := hid KQ
      go_wp2_with fail
      rw [hwq]
      clear hwq hlk HLOOK c0 d0 d1 d2 hpl
      have KD' := HKQ.out
      have hbd := (KD'.block _ (row_lt HBO.out) id).trans HBO.out
      have hkd := (KD'.block _ (row_lt HKB.out) id).trans HKB.out
      have BD := hid (BR.out.same KD')
      obtain ⟨es, clock, hes⟩ := BD.out.map.lay_all Try.underlying51 (k := (t1, t2, t3)) rfl
      have HES := hid hes
      have hup : ∀ o v, (Instr.mapUpdate 51 (.map (some m1)) (.agg #[.int .u8 t1, .int .u32 t2, .int .u32 t3]) v).run Try.prog (wq.alloc o).drew = .ok () (ChangeMaps.setBlock (wq.alloc o).drew m1 (.map (es.push ⟨txv (t1, t2, t3), v, clock⟩) (clock + 1))) := fun o v => (HES.out (wq.alloc o).drew v (Below.heap_alloc _ _ _ BD.out.map.lt)).1
      have x0 := row_cell hbd 0
      simp only [List.getElem?_toArray, List.getElem?_cons_zero] at x0
      obtain ⟨x1, x2, x3⟩ := cells3 hkd
      have z0 : ∀ o, (wq.alloc o).cell? ⟨bb, 0, none⟩ = some (.map (some m1)) := fun o => ((Kept.refl (fun _ => False) wq).alloc o).cell x0 id
      have z1 : ∀ o, (wq.alloc o).cell? ⟨kb, 0, none⟩ = some (.int .u8 t1) := fun o => ((Kept.refl (fun _ => False) wq).alloc o).cell x1 id
      have z2 : ∀ o, (wq.alloc o).cell? ⟨kb, 1, none⟩ = some (.int .u32 t2) := fun o => ((Kept.refl (fun _ => False) wq).alloc o).cell x2 id
      have z3 : ∀ o, (wq.alloc o).cell? ⟨kb, 2, none⟩ = some (.int .u32 t3) := fun o => ((Kept.refl (fun _ => False) wq).alloc o).cell x3 id
      have y0 : ∀ o, (wq.alloc o).drew.cell? ⟨bb, 0, none⟩ = some (.map (some m1)) := z0
      have y1 : ∀ o, (wq.alloc o).drew.cell? ⟨kb, 0, none⟩ = some (.int .u8 t1) := z1
      have y2 : ∀ o, (wq.alloc o).drew.cell? ⟨kb, 1, none⟩ = some (.int .u32 t2) := z2
      have y3 : ∀ o, (wq.alloc o).drew.cell? ⟨kb, 2, none⟩ = some (.int .u32 t3) := z3
      clear hes hbd hkd KD' KQ
      go_region
      have hmz := (HES.out (wq.alloc (.cells #[.map (some mp), .int .i64 1] 61)).drew (ptr wq.heap.size) (Below.heap_alloc _ _ _ BD.out.map.lt)).2
      have hka : Kept (fun _ => False) wq (wq.alloc (.cells #[.map (some mp), .int .i64 1] 61)).drew := ((Kept.refl (fun _ => False) wq).alloc _).drew
      have hra : (wq.alloc (.cells #[.map (some mp), .int .i64 1] 61)).drew.heap[wq.heap.size]? = some (.cells #[.map (some mp), .int .i64 1] 61 (0, 0)) := row_new wq _
      have hsa : wq.heap.size < (wq.alloc (.cells #[.map (some mp), .int .i64 1] 61)).drew.heap.size := row_lt hra
      have hkz := (Kept.refl (fun i => i = m1) (wq.alloc (.cells #[.map (some mp), .int .i64 1] 61)).drew).setBlock (b := m1) (.map (es.push ⟨txv (t1, t2, t3), ptr wq.heap.size, clock⟩) (clock + 1)) (.inl rfl)
      have hEZ : ∃ wz, ChangeMaps.setBlock (wq.alloc (.cells #[.map (some mp), .int .i64 1] 61)).drew m1 (.map (es.push ⟨txv (t1, t2, t3), ptr wq.heap.size, clock⟩) (clock + 1)) = wz := ⟨_, rfl⟩
      obtain ⟨wz, hwz⟩ := hEZ
      have hwz' := hwz
      unfold ptr at hwz'
      rw [hwz'] at *
      rw [hwz] at hmz hkz
      have KZ := hid ((hka.mono (fun _ _ h => h.elim) : Kept (fun i => i = m1) wq _).trans hkz)
      have hm1w : m1 < w.heap.size := HB.out.map.lt
      have hrz := (hkz.block wq.heap.size hsa (by have := HKW.out.size; have := HKQ.out.size; omega)).trans hra
      have KWQ := hid (HKW.out.trans HKQ.out)
      have MZ := hid hmz; have RZ := hid hrz
      clear hmz hka hra hkz hwz hwz' hsa hup hrz
      go_wp2
      go_ret
      have kw : Kept (fun i => i = m1) w wz := (KWQ.out.mono (fun _ _ h => h.elim)).trans KZ.out
      have kr : Kept (fun i => i = m1) wr wz := (HKQ.out.mono (fun _ _ h => h.elim)).trans KZ.out
      have hwr := HKW.out.size
      have hqz := KZ.out.size
      have hrq := HKQ.out.size
      have hml := MR.out.lt
      have hsz := HSZ.out
      have hq := row_lt RZ.out
      refine ⟨rfl, ⟨wq.heap.size, mp, pb, ⟨⟨m2, ?_⟩, (by have h := MZ.out; rw [List.nil_append] at h; exact h), HB.out.inn⟩, ⟨RZ.out, MR.out.of_block (kr.block _ hml (by omega)), fun v hv => ?_, IR.out, ⟨⟨by omega, hq⟩, ⟨by omega, by omega⟩, fun v hv => ?_⟩⟩⟩, kw⟩
      · have hne : bb ≠ m1 := fun e => by
          obtain ⟨es', cl', hb', _⟩ := BR.out.map
          rw [← e, HBO.out] at hb'
          simp at hb'
        exact (kr.block _ (row_lt HBO.out) hne).trans HBO.out
      · have hp := (PR.out v hv).1
        have h2 := (PR.out v hv).2
        exact (kr.block _ (row_lt hp) (by omega)).trans hp
      · have hp := row_lt (PR.out v hv).1
        have h2 := (PR.out v hv).2
        exact ⟨by omega, by omega⟩
end Go.Proofs.Ytaobioleodfafaa
