/- slices.Clone of wants; Locks. -/
import Derived.Test.YtpjhdpfaogdboaaP
import Derived.Test.YtpjhdpfaogdboaaKey
import Derived.Test.YtpjhdpfaogdboaaHold
namespace Go.Proofs.Ytpjhdpfaogdboaa
set_option linter.unusedSimpArgs false
set_option linter.unusedVariables false
open Go.RowKit

theorem infoW : (Try.prog.info? 36).map (fun i => (i.zero, i.size, i.bytes)) = some (some (.agg #[.int .u32 0, .int .u8 0]), 2, 8) := by kernel_rfl
set_option maxHeartbeats 400000 in
theorem cloneW_any {F : Nat → Prop} (v : Value) (n : Nat) (news : List Value) (w : World) (h : Lies F w 2 v n news) (hl : n * 8 ≤ 140737488351232) :
    Calls Try.prog 30 #[v] w fun e w' => ∃ v', e = .returned v' ∧ Own w' 36 2 v' n news ∧ (∀ g, v'.ownBlock = some g → w.heap.size ≤ g) ∧ Kept (fun _ => False) w w' := by
  have H := hid h
  obtain ⟨ao, c, rfl, h1, h1', h2, h3, h4, h5⟩ := h
  cases ao with
  | none =>
    obtain ⟨rfl, rfl⟩ := h3 rfl
    obtain rfl : news = [] := List.eq_nil_of_length_eq_zero (by simpa using h2)
    clear h1 h1' h2 h3 h4 h5 H
    have he := fun w => Lib.run_eql_slice_nil (P := Try.prog) w
    go_enter Try.func30, Try.ntmps30
    go_wp2
    go_ret
    exact ⟨_, rfl, Own.nil _ _ _, by simp [Value.ownBlock], Kept.refl _ _⟩
  | some ad =>
    clear h1 h1' h2 h3 h4 h5
    have hl' := hid hl; clear hl
    have he := fun w => Lib.run_eql_slice_nil (P := Try.prog) w
    go_enter Try.func30, Try.ntmps30
    go_wp2_with (at_builtin; refine wpList_app rfl _ _ 37 rfl 36 (.agg #[.int .u32 0, .int .u8 0]) 2 8 Try.underlying37 infoW rfl (by decide) _ 0 [] rfl (own_empty _ _ _) _ rfl n news ?c1 ?c2 ?c3 ?_)
    case c1 => exact (H.out.same ((Kept.refl (fun _ => False) _).alloc _)).src
    case c2 => have := hl'.out; simp only [maxLen]; omega
    case c3 => have := hl'.out; omega
    · intro a' c' w' hown hk hf _
      go_wp2
      go_ret
      refine ⟨_, rfl, by simpa using hown, fun g hg => ?_, ?_⟩
      · rcases hf g (by simpa using hg) with h | h
        · simp [Value.ownBlock] at h; omega
        · (try simp at h); omega
      · refine ((Kept.refl (fun _ => False) w).alloc _).trans' hk (fun i hi => ?_)
        simp [Value.ownBlock] at hi
        right; omega
theorem cloneW_in {F : Nat → Prop} (v : Value) (n : Nat) (news : List Value) (w : World) (h : Lies F w 2 v n news) (hl : n * 8 ≤ 140737488351232) (h1 : ∀ u ∈ news, u.oneCell' = true) :
    Calls Try.prog 30 #[v] w fun e w' => ∃ a' c', e = .returned (.slice a' n c') ∧ Lies (fun g => g < w.heap.size) w' 2 (.slice a' n c') n news ∧ Kept (fun _ => False) w w' :=
  (cloneW_any v n news w h hl).mono fun e w' ⟨v', he, ho, hf, hk⟩ => by
    obtain ⟨pa, pc, rfl⟩ := ho.isSlice
    exact ⟨pa, pc, he, ho.lies h1 fun g hg hlt => by have := hf g hg; omega, hk⟩
theorem ordered_of {l r : List Int} (hl : l.Nodup) (hr : r.Pairwise (· < ·)) (h : ∀ x, x ∈ l ↔ x ∈ r) : ordered l = r := by
  have hrn : r.Nodup := hr.imp (fun h => by omega)
  have hp : l.Perm r := (List.perm_ext_iff_of_nodup hl hrn).2 h
  have hp2 : (ordered l).Perm r := (List.mergeSort_perm _ _).trans hp
  refine List.Perm.eq_of_pairwise (le := fun a b => a ≤ b) (fun a b _ _ h1 h2 => by omega) ?_ (hr.imp (fun h => by omega)) hp2
  have := List.pairwise_mergeSort (le := fun x y : Int => decide (x ≤ y)) (fun a b c h1 h2 => by simp only [decide_eq_true_eq] at *; omega) (fun a b => by simp only [Bool.or_eq_true, decide_eq_true_eq]; omega) l
  exact this.imp (fun h => by simpa using h)
theorem lkw_of_mem {l : List Wt} (hr : Ris l) {x : Wt} (h : x ∈ l) : lkw l x.1 = some x.2 := by
  induction l with
  | nil => cases h
  | cons y l ih =>
    obtain ⟨a, m⟩ := y
    have h1 := List.pairwise_cons.1 hr
    unfold lkw
    rcases List.mem_cons.1 h with rfl | h
    · simp
    · have := h1.1 x h
      simp only at this
      rw [if_neg (by omega)]
      exact ih h1.2 h
theorem lke_keys {E : List (Int × Value)} {lk : List Wt} (h : LkE E lk) (hr : Ris lk) (hn : (E.map (·.1)).Nodup) : ordered (E.map (·.1)) = lk.map (·.1) := by
  refine ordered_of hn ?_ fun k => ?_
  · rw [List.pairwise_map]; exact hr
  · rw [← look_mem, h.1 k]
    constructor
    · intro hs
      cases hl : lkw lk k with
      | none => rw [hl] at hs; simp at hs
      | some m => exact List.mem_map.2 ⟨_, lkw_mem hl, rfl⟩
    · intro hk
      obtain ⟨x, hx, rfl⟩ := List.mem_map.1 hk
      rw [lkw_of_mem hr hx]
      rfl
theorem mapIs_nodup {w : World} {b : Nat} {q : IntKind} {E : List (Int × Value)} (h : MapIs w b q E) : (E.map (·.1)).Nodup := by obtain ⟨_, _, _, _, h, _⟩ := h; exact h
section
variable {own : Nat → Option Tx} {B : Nat} {w w' : World} {tb mb : Nat} {L : List Ow} {A : Tx → Ad}
set_option maxRecDepth 100000 in
set_option maxHeartbeats 1000000 in
theorem locks_no {t1 t2 t3 : Int} (hb : Tab own B w tb mb L A) (hl : findO L (t1, t2, t3) = none) :
    Calls Try.prog 20 #[.pointer (some ⟨tb, 0, none⟩), .agg #[.int .u8 t1, .int .u32 t2, .int .u32 t3]] w fun e w' => e = .returned (.slice none 0 0) ∧ Kept (fun _ => False) w w' := by
  have hk1 := (Kept.refl (fun _ => False) w).alloc (.cells #[.int .u8 t1, .int .u32 t2, .int .u32 t3] 32)
  have hkb := row_new w (.cells #[.int .u8 t1, .int .u32 t2, .int .u32 t3] 32)
  obtain ⟨w1, hw1⟩ : ∃ w1, w.alloc (.cells #[.int .u8 t1, .int .u32 t2, .int .u32 t3] 32) = w1 := ⟨_, rfl⟩
  obtain ⟨kb, hkb'⟩ : ∃ kb, w.heap.size = kb := ⟨_, rfl⟩
  rw [hw1] at hk1 hkb
  rw [hkb'] at hkb
  have HB := hid (hb.same hk1); have HK := hid hkb; have K1 := hid hk1
  have c0 := HB.out.cell
  obtain ⟨d0, d1, d2⟩ := cells3 HK.out
  have HL := hid hl
  have HKB := hid (Nat.le_of_eq hkb')
  clear hb hk1 hkb hl
  have l0 := HB.out.look0 HL.out
  go_enter Try.func20, Try.ntmps20
  go_wp2_with fail
  try rw [hw1, hkb']
  clear hw1 hkb'
  go_quiet (fail)
  have K2 := hid (K1.out.trans (kept_drewN (F := fun _ => False) w1 nq))
  go_wp2
  go_ret
  exact ⟨rfl, K2.out⟩
set_option maxRecDepth 100000 in
set_option maxHeartbeats 1000000 in
theorem locks_yes {t1 t2 t3 : Int} {o : Ow} (hb : Tab own B w tb mb L A) (hl : findO L (t1, t2, t3) = some o) :
    Calls Try.prog 20 #[.pointer (some ⟨tb, 0, none⟩), .agg #[.int .u8 t1, .int .u32 t2, .int .u32 t3]] w fun e w' => ∃ ga gc, e = .returned (.slice ga o.lk.length gc) ∧ Own w' 36 2 (.slice ga o.lk.length gc) o.lk.length (wcells o.lk) ∧ (∀ b, (Value.slice ga o.lk.length gc).ownBlock = some b → w.heap.size ≤ b) ∧ Kept (fun _ => False) w w' := by
  obtain ⟨D, hD⟩ : ∃ D, o.lk = D := ⟨_, rfl⟩
  rw [hD]
  have HD := hid hD
  clear hD
  have hk1 := (Kept.refl (fun _ => False) w).alloc (.cells #[.int .u8 t1, .int .u32 t2, .int .u32 t3] 32)
  have hkb := row_new w (.cells #[.int .u8 t1, .int .u32 t2, .int .u32 t3] 32)
  obtain ⟨w1, hw1⟩ : ∃ w1, w.alloc (.cells #[.int .u8 t1, .int .u32 t2, .int .u32 t3] 32) = w1 := ⟨_, rfl⟩
  obtain ⟨kb, hkb'⟩ : ∃ kb, w.heap.size = kb := ⟨_, rfl⟩
  rw [hw1] at hk1 hkb
  rw [hkb'] at hkb
  have HB := hid (hb.same hk1); have HK := hid hkb; have K1 := hid hk1
  have c0 := HB.out.cell
  obtain ⟨d0, d1, d2⟩ := cells3 HK.out
  have HL := hid hl
  have HKB := hid (Nat.le_of_eq hkb')
  clear hb hk1 hkb hl
  have l0 := HB.out.look1 HL.out
  go_enter Try.func20, Try.ntmps20
  go_wp2_with fail
  try rw [hw1, hkb']
  clear hw1 hkb'
  go_quiet (fail)
  have hk2 := kept_drewN (F := fun _ => False) w1 nq
  have K2 := hid (K1.out.trans hk2)
  have HB2 := hid (HB.out.same hk2)
  have HK2 := hid ((hk2.block _ (row_lt HK.out) id).trans HK.out)
  obtain ⟨w2, hw2⟩ : ∃ w2, w1.drewN nq = w2 := ⟨_, rfl⟩
  rw [hw2] at K2 HB2 HK2
  clear l0 hk2
  obtain ⟨hom, hot⟩ := findO_mem HL.out
  have HO := hid (HB2.out.ows o hom)
  have HOK := hid (HB2.out.ok o hom)
  rw [hot] at HO
  clear hom hot
  obtain ⟨ad, had⟩ : ∃ ad, A (t1, t2, t3) = ad := ⟨_, rfl⟩
  have l1 := (HB2.out.same (Kept.refl (fun _ => False) w2).drew).lookw HL.out
  have hlw := fun W (k : Kept (fun _ => False) w2 W) => (HB2.out.same k).lookw HL.out
  have HLW := hid hlw
  rw [had] at HO l1 HLW
  have HAD := hid had
  have c0 := HB2.out.cell
  obtain ⟨d0, d1, d2⟩ := cells3 HK2.out
  obtain ⟨_, _, _, _, o4, _, _⟩ := cells7 HO.out.obj
  obtain ⟨lb, hlb⟩ : ∃ lb, ad.lb = lb := ⟨_, rfl⟩
  obtain ⟨ob, hob⟩ : ∃ ob, ad.ob = ob := ⟨_, rfl⟩
  obtain ⟨E, hm, he⟩ := HO.out.map
  rw [hlb] at o4 hm
  rw [hob] at o4 l1 HLW
  have HM := hid hm; have HE := hid he; have HKS := hid (lke_keys he HOK.out.r (mapIs_nodup hm))
  have HEL := hid he.2
  have HN40 := hid (ris_len HOK.out.r HOK.out.f)
  have HLB := hid hlb; have HOB := hid hob
  clear had hlb hob hm he hlw
  go_wp2_with fail
  try rw [hw2]
  clear hw2
  refine wp_region_till (fun w' : World => w'.cell? ⟨tb, 0, none⟩ = some (.map (some mb)) ∧ w'.cell? ⟨kb, 0, none⟩ = some (.int .u8 t1) ∧ w'.cell? ⟨kb, 1, none⟩ = some (.int .u32 t2) ∧ w'.cell? ⟨kb, 2, none⟩ = some (.int .u32 t3) ∧ (Instr.lookup 61 (.map (some mb)) (.agg #[.int .u8 t1, .int .u32 t2, .int .u32 t3]) false).run Try.prog w' = .ok (.pointer (some ⟨ob, 0, none⟩)) w' ∧ w'.cell? ⟨ob, 4, none⟩ = some (.map (some lb))) 9 (by kernel_rfl) (by exact ⟨c0, d0, d1, d2, l1, o4⟩) (fun hHeld => ?_)
  refine till_pure 12 (some 31) (v := ?v901) (by decide) rfl (by kernel_rfl) (by kernel_rfl) (by kernel_rfl) (by kernel_rfl) (by decide) (fun _ _ _ h => h) (Or.inl ⟨by rfl, ?y901⟩) (by assumption) ?r901
  case y901 => (intro w hSw; clear hSw; go_simp; (try with_reducible rfl))
  simp only [Act.put, List.setIfInBounds_toArray, List.set_cons_zero, List.set_cons_succ]
  refine till_pure 0 (some 19) (v := ?v902) (by decide) rfl (by kernel_rfl) (by kernel_rfl) (by kernel_rfl) (by kernel_rfl) (by decide) (fun _ _ _ h => h) (Or.inl ⟨by rfl, ?y902⟩) (by assumption) ?r902
  case y902 => (intro w hSw; clear hSw; go_simp; (try with_reducible rfl))
  simp only [Act.put, List.setIfInBounds_toArray, List.set_cons_zero, List.set_cons_succ]
  refine till_pure 1 (some 20) (v := ?v903) (by decide) rfl (by kernel_rfl) (by kernel_rfl) (by kernel_rfl) (by kernel_rfl) (by decide) (fun _ _ _ h => h) (Or.inl ⟨by rfl, ?y903⟩) (by assumption) ?r903
  case y903 => (intro w hSw; clear hSw; go_simp; (try with_reducible rfl))
  simp only [Act.put, List.setIfInBounds_toArray, List.set_cons_zero, List.set_cons_succ]
  refine till_pure 2 (some 21) (v := ?v904) (by decide) rfl (by kernel_rfl) (by kernel_rfl) (by kernel_rfl) (by kernel_rfl) (by decide) (fun _ _ _ h => h) (Or.inl ⟨by rfl, ?y904⟩) (by assumption) ?r904
  case y904 => (intro w hSw; clear hSw; go_simp; (try with_reducible rfl))
  simp only [Act.put, List.setIfInBounds_toArray, List.set_cons_zero, List.set_cons_succ]
  refine till_load 3 (some 22) [8, 7, 6, 5] (v := ?v905) (by decide) rfl (by kernel_rfl) (by kernel_rfl) (by kernel_rfl) (by kernel_rfl) (by kernel_rfl) (by decide) (by decide) (fun _ _ _ h => h) (Or.inl ⟨by rfl, ?y905⟩) (by assumption) ?r905
  case y905 => (intro w hSw; (try dsimp only at hSw); go_simp; (try with_reducible rfl))
  simp only [Act.put, List.setIfInBounds_toArray, List.set_cons_zero, List.set_cons_succ]
  refine till_load 4 (some 23) [8, 7, 6, 5] (v := ?v906) (by decide) rfl (by kernel_rfl) (by kernel_rfl) (by kernel_rfl) (by kernel_rfl) (by kernel_rfl) (by decide) (by decide) (fun _ _ _ h => h) (Or.inl ⟨by rfl, ?y906⟩) (by assumption) ?r906
  case y906 => (intro w hSw; (try dsimp only at hSw); go_simp; (try with_reducible rfl))
  simp only [Act.put, List.setIfInBounds_toArray, List.set_cons_zero, List.set_cons_succ]
  refine till_load 5 (some 24) [8, 7, 6] (v := ?v907) (by decide) rfl (by kernel_rfl) (by kernel_rfl) (by kernel_rfl) (by kernel_rfl) (by kernel_rfl) (by decide) (by decide) (fun _ _ _ h => h) (Or.inl ⟨by rfl, ?y907⟩) (by assumption) ?r907
  case y907 => (intro w hSw; (try dsimp only at hSw); go_simp; (try with_reducible rfl))
  simp only [Act.put, List.setIfInBounds_toArray, List.set_cons_zero, List.set_cons_succ]
  refine till_pure 6 (some 25) (v := ?v908) (by decide) rfl (by kernel_rfl) (by kernel_rfl) (by kernel_rfl) (by kernel_rfl) (by decide) (fun _ _ _ h => h) (Or.inl ⟨by rfl, ?y908⟩) (by assumption) ?r908
  case y908 => (intro w hSw; clear hSw; go_simp; (try with_reducible rfl))
  simp only [Act.put, List.setIfInBounds_toArray, List.set_cons_zero, List.set_cons_succ]
  refine till_pure 7 (some 26) (v := ?v909) (by decide) rfl (by kernel_rfl) (by kernel_rfl) (by kernel_rfl) (by kernel_rfl) (by decide) (fun _ _ _ h => h) (Or.inl ⟨by rfl, ?y909⟩) (by assumption) ?r909
  case y909 => (intro w hSw; clear hSw; go_simp; (try with_reducible rfl))
  simp only [Act.put, List.setIfInBounds_toArray, List.set_cons_zero, List.set_cons_succ]
  refine till_load 8 (some 27) [] (v := ?v910) (by decide) rfl (by kernel_rfl) (by kernel_rfl) (by kernel_rfl) (by kernel_rfl) (by kernel_rfl) (by decide) (by decide) (fun _ _ _ h => h) (Or.inl ⟨by rfl, ?y910⟩) (by assumption) ?r910
  case y910 => (intro w hSw; (try dsimp only at hSw); go_simp; (try with_reducible rfl))
  simp only [Act.put, List.setIfInBounds_toArray, List.set_cons_zero, List.set_cons_succ]
  refine till_list [10, 11] (by kernel_rfl) (by kernel_rfl) (by decide) (by decide) ?_
  simp only [pickOps, List.getElem?_toArray, List.getElem?_cons_zero, List.getElem?_cons_succ]
  clear l1 c0 d0 d1 d2 o4 hHeld
  go_wp2_with fail
  refine (keys_any (some lb) _).mono ?_
  rintro e w3 ⟨rfl, hw3⟩
  have hb3 := row_new w2.drew (.cells #[.map (some lb)] 66)
  have hk3 := (Kept.refl (fun _ => False) w2).drew.alloc (.cells #[.map (some lb)] 66)
  rw [← hw3] at hb3 hk3
  have cb := row_cell hb3 0
  simp only [List.getElem?_toArray, List.getElem?_cons_zero] at cb
  obtain ⟨bm, hbm⟩ : ∃ bm, w2.drew.heap.size = bm := ⟨_, rfl⟩
  rw [hbm] at cb ⊢
  have K3 := hid hk3
  clear hb3 hk3 hw3 hbm
  go_wp2_with fail
  refine (sorted_any cb (L := E) (by exact (HM.out.of_block (K3.out.block _ HM.out.lt id)).mapOf) (by have h1 := HEL.out; have h2 := HN40.out; omega)).mono ?_
  rintro e w4 ⟨sa, sc, rfl, hs, hf, hk4⟩
  rw [HKS.out, HD.out] at hs
  have hel := HEL.out
  rw [HD.out] at hel
  rw [hel] at hs hf ⊢
  have hn40 := HN40.out
  rw [HD.out] at hn40
  have HS := hid hs; have HF := hid hf; have K4 := hid (K3.out.trans hk4)
  clear hs hf hk4 cb hel
  go_wp2_with fail
  go_loopw [5, 31] (fun g i wr => ∃ (k : Nat) (ga : Option Addr) (gc : Nat), g = .slice ga k gc ∧ i = .int .i64 k ∧ k ≤ D.length ∧ Own wr 36 2 (.slice ga k gc) k (wcells (D.take k)) ∧ (∀ b, (Value.slice ga k gc).ownBlock = some b → w4.heap.size ≤ b) ∧ Kept (fun _ => False) w4 wr) (fun _ i _ => D.length - (RowKit.intOf i).toNat)
  case atStart => exact ⟨0, none, 0, rfl, rfl, Nat.zero_le _, Own.nil _ _ _, fun b h => by simp [Value.ownBlock] at h, Kept.refl _ _⟩
  case round =>
    rename World => wr
    obtain ⟨k, ga, gc, rfl, rfl, hk, ho, hf, hkr⟩ := hrel
    have HA := hid ho; have HAF := hid hf; have KR := hid hkr
    clear ho hf hkr
    by_cases hlt : k < D.length
    · have hltI : (k : Int) < (D.length : Int) := by omega
      obtain ⟨⟨v, m⟩, hv⟩ : ∃ x, D[k]? = some x := ⟨_, List.getElem?_eq_getElem hlt⟩
      have KW := hid (K4.out.trans KR.out)
      have kd : Kept (fun _ => False) w2 wr.drew := KW.out.drew
      have l1 := HLW.out _ kd
      have l2 : (Instr.lookup 66 (.map (some lb)) (.int .u32 v) false).run Try.prog wr.drew = .ok (.int .u8 m) wr.drew := by
        have hm := HM.out.of_block (kd.block _ HM.out.lt id)
        have he := HE.out.1 v
        rw [HD.out, lkw_of_mem (by have := HOK.out.r; rw [HD.out] at this; exact this) (List.mem_of_getElem? hv)] at he
        exact hm.run_look_some Try.underlying66 Try.underlying26 he false
      have c0 := (HB2.out.same kd).cell
      obtain ⟨d0, d1, d2⟩ := cells3 ((kd.block _ (row_lt HK2.out) id).trans HK2.out)
      obtain ⟨_, _, _, _, o4, _, _⟩ := cells7 (HO.out.same kd).obj
      rw [HLB.out, HOB.out] at o4
      obtain ⟨gs, sc', hse, hs1, hs2⟩ := HS.out.some_of_pos (by omega)
      simp only [Value.slice.injEq] at hse
      obtain ⟨rfl, _, rfl⟩ := hse
      have cs : wr.cell? ⟨gs, k, none⟩ = some (.int .u32 v) := by
        have := KR.out.cell (HS.out.cells rfl k (by simpa using hlt)) id
        rw [this]
        simp only [List.getElem_map]
        rw [(List.getElem?_eq_some_iff.1 hv).2]
      have hEC := hid (show wcells (D.take (k + 1)) = wcells (D.take k) ++ [.int .u32 v, .int .u8 m] from by
        rw [List.take_add_one, hv]
        simp [wcells, wcell])
      unfold maxLen at hs2
      have LO1 := hid l1
      clear hv hs1
      go_wp2_with fail
      refine wp_region_till (fun w' : World => w'.cell? ⟨tb, 0, none⟩ = some (.map (some mb)) ∧ w'.cell? ⟨kb, 0, none⟩ = some (.int .u8 t1) ∧ w'.cell? ⟨kb, 1, none⟩ = some (.int .u32 t2) ∧ w'.cell? ⟨kb, 2, none⟩ = some (.int .u32 t3) ∧ (Instr.lookup 61 (.map (some mb)) (.agg #[.int .u8 t1, .int .u32 t2, .int .u32 t3]) false).run Try.prog w' = .ok (.pointer (some ⟨ob, 0, none⟩)) w' ∧ w'.cell? ⟨ob, 4, none⟩ = some (.map (some lb)) ∧ (Instr.lookup 66 (.map (some lb)) (.int .u32 v) false).run Try.prog w' = .ok (.int .u8 m) w') 14 (by kernel_rfl) (by exact ⟨c0, d0, d1, d2, LO1.out, o4, l2⟩) (fun hHeld => ?_)
      refine till_pure 0 (some 35) (v := ?v801) (by decide) rfl (by kernel_rfl) (by kernel_rfl) (by kernel_rfl) (by kernel_rfl) (by decide) (fun _ _ _ h => h) (Or.inl ⟨by rfl, ?y801⟩) (by assumption) ?r801
      case y801 => (intro w hSw; clear hSw; go_simp; (try with_reducible rfl))
      simp only [Act.put, List.setIfInBounds_toArray, List.set_cons_zero, List.set_cons_succ]
      refine till_pure 1 (some 36) (v := ?v802) (by decide) rfl (by kernel_rfl) (by kernel_rfl) (by kernel_rfl) (by kernel_rfl) (by decide) (fun _ _ _ h => h) (Or.inl ⟨by rfl, ?y802⟩) (by assumption) ?r802
      case y802 => (intro w hSw; clear hSw; go_simp; (try with_reducible rfl))
      simp only [Act.put, List.setIfInBounds_toArray, List.set_cons_zero, List.set_cons_succ]
      refine till_pure 2 (some 37) (v := ?v803) (by decide) rfl (by kernel_rfl) (by kernel_rfl) (by kernel_rfl) (by kernel_rfl) (by decide) (fun _ _ _ h => h) (Or.inl ⟨by rfl, ?y803⟩) (by assumption) ?r803
      case y803 => (intro w hSw; clear hSw; go_simp; (try with_reducible rfl))
      simp only [Act.put, List.setIfInBounds_toArray, List.set_cons_zero, List.set_cons_succ]
      refine till_pure 3 (some 38) (v := ?v804) (by decide) rfl (by kernel_rfl) (by kernel_rfl) (by kernel_rfl) (by kernel_rfl) (by decide) (fun _ _ _ h => h) (Or.inl ⟨by rfl, ?y804⟩) (by assumption) ?r804
      case y804 => (intro w hSw; clear hSw; go_simp; (try with_reducible rfl))
      simp only [Act.put, List.setIfInBounds_toArray, List.set_cons_zero, List.set_cons_succ]
      refine till_pure 4 (some 39) (v := ?v805) (by decide) rfl (by kernel_rfl) (by kernel_rfl) (by kernel_rfl) (by kernel_rfl) (by decide) (fun _ _ _ h => h) (Or.inl ⟨by rfl, ?y805⟩) (by assumption) ?r805
      case y805 => (intro w hSw; clear hSw; go_simp; (try with_reducible rfl))
      simp only [Act.put, List.setIfInBounds_toArray, List.set_cons_zero, List.set_cons_succ]
      refine till_pure 11 (some 46) (v := ?v806) (by decide) rfl (by kernel_rfl) (by kernel_rfl) (by kernel_rfl) (by kernel_rfl) (by decide) (fun _ _ _ h => h) (Or.inl ⟨by rfl, ?y806⟩) (by assumption) ?r806
      case y806 => (intro w hSw; clear hSw; go_simp; (try with_reducible rfl))
      simp only [Act.put, List.setIfInBounds_toArray, List.set_cons_zero, List.set_cons_succ]
      refine till_load 5 (some 40) [13, 12, 10, 9, 8, 7] (v := ?v807) (by decide) rfl (by kernel_rfl) (by kernel_rfl) (by kernel_rfl) (by kernel_rfl) (by kernel_rfl) (by decide) (by decide) (fun _ _ _ h => h) (Or.inl ⟨by rfl, ?y807⟩) (by assumption) ?r807
      case y807 => (intro w hSw; (try dsimp only at hSw); go_simp; (try with_reducible rfl))
      simp only [Act.put, List.setIfInBounds_toArray, List.set_cons_zero, List.set_cons_succ]
      refine till_load 6 (some 41) [13, 12, 10, 9, 8, 7] (v := ?v808) (by decide) rfl (by kernel_rfl) (by kernel_rfl) (by kernel_rfl) (by kernel_rfl) (by kernel_rfl) (by decide) (by decide) (fun _ _ _ h => h) (Or.inl ⟨by rfl, ?y808⟩) (by assumption) ?r808
      case y808 => (intro w hSw; (try dsimp only at hSw); go_simp; (try with_reducible rfl))
      simp only [Act.put, List.setIfInBounds_toArray, List.set_cons_zero, List.set_cons_succ]
      refine till_load 7 (some 42) [13, 12, 10, 9, 8] (v := ?v809) (by decide) rfl (by kernel_rfl) (by kernel_rfl) (by kernel_rfl) (by kernel_rfl) (by kernel_rfl) (by decide) (by decide) (fun _ _ _ h => h) (Or.inl ⟨by rfl, ?y809⟩) (by assumption) ?r809
      case y809 => (intro w hSw; (try dsimp only at hSw); go_simp; (try with_reducible rfl))
      simp only [Act.put, List.setIfInBounds_toArray, List.set_cons_zero, List.set_cons_succ]
      refine till_pure 8 (some 43) (v := ?v810) (by decide) rfl (by kernel_rfl) (by kernel_rfl) (by kernel_rfl) (by kernel_rfl) (by decide) (fun _ _ _ h => h) (Or.inl ⟨by rfl, ?y810⟩) (by assumption) ?r810
      case y810 => (intro w hSw; clear hSw; go_simp; (try with_reducible rfl))
      simp only [Act.put, List.setIfInBounds_toArray, List.set_cons_zero, List.set_cons_succ]
      refine till_pure 9 (some 44) (v := ?v811) (by decide) rfl (by kernel_rfl) (by kernel_rfl) (by kernel_rfl) (by kernel_rfl) (by decide) (fun _ _ _ h => h) (Or.inl ⟨by rfl, ?y811⟩) (by assumption) ?r811
      case y811 => (intro w hSw; clear hSw; go_simp; (try with_reducible rfl))
      simp only [Act.put, List.setIfInBounds_toArray, List.set_cons_zero, List.set_cons_succ]
      refine till_load 10 (some 45) [13, 12] (v := ?v812) (by decide) rfl (by kernel_rfl) (by kernel_rfl) (by kernel_rfl) (by kernel_rfl) (by kernel_rfl) (by decide) (by decide) (fun _ _ _ h => h) (Or.inl ⟨by rfl, ?y812⟩) (by assumption) ?r812
      case y812 => (intro w hSw; (try dsimp only at hSw); go_simp; (try with_reducible rfl))
      simp only [Act.put, List.setIfInBounds_toArray, List.set_cons_zero, List.set_cons_succ]
      refine till_load 12 (some 47) [13] (v := ?v813) (by decide) rfl (by kernel_rfl) (by kernel_rfl) (by kernel_rfl) (by kernel_rfl) (by kernel_rfl) (by decide) (by decide) (fun _ _ _ h => h) (Or.inl ⟨by rfl, ?y813⟩) (by assumption) ?r813
      case y813 => (intro w hSw; (try dsimp only at hSw); go_simp; (try with_reducible rfl))
      simp only [Act.put, List.setIfInBounds_toArray, List.set_cons_zero, List.set_cons_succ]
      refine till_pure 13 (some 48) (v := ?v814) (by decide) rfl (by kernel_rfl) (by kernel_rfl) (by kernel_rfl) (by kernel_rfl) (by decide) (fun _ _ _ h => h) (Or.inl ⟨by rfl, ?y814⟩) (by assumption) ?r814
      case y814 => (intro w hSw; clear hSw; go_simp; (try with_reducible rfl))
      simp only [Act.put, List.setIfInBounds_toArray, List.set_cons_zero, List.set_cons_succ]
      refine till_list [15, 16] (by kernel_rfl) (by kernel_rfl) (by decide) (by decide) ?_
      simp only [pickOps, List.getElem?_toArray, List.getElem?_cons_zero, List.getElem?_cons_succ]
      clear l1 c0 d0 d1 d2 o4 l2 hHeld cs
      have hs0 : Src (wr.drew.alloc (.cells #[.int .u32 v, .int .u8 m] 36)) 2 (.slice (some ⟨wr.drew.heap.size, 0, none⟩) 1 1) 1 [.int .u32 v, .int .u8 m] :=
        src_row rfl (fun j u hu => by rw [row_cell (row_new wr.drew _)]; simpa using hu) (by simp [Value.oneCell'])
      have HSR := hid hs0
      clear hs0
      go_wp2_with (at_builtin; refine wpList_app rfl _ _ 37 rfl 36 _ 2 8 Try.underlying37 infoW rfl (by decide) (.slice ga k gc) k (wcells (D.take k)) rfl (HA.out.drew.alloc _) _ rfl 1 _ HSR.out (by unfold maxLen; omega) (by omega) ?_; intro a' c' w5 ho5 hk5 hf5 _; have HA5 := hid ho5; have HK5 := hid hk5; have HF5 := hid hf5; clear ho5 hk5 hf5)
      go_roundw
      case rel =>
        refine ⟨k + 1, a', c', rfl, by go_num, by omega, by rw [hEC.out]; exact HA5.out, fun b hb => ?_, ?_⟩
        · rcases HF5.out b hb with h | h
          · exact HAF.out b h
          · simp at h; have := KR.out.size; omega
        · exact (KR.out.drew.alloc _).trans' HK5.out (fun i hi => .inr (HAF.out i hi))
      case measure => (simp only [RowKit.intOf]; omega)
    · obtain rfl : k = D.length := by omega
      go_wp2
      go_ret
      exact ⟨ga, gc, rfl, by have := HA.out; rwa [List.take_length] at this, fun b hb => Nat.le_trans (K2.out.trans K4.out).size (HAF.out b hb), (K2.out.trans K4.out).trans KR.out⟩
end
end Go.Proofs.Ytpjhdpfaogdboaa
