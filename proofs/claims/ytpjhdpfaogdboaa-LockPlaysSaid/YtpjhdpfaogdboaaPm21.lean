/- Texts of this claim, merged: Q, R, S, T, Tn, U, V, Arg, Kn, Cl, Da, Db, Dc, Min. -/
import Derived.Test.YtpjhdpfaogdboaaPm1
import Derived.Test.YtpjhdpfaogdboaaPm2
import Derived.Test.YtpjhdpfaogdboaaPm3
import Derived.Test.YtpjhdpfaogdboaaPm4
import Derived.Test.YtpjhdpfaogdboaaPm5
import Derived.Test.YtpjhdpfaogdboaaPm6
import Derived.Test.YtpjhdpfaogdboaaPm7
import Derived.Test.YtpjhdpfaogdboaaPm8
import Derived.Test.YtpjhdpfaogdboaaPm9
import Derived.Test.YtpjhdpfaogdboaaPm10
import Derived.Test.YtpjhdpfaogdboaaPm11
import Derived.Test.YtpjhdpfaogdboaaPm12
import Derived.Test.YtpjhdpfaogdboaaPm13
import Derived.Test.YtpjhdpfaogdboaaPm14
import Derived.Test.YtpjhdpfaogdboaaPm15
import Derived.Test.YtpjhdpfaogdboaaPm16
import Derived.Test.YtpjhdpfaogdboaaPm17
import Derived.Test.YtpjhdpfaogdboaaPm18
import Derived.Test.YtpjhdpfaogdboaaPm19
import Derived.Test.YtpjhdpfaogdboaaPm20
/- slices.Clone of wants; Locks. -/
namespace Go.Proofs.Ytpjhdpfaogdboaa
set_option linter.unusedSimpArgs false
set_option linter.unusedVariables false
open Go.RowKit

theorem infoW : (Try.prog.info? 36).map (fun i => (i.zero, i.size, i.bytes)) = some (some (.agg #[.int .u32 0, .int .u8 0]), 2, 8) := by kernel_rfl
set_option maxHeartbeats 400000 in
theorem cloneW_any {F : Nat → Prop} (v : Value) (n : Nat) (news : List Value) (w : World) (h : Lies F w 2 v n news) (hl : n * 8 ≤ 140737488351232) :
    Calls Try.prog 30 #[v] w fun e w' => ∃ v', e = .returned v' ∧ Own w' 36 2 v' n news ∧ (∀ g, v'.ownBlock = some g → w.heap.size ≤ g) ∧ Kept (fun _ => False) w w' := by
  have H := hid h
  obtain ⟨ao, c, rfl, h1, h1', h2, h3, h4, h5⟩ := h
  cases ao with
  | none =>
    obtain ⟨rfl, rfl⟩ := h3 rfl
    obtain rfl : news = [] := List.eq_nil_of_length_eq_zero (by simpa using h2)
    clear h1 h1' h2 h3 h4 h5 H
    have he := fun w => Lib.run_eql_slice_nil (P := Try.prog) w
    go_enter Try.func30, Try.ntmps30
    go_wp2
    go_ret
    exact ⟨_, rfl, Own.nil _ _ _, by simp [Value.ownBlock], Kept.refl _ _⟩
  | some ad =>
    clear h1 h1' h2 h3 h4 h5
    have hl' := hid hl; clear hl
    have he := fun w => Lib.run_eql_slice_nil (P := Try.prog) w
    go_enter Try.func30, Try.ntmps30
    go_wp2_with (at_builtin; refine wpList_app rfl _ _ 37 rfl 36 (.agg #[.int .u32 0, .int .u8 0]) 2 8 Try.underlying37 infoW rfl (by decide) _ 0 [] rfl (own_empty _ _ _) _ rfl n news ?c1 ?c2 ?c3 ?_)
    case c1 => exact (H.out.same ((Kept.refl (fun _ => False) _).alloc _)).src
    case c2 => have := hl'.out; simp only [maxLen]; omega
    case c3 => have := hl'.out; omega
    · intro a' c' w' hown hk hf _
      go_wp2
      go_ret
      refine ⟨_, rfl, by simpa using hown, fun g hg => ?_, ?_⟩
      · rcases hf g (by simpa using hg) with h | h
        · simp [Value.ownBlock] at h; omega
        · (try simp at h); omega
      · refine ((Kept.refl (fun _ => False) w).alloc _).trans' hk (fun i hi => ?_)
        simp [Value.ownBlock] at hi
        right; omega
theorem cloneW_in {F : Nat → Prop} (v : Value) (n : Nat) (news : List Value) (w : World) (h : Lies F w 2 v n news) (hl : n * 8 ≤ 140737488351232) (h1 : ∀ u ∈ news, u.oneCell' = true) :
    Calls Try.prog 30 #[v] w fun e w' => ∃ a' c', e = .returned (.slice a' n c') ∧ Lies (fun g => g < w.heap.size) w' 2 (.slice a' n c') n news ∧ Kept (fun _ => False) w w' :=
  (cloneW_any v n news w h hl).mono fun e w' ⟨v', he, ho, hf, hk⟩ => by
    obtain ⟨pa, pc, rfl⟩ := ho.isSlice
    exact ⟨pa, pc, he, ho.lies h1 fun g hg hlt => by have := hf g hg; omega, hk⟩
theorem ordered_of {l r : List Int} (hl : l.Nodup) (hr : r.Pairwise (· < ·)) (h : ∀ x, x ∈ l ↔ x ∈ r) : ordered l = r := by
  have hrn : r.Nodup := hr.imp (fun h => by omega)
  have hp : l.Perm r := (List.perm_ext_iff_of_nodup hl hrn).2 h
  have hp2 : (ordered l).Perm r := (List.mergeSort_perm _ _).trans hp
  refine List.Perm.eq_of_pairwise (le := fun a b => a ≤ b) (fun a b _ _ h1 h2 => by omega) ?_ (hr.imp (fun h => by omega)) hp2
  have := List.pairwise_mergeSort (le := fun x y : Int => decide (x ≤ y)) (fun a b c h1 h2 => by simp only [decide_eq_true_eq] at *; omega) (fun a b => by simp only [Bool.or_eq_true, decide_eq_true_eq]; omega) l
  exact this.imp (fun h => by simpa using h)
theorem lkw_of_mem {l : List Wt} (hr : Ris l) {x : Wt} (h : x ∈ l) : lkw l x.1 = some x.2 := by
  induction l with
  | nil => cases h
  | cons y l ih =>
    obtain ⟨a, m⟩ := y
    have h1 := List.pairwise_cons.1 hr
    unfold lkw
    rcases List.mem_cons.1 h with rfl | h
    · simp
    · have := h1.1 x h
      simp only at this
      rw [if_neg (by omega)]
      exact ih h1.2 h
theorem lke_keys {E : List (Int × Value)} {lk : List Wt} (h : LkE E lk) (hr : Ris lk) (hn : (E.map (·.1)).Nodup) : ordered (E.map (·.1)) = lk.map (·.1) := by
  refine ordered_of hn ?_ fun k => ?_
  · rw [List.pairwise_map]; exact hr
  · rw [← look_mem, h.1 k]
    constructor
    · intro hs
      cases hl : lkw lk k with
      | none => rw [hl] at hs; simp at hs
      | some m => exact List.mem_map.2 ⟨_, lkw_mem hl, rfl⟩
    · intro hk
      obtain ⟨x, hx, rfl⟩ := List.mem_map.1 hk
      rw [lkw_of_mem hr hx]
      rfl
theorem mapIs_nodup {w : World} {b : Nat} {q : IntKind} {E : List (Int × Value)} (h : MapIs w b q E) : (E.map (·.1)).Nodup := by obtain ⟨_, _, _, _, h, _⟩ := h; exact h
section
variable {own : Nat → Option Tx} {B : Nat} {w w' : World} {tb mb : Nat} {L : List Ow} {A : Tx → Ad}
set_option maxRecDepth 100000 in
set_option maxHeartbeats 1000000 in
theorem locks_no {t1 t2 t3 : Int} (hb : Tab own B w tb mb L A) (hl : findO L (t1, t2, t3) = none) :
    Calls Try.prog 20 #[.pointer (some ⟨tb, 0, none⟩), .agg #[.int .u8 t1, .int .u32 t2, .int .u32 t3]] w fun e w' => e = .returned (.slice none 0 0) ∧ Kept (fun _ => False) w w' := by
  have hk1 := (Kept.refl (fun _ => False) w).alloc (.cells #[.int .u8 t1, .int .u32 t2, .int .u32 t3] 32)
  have hkb := row_new w (.cells #[.int .u8 t1, .int .u32 t2, .int .u32 t3] 32)
  obtain ⟨w1, hw1⟩ : ∃ w1, w.alloc (.cells #[.int .u8 t1, .int .u32 t2, .int .u32 t3] 32) = w1 := ⟨_, rfl⟩
  obtain ⟨kb, hkb'⟩ : ∃ kb, w.heap.size = kb := ⟨_, rfl⟩
  rw [hw1] at hk1 hkb
  rw [hkb'] at hkb
  have HB := hid (hb.same hk1); have HK := hid hkb; have K1 := hid hk1
  have c0 := HB.out.cell
  obtain ⟨d0, d1, d2⟩ := cells3 HK.out
  have HL := hid hl
  have HKB := hid (Nat.le_of_eq hkb')
  clear hb hk1 hkb hl
  have l0 := HB.out.look0 HL.out
  go_enter Try.func20, Try.ntmps20
  go_wp2_with fail
  try rw [hw1, hkb']
  clear hw1 hkb'
  go_quiet (fail)
  have K2 := hid (K1.out.trans (kept_drewN (F := fun _ => False) w1 nq))
  go_wp2
  go_ret
  exact ⟨rfl, K2.out⟩
set_option maxRecDepth 100000 in
set_option maxHeartbeats 1000000 in
theorem locks_yes {t1 t2 t3 : Int} {o : Ow} (hb : Tab own B w tb mb L A) (hl : findO L (t1, t2, t3) = some o) :
    Calls Try.prog 20 #[.pointer (some ⟨tb, 0, none⟩), .agg #[.int .u8 t1, .int .u32 t2, .int .u32 t3]] w fun e w' => ∃ ga gc, e = .returned (.slice ga o.lk.length gc) ∧ Own w' 36 2 (.slice ga o.lk.length gc) o.lk.length (wcells o.lk) ∧ (∀ b, (Value.slice ga o.lk.length gc).ownBlock = some b → w.heap.size ≤ b) ∧ Kept (fun _ => False) w w' := by
  obtain ⟨D, hD⟩ : ∃ D, o.lk = D := ⟨_, rfl⟩
  rw [hD]
  have HD := hid hD
  clear hD
  have hk1 := (Kept.refl (fun _ => False) w).alloc (.cells #[.int .u8 t1, .int .u32 t2, .int .u32 t3] 32)
  have hkb := row_new w (.cells #[.int .u8 t1, .int .u32 t2, .int .u32 t3] 32)
  obtain ⟨w1, hw1⟩ : ∃ w1, w.alloc (.cells #[.int .u8 t1, .int .u32 t2, .int .u32 t3] 32) = w1 := ⟨_, rfl⟩
  obtain ⟨kb, hkb'⟩ : ∃ kb, w.heap.size = kb := ⟨_, rfl⟩
  rw [hw1] at hk1 hkb
  rw [hkb'] at hkb
  have HB := hid (hb.same hk1); have HK := hid hkb; have K1 := hid hk1
  have c0 := HB.out.cell
  obtain ⟨d0, d1, d2⟩ := cells3 HK.out
  have HL := hid hl
  have HKB := hid (Nat.le_of_eq hkb')
  clear hb hk1 hkb hl
  have l0 := HB.out.look1 HL.out
  go_enter Try.func20, Try.ntmps20
  go_wp2_with fail
  try rw [hw1, hkb']
  clear hw1 hkb'
  go_quiet (fail)
  have hk2 := kept_drewN (F := fun _ => False) w1 nq
  have K2 := hid (K1.out.trans hk2)
  have HB2 := hid (HB.out.same hk2)
  have HK2 := hid ((hk2.block _ (row_lt HK.out) id).trans HK.out)
  obtain ⟨w2, hw2⟩ : ∃ w2, w1.drewN nq = w2 := ⟨_, rfl⟩
  rw [hw2] at K2 HB2 HK2
  clear l0 hk2
  obtain ⟨hom, hot⟩ := findO_mem HL.out
  have HO := hid (HB2.out.ows o hom)
  have HOK := hid (HB2.out.ok o hom)
  rw [hot] at HO
  clear hom hot
  obtain ⟨ad, had⟩ : ∃ ad, A (t1, t2, t3) = ad := ⟨_, rfl⟩
  have l1 := (HB2.out.same (Kept.refl (fun _ => False) w2).drew).lookw HL.out
  have hlw := fun W (k : Kept (fun _ => False) w2 W) => (HB2.out.same k).lookw HL.out
  have HLW := hid hlw
  rw [had] at HO l1 HLW
  have HAD := hid had
  have c0 := HB2.out.cell
  obtain ⟨d0, d1, d2⟩ := cells3 HK2.out
  obtain ⟨_, _, _, _, o4, _, _⟩ := cells7 HO.out.obj
  obtain ⟨lb, hlb⟩ : ∃ lb, ad.lb = lb := ⟨_, rfl⟩
  obtain ⟨ob, hob⟩ : ∃ ob, ad.ob = ob := ⟨_, rfl⟩
  obtain ⟨E, hm, he⟩ := HO.out.map
  rw [hlb] at o4 hm
  rw [hob] at o4 l1 HLW
  have HM := hid hm; have HE := hid he; have HKS := hid (lke_keys he HOK.out.r (mapIs_nodup hm))
  have HEL := hid he.2
  have HN40 := hid (ris_len HOK.out.r HOK.out.f)
  have HLB := hid hlb; have HOB := hid hob
  clear had hlb hob hm he hlw
  go_wp2_with fail
  try rw [hw2]
  clear hw2
  refine wp_region_till (fun w' : World => w'.cell? ⟨tb, 0, none⟩ = some (.map (some mb)) ∧ w'.cell? ⟨kb, 0, none⟩ = some (.int .u8 t1) ∧ w'.cell? ⟨kb, 1, none⟩ = some (.int .u32 t2) ∧ w'.cell? ⟨kb, 2, none⟩ = some (.int .u32 t3) ∧ (Instr.lookup 61 (.map (some mb)) (.agg #[.int .u8 t1, .int .u32 t2, .int .u32 t3]) false).run Try.prog w' = .ok (.pointer (some ⟨ob, 0, none⟩)) w' ∧ w'.cell? ⟨ob, 4, none⟩ = some (.map (some lb))) 9 (by kernel_rfl) (by exact ⟨c0, d0, d1, d2, l1, o4⟩) (fun hHeld => ?_)
  refine till_pure 12 (some 31) (v := ?v901) (by decide) rfl (by kernel_rfl) (by kernel_rfl) (by kernel_rfl) (by kernel_rfl) (by decide) (fun _ _ _ h => h) (Or.inl ⟨by rfl, ?y901⟩) (by assumption) ?r901
  case y901 => (intro w hSw; clear hSw; go_simp; (try with_reducible rfl))
  simp only [Act.put, List.setIfInBounds_toArray, List.set_cons_zero, List.set_cons_succ]
  refine till_pure 0 (some 19) (v := ?v902) (by decide) rfl (by kernel_rfl) (by kernel_rfl) (by kernel_rfl) (by kernel_rfl) (by decide) (fun _ _ _ h => h) (Or.inl ⟨by rfl, ?y902⟩) (by assumption) ?r902
  case y902 => (intro w hSw; clear hSw; go_simp; (try with_reducible rfl))
  simp only [Act.put, List.setIfInBounds_toArray, List.set_cons_zero, List.set_cons_succ]
  refine till_pure 1 (some 20) (v := ?v903) (by decide) rfl (by kernel_rfl) (by kernel_rfl) (by kernel_rfl) (by kernel_rfl) (by decide) (fun _ _ _ h => h) (Or.inl ⟨by rfl, ?y903⟩) (by assumption) ?r903
  case y903 => (intro w hSw; clear hSw; go_simp; (try with_reducible rfl))
  simp only [Act.put, List.setIfInBounds_toArray, List.set_cons_zero, List.set_cons_succ]
  refine till_pure 2 (some 21) (v := ?v904) (by decide) rfl (by kernel_rfl) (by kernel_rfl) (by kernel_rfl) (by kernel_rfl) (by decide) (fun _ _ _ h => h) (Or.inl ⟨by rfl, ?y904⟩) (by assumption) ?r904
  case y904 => (intro w hSw; clear hSw; go_simp; (try with_reducible rfl))
  simp only [Act.put, List.setIfInBounds_toArray, List.set_cons_zero, List.set_cons_succ]
  refine till_load 3 (some 22) [8, 7, 6, 5] (v := ?v905) (by decide) rfl (by kernel_rfl) (by kernel_rfl) (by kernel_rfl) (by kernel_rfl) (by kernel_rfl) (by decide) (by decide) (fun _ _ _ h => h) (Or.inl ⟨by rfl, ?y905⟩) (by assumption) ?r905
  case y905 => (intro w hSw; (try dsimp only at hSw); go_simp; (try with_reducible rfl))
  simp only [Act.put, List.setIfInBounds_toArray, List.set_cons_zero, List.set_cons_succ]
  refine till_load 4 (some 23) [8, 7, 6, 5] (v := ?v906) (by decide) rfl (by kernel_rfl) (by kernel_rfl) (by kernel_rfl) (by kernel_rfl) (by kernel_rfl) (by decide) (by decide) (fun _ _ _ h => h) (Or.inl ⟨by rfl, ?y906⟩) (by assumption) ?r906
  case y906 => (intro w hSw; (try dsimp only at hSw); go_simp; (try with_reducible rfl))
  simp only [Act.put, List.setIfInBounds_toArray, List.set_cons_zero, List.set_cons_succ]
  refine till_load 5 (some 24) [8, 7, 6] (v := ?v907) (by decide) rfl (by kernel_rfl) (by kernel_rfl) (by kernel_rfl) (by kernel_rfl) (by kernel_rfl) (by decide) (by decide) (fun _ _ _ h => h) (Or.inl ⟨by rfl, ?y907⟩) (by assumption) ?r907
  case y907 => (intro w hSw; (try dsimp only at hSw); go_simp; (try with_reducible rfl))
  simp only [Act.put, List.setIfInBounds_toArray, List.set_cons_zero, List.set_cons_succ]
  refine till_pure 6 (some 25) (v := ?v908) (by decide) rfl (by kernel_rfl) (by kernel_rfl) (by kernel_rfl) (by kernel_rfl) (by decide) (fun _ _ _ h => h) (Or.inl ⟨by rfl, ?y908⟩) (by assumption) ?r908
  case y908 => (intro w hSw; clear hSw; go_simp; (try with_reducible rfl))
  simp only [Act.put, List.setIfInBounds_toArray, List.set_cons_zero, List.set_cons_succ]
  refine till_pure 7 (some 26) (v := ?v909) (by decide) rfl (by kernel_rfl) (by kernel_rfl) (by kernel_rfl) (by kernel_rfl) (by decide) (fun _ _ _ h => h) (Or.inl ⟨by rfl, ?y909⟩) (by assumption) ?r909
  case y909 => (intro w hSw; clear hSw; go_simp; (try with_reducible rfl))
  simp only [Act.put, List.setIfInBounds_toArray, List.set_cons_zero, List.set_cons_succ]
  refine till_load 8 (some 27) [] (v := ?v910) (by decide) rfl (by kernel_rfl) (by kernel_rfl) (by kernel_rfl) (by kernel_rfl) (by kernel_rfl) (by decide) (by decide) (fun _ _ _ h => h) (Or.inl ⟨by rfl, ?y910⟩) (by assumption) ?r910
  case y910 => (intro w hSw; (try dsimp only at hSw); go_simp; (try with_reducible rfl))
  simp only [Act.put, List.setIfInBounds_toArray, List.set_cons_zero, List.set_cons_succ]
  refine till_list [10, 11] (by kernel_rfl) (by kernel_rfl) (by decide) (by decide) ?_
  simp only [pickOps, List.getElem?_toArray, List.getElem?_cons_zero, List.getElem?_cons_succ]
  clear l1 c0 d0 d1 d2 o4 hHeld
  go_wp2_with fail
  refine (keys_any (some lb) _).mono ?_
  rintro e w3 ⟨rfl, hw3⟩
  have hb3 := row_new w2.drew (.cells #[.map (some lb)] 66)
  have hk3 := (Kept.refl (fun _ => False) w2).drew.alloc (.cells #[.map (some lb)] 66)
  rw [← hw3] at hb3 hk3
  have cb := row_cell hb3 0
  simp only [List.getElem?_toArray, List.getElem?_cons_zero] at cb
  obtain ⟨bm, hbm⟩ : ∃ bm, w2.drew.heap.size = bm := ⟨_, rfl⟩
  rw [hbm] at cb ⊢
  have K3 := hid hk3
  clear hb3 hk3 hw3 hbm
  go_wp2_with fail
  refine (sorted_any cb (L := E) (by exact (HM.out.of_block (K3.out.block _ HM.out.lt id)).mapOf) (by have h1 := HEL.out; have h2 := HN40.out; omega)).mono ?_
  rintro e w4 ⟨sa, sc, rfl, hs, hf, hk4⟩
  rw [HKS.out, HD.out] at hs
  have hel := HEL.out
  rw [HD.out] at hel
  rw [hel] at hs hf ⊢
  have hn40 := HN40.out
  rw [HD.out] at hn40
  have HS := hid hs; have HF := hid hf; have K4 := hid (K3.out.trans hk4)
  clear hs hf hk4 cb hel
  go_wp2_with fail
  go_loopw [5, 31] (fun g i wr => ∃ (k : Nat) (ga : Option Addr) (gc : Nat), g = .slice ga k gc ∧ i = .int .i64 k ∧ k ≤ D.length ∧ Own wr 36 2 (.slice ga k gc) k (wcells (D.take k)) ∧ (∀ b, (Value.slice ga k gc).ownBlock = some b → w4.heap.size ≤ b) ∧ Kept (fun _ => False) w4 wr) (fun _ i _ => D.length - (RowKit.intOf i).toNat)
  case atStart => exact ⟨0, none, 0, rfl, rfl, Nat.zero_le _, Own.nil _ _ _, fun b h => by simp [Value.ownBlock] at h, Kept.refl _ _⟩
  case round =>
    rename World => wr
    obtain ⟨k, ga, gc, rfl, rfl, hk, ho, hf, hkr⟩ := hrel
    have HA := hid ho; have HAF := hid hf; have KR := hid hkr
    clear ho hf hkr
    by_cases hlt : k < D.length
    · have hltI : (k : Int) < (D.length : Int) := by omega
      obtain ⟨⟨v, m⟩, hv⟩ : ∃ x, D[k]? = some x := ⟨_, List.getElem?_eq_getElem hlt⟩
      have KW := hid (K4.out.trans KR.out)
      have kd : Kept (fun _ => False) w2 wr.drew := KW.out.drew
      have l1 := HLW.out _ kd
      have l2 : (Instr.lookup 66 (.map (some lb)) (.int .u32 v) false).run Try.prog wr.drew = .ok (.int .u8 m) wr.drew := by
        have hm := HM.out.of_block (kd.block _ HM.out.lt id)
        have he := HE.out.1 v
        rw [HD.out, lkw_of_mem (by have := HOK.out.r; rw [HD.out] at this; exact this) (List.mem_of_getElem? hv)] at he
        exact hm.run_look_some Try.underlying66 Try.underlying26 he false
      have c0 := (HB2.out.same kd).cell
      obtain ⟨d0, d1, d2⟩ := cells3 ((kd.block _ (row_lt HK2.out) id).trans HK2.out)
      obtain ⟨_, _, _, _, o4, _, _⟩ := cells7 (HO.out.same kd).obj
      rw [HLB.out, HOB.out] at o4
      obtain ⟨gs, sc', hse, hs1, hs2⟩ := HS.out.some_of_pos (by omega)
      simp only [Value.slice.injEq] at hse
      obtain ⟨rfl, _, rfl⟩ := hse
      have cs : wr.cell? ⟨gs, k, none⟩ = some (.int .u32 v) := by
        have := KR.out.cell (HS.out.cells rfl k (by simpa using hlt)) id
        rw [this]
        simp only [List.getElem_map]
        rw [(List.getElem?_eq_some_iff.1 hv).2]
      have hEC := hid (show wcells (D.take (k + 1)) = wcells (D.take k) ++ [.int .u32 v, .int .u8 m] from by
        rw [List.take_add_one, hv]
        simp [wcells, wcell])
      unfold maxLen at hs2
      have LO1 := hid l1
      clear hv hs1
      go_wp2_with fail
      refine wp_region_till (fun w' : World => w'.cell? ⟨tb, 0, none⟩ = some (.map (some mb)) ∧ w'.cell? ⟨kb, 0, none⟩ = some (.int .u8 t1) ∧ w'.cell? ⟨kb, 1, none⟩ = some (.int .u32 t2) ∧ w'.cell? ⟨kb, 2, none⟩ = some (.int .u32 t3) ∧ (Instr.lookup 61 (.map (some mb)) (.agg #[.int .u8 t1, .int .u32 t2, .int .u32 t3]) false).run Try.prog w' = .ok (.pointer (some ⟨ob, 0, none⟩)) w' ∧ w'.cell? ⟨ob, 4, none⟩ = some (.map (some lb)) ∧ (Instr.lookup 66 (.map (some lb)) (.int .u32 v) false).run Try.prog w' = .ok (.int .u8 m) w') 14 (by kernel_rfl) (by exact ⟨c0, d0, d1, d2, LO1.out, o4, l2⟩) (fun hHeld => ?_)
      refine till_pure 0 (some 35) (v := ?v801) (by decide) rfl (by kernel_rfl) (by kernel_rfl) (by kernel_rfl) (by kernel_rfl) (by decide) (fun _ _ _ h => h) (Or.inl ⟨by rfl, ?y801⟩) (by assumption) ?r801
      case y801 => (intro w hSw; clear hSw; go_simp; (try with_reducible rfl))
      simp only [Act.put, List.setIfInBounds_toArray, List.set_cons_zero, List.set_cons_succ]
      refine till_pure 1 (some 36) (v := ?v802) (by decide) rfl (by kernel_rfl) (by kernel_rfl) (by kernel_rfl) (by kernel_rfl) (by decide) (fun _ _ _ h => h) (Or.inl ⟨by rfl, ?y802⟩) (by assumption) ?r802
      case y802 => (intro w hSw; clear hSw; go_simp; (try with_reducible rfl))
      simp only [Act.put, List.setIfInBounds_toArray, List.set_cons_zero, List.set_cons_succ]
      refine till_pure 2 (some 37) (v := ?v803) (by decide) rfl (by kernel_rfl) (by kernel_rfl) (by kernel_rfl) (by kernel_rfl) (by decide) (fun _ _ _ h => h) (Or.inl ⟨by rfl, ?y803⟩) (by assumption) ?r803
      case y803 => (intro w hSw; clear hSw; go_simp; (try with_reducible rfl))
      simp only [Act.put, List.setIfInBounds_toArray, List.set_cons_zero, List.set_cons_succ]
      refine till_pure 3 (some 38) (v := ?v804) (by decide) rfl (by kernel_rfl) (by kernel_rfl) (by kernel_rfl) (by kernel_rfl) (by decide) (fun _ _ _ h => h) (Or.inl ⟨by rfl, ?y804⟩) (by assumption) ?r804
      case y804 => (intro w hSw; clear hSw; go_simp; (try with_reducible rfl))
      simp only [Act.put, List.setIfInBounds_toArray, List.set_cons_zero, List.set_cons_succ]
      refine till_pure 4 (some 39) (v := ?v805) (by decide) rfl (by kernel_rfl) (by kernel_rfl) (by kernel_rfl) (by kernel_rfl) (by decide) (fun _ _ _ h => h) (Or.inl ⟨by rfl, ?y805⟩) (by assumption) ?r805
      case y805 => (intro w hSw; clear hSw; go_simp; (try with_reducible rfl))
      simp only [Act.put, List.setIfInBounds_toArray, List.set_cons_zero, List.set_cons_succ]
      refine till_pure 11 (some 46) (v := ?v806) (by decide) rfl (by kernel_rfl) (by kernel_rfl) (by kernel_rfl) (by kernel_rfl) (by decide) (fun _ _ _ h => h) (Or.inl ⟨by rfl, ?y806⟩) (by assumption) ?r806
      case y806 => (intro w hSw; clear hSw; go_simp; (try with_reducible rfl))
      simp only [Act.put, List.setIfInBounds_toArray, List.set_cons_zero, List.set_cons_succ]
      refine till_load 5 (some 40) [13, 12, 10, 9, 8, 7] (v := ?v807) (by decide) rfl (by kernel_rfl) (by kernel_rfl) (by kernel_rfl) (by kernel_rfl) (by kernel_rfl) (by decide) (by decide) (fun _ _ _ h => h) (Or.inl ⟨by rfl, ?y807⟩) (by assumption) ?r807
      case y807 => (intro w hSw; (try dsimp only at hSw); go_simp; (try with_reducible rfl))
      simp only [Act.put, List.setIfInBounds_toArray, List.set_cons_zero, List.set_cons_succ]
      refine till_load 6 (some 41) [13, 12, 10, 9, 8, 7] (v := ?v808) (by decide) rfl (by kernel_rfl) (by kernel_rfl) (by kernel_rfl) (by kernel_rfl) (by kernel_rfl) (by decide) (by decide) (fun _ _ _ h => h) (Or.inl ⟨by rfl, ?y808⟩) (by assumption) ?r808
      case y808 => (intro w hSw; (try dsimp only at hSw); go_simp; (try with_reducible rfl))
      simp only [Act.put, List.setIfInBounds_toArray, List.set_cons_zero, List.set_cons_succ]
      refine till_load 7 (some 42) [13, 12, 10, 9, 8] (v := ?v809) (by decide) rfl (by kernel_rfl) (by kernel_rfl) (by kernel_rfl) (by kernel_rfl) (by kernel_rfl) (by decide) (by decide) (fun _ _ _ h => h) (Or.inl ⟨by rfl, ?y809⟩) (by assumption) ?r809
      case y809 => (intro w hSw; (try dsimp only at hSw); go_simp; (try with_reducible rfl))
      simp only [Act.put, List.setIfInBounds_toArray, List.set_cons_zero, List.set_cons_succ]
      refine till_pure 8 (some 43) (v := ?v810) (by decide) rfl (by kernel_rfl) (by kernel_rfl) (by kernel_rfl) (by kernel_rfl) (by decide) (fun _ _ _ h => h) (Or.inl ⟨by rfl, ?y810⟩) (by assumption) ?r810
      case y810 => (intro w hSw; clear hSw; go_simp; (try with_reducible rfl))
      simp only [Act.put, List.setIfInBounds_toArray, List.set_cons_zero, List.set_cons_succ]
      refine till_pure 9 (some 44) (v := ?v811) (by decide) rfl (by kernel_rfl) (by kernel_rfl) (by kernel_rfl) (by kernel_rfl) (by decide) (fun _ _ _ h => h) (Or.inl ⟨by rfl, ?y811⟩) (by assumption) ?r811
      case y811 => (intro w hSw; clear hSw; go_simp; (try with_reducible rfl))
      simp only [Act.put, List.setIfInBounds_toArray, List.set_cons_zero, List.set_cons_succ]
      refine till_load 10 (some 45) [13, 12] (v := ?v812) (by decide) rfl (by kernel_rfl) (by kernel_rfl) (by kernel_rfl) (by kernel_rfl) (by kernel_rfl) (by decide) (by decide) (fun _ _ _ h => h) (Or.inl ⟨by rfl, ?y812⟩) (by assumption) ?r812
      case y812 => (intro w hSw; (try dsimp only at hSw); go_simp; (try with_reducible rfl))
      simp only [Act.put, List.setIfInBounds_toArray, List.set_cons_zero, List.set_cons_succ]
      refine till_load 12 (some 47) [13] (v := ?v813) (by decide) rfl (by kernel_rfl) (by kernel_rfl) (by kernel_rfl) (by kernel_rfl) (by kernel_rfl) (by decide) (by decide) (fun _ _ _ h => h) (Or.inl ⟨by rfl, ?y813⟩) (by assumption) ?r813
      case y813 => (intro w hSw; (try dsimp only at hSw); go_simp; (try with_reducible rfl))
      simp only [Act.put, List.setIfInBounds_toArray, List.set_cons_zero, List.set_cons_succ]
      refine till_pure 13 (some 48) (v := ?v814) (by decide) rfl (by kernel_rfl) (by kernel_rfl) (by kernel_rfl) (by kernel_rfl) (by decide) (fun _ _ _ h => h) (Or.inl ⟨by rfl, ?y814⟩) (by assumption) ?r814
      case y814 => (intro w hSw; clear hSw; go_simp; (try with_reducible rfl))
      simp only [Act.put, List.setIfInBounds_toArray, List.set_cons_zero, List.set_cons_succ]
      refine till_list [15, 16] (by kernel_rfl) (by kernel_rfl) (by decide) (by decide) ?_
      simp only [pickOps, List.getElem?_toArray, List.getElem?_cons_zero, List.getElem?_cons_succ]
      clear l1 c0 d0 d1 d2 o4 l2 hHeld cs
      have hs0 : Src (wr.drew.alloc (.cells #[.int .u32 v, .int .u8 m] 36)) 2 (.slice (some ⟨wr.drew.heap.size, 0, none⟩) 1 1) 1 [.int .u32 v, .int .u8 m] :=
        src_row rfl (fun j u hu => by rw [row_cell (row_new wr.drew _)]; simpa using hu) (by simp [Value.oneCell'])
      have HSR := hid hs0
      clear hs0
      go_wp2_with (at_builtin; refine wpList_app rfl _ _ 37 rfl 36 _ 2 8 Try.underlying37 infoW rfl (by decide) (.slice ga k gc) k (wcells (D.take k)) rfl (HA.out.drew.alloc _) _ rfl 1 _ HSR.out (by unfold maxLen; omega) (by omega) ?_; intro a' c' w5 ho5 hk5 hf5 _; have HA5 := hid ho5; have HK5 := hid hk5; have HF5 := hid hf5; clear ho5 hk5 hf5)
      go_roundw
      case rel =>
        refine ⟨k + 1, a', c', rfl, by go_num, by omega, by rw [hEC.out]; exact HA5.out, fun b hb => ?_, ?_⟩
        · rcases HF5.out b hb with h | h
          · exact HAF.out b h
          · simp at h; have := KR.out.size; omega
        · exact (KR.out.drew.alloc _).trans' HK5.out (fun i hi => .inr (HAF.out i hi))
      case measure => (simp only [RowKit.intOf]; omega)
    · obtain rfl : k = D.length := by omega
      go_wp2
      go_ret
      exact ⟨ga, gc, rfl, by have := HA.out; rwa [List.take_length] at this, fun b hb => Nat.le_trans (K2.out.trans K4.out).size (HAF.out b hb), (K2.out.trans K4.out).trans KR.out⟩
end
end Go.Proofs.Ytpjhdpfaogdboaa
/- Ask, refused. -/
namespace Go.Proofs.Ytpjhdpfaogdboaa
set_option linter.unusedSimpArgs false
set_option linter.unusedVariables false
open Go.RowKit
theorem chk_any {F : Nat → Prop} {w : World} {a : Option Addr} {c : Nat} {ws : List Wt} (hl : Lies F w 2 (.slice a ws.length c) ws.length (wcells ws)) {n : Nat} {z : Int} (hn : ws.length = n) (hz : chkW ws = z) :
    Calls Try.prog 25 #[.slice a n c] w fun e w' => e = .returned (.int .i64 z) ∧ Kept (fun _ => False) w w' := by
  subst hn hz
  exact check_any hl
set_option maxRecDepth 100000 in
set_option maxHeartbeats 1000000 in
theorem ask_err {F : Nat → Prop} {w : World} {tp : Value} {t1 t2 t3 age : Int} {a : Option Addr} {c : Nat} {ws : List Wt} (hl : Lies F w 2 (.slice a ws.length c) ws.length (wcells ws)) (hz : chkW ws ≠ 0) :
    Calls Try.prog 11 #[tp, .agg #[.int .u8 t1, .int .u32 t2, .int .u32 t3], .int .u64 age, .slice a ws.length c] w fun e w' => e = .returned (.tuple #[.slice none 0 0, .slice none 0 0, .int .i64 (chkW ws)]) ∧ Kept (fun _ => False) w w' := by
  have hk1 := (Kept.refl (fun _ => False) w).alloc (.cells #[.int .u8 t1, .int .u32 t2, .int .u32 t3] 32)
  have hkb := row_new w (.cells #[.int .u8 t1, .int .u32 t2, .int .u32 t3] 32)
  obtain ⟨w1, hw1⟩ : ∃ w1, w.alloc (.cells #[.int .u8 t1, .int .u32 t2, .int .u32 t3] 32) = w1 := ⟨_, rfl⟩
  obtain ⟨kb, hkb'⟩ : ∃ kb, w.heap.size = kb := ⟨_, rfl⟩
  rw [hw1] at hk1 hkb
  rw [hkb'] at hkb
  have HKB := hid (Nat.le_of_eq hkb'.symm)
  have K1 := hid hk1; have HK1 := hid hkb
  have HLI := hid (hl.same hk1)
  obtain ⟨n, hn⟩ : ∃ n, ws.length = n := ⟨_, rfl⟩
  have HN := hid hn
  rw [hn]
  clear hl hk1 hkb hn
  obtain ⟨z, hzz⟩ : ∃ z, chkW ws = z := ⟨_, rfl⟩
  rw [hzz] at hz ⊢
  have hz1 : (z != 0) = true := by simpa using hz
  have HC := hid (chk_any HLI.out HN.out hzz)
  clear hz hzz
  go_enter Try.func11, Try.ntmps11
  go_wp2_with fail
  try rw [hw1, hkb']
  clear hw1 hkb'
  refine HC.out.mono ?_
  rintro e w2 ⟨rfl, hk2⟩
  have K2 := hid (K1.out.trans hk2)
  clear hk2
  go_wp2
  exact bodyPost_ret (v := .tuple #[.slice none 0 0, .slice none 0 0, .int .i64 z]) (by simp [results, Try.results11, go_sem]) rfl ⟨rfl, K2.out⟩
set_option maxRecDepth 100000 in
set_option maxHeartbeats 1000000 in
theorem ask_nil {F : Nat → Prop} {w : World} {t1 t2 t3 age : Int} {a : Option Addr} {c : Nat} {ws : List Wt} (hl : Lies F w 2 (.slice a ws.length c) ws.length (wcells ws)) (hz : chkW ws = 0) :
    Calls Try.prog 11 #[.pointer none, .agg #[.int .u8 t1, .int .u32 t2, .int .u32 t3], .int .u64 age, .slice a ws.length c] w fun e w' => e = .returned (.tuple #[.slice none 0 0, .slice none 0 0, .int .i64 6]) ∧ Kept (fun _ => False) w w' := by
  have hk1 := (Kept.refl (fun _ => False) w).alloc (.cells #[.int .u8 t1, .int .u32 t2, .int .u32 t3] 32)
  have hkb := row_new w (.cells #[.int .u8 t1, .int .u32 t2, .int .u32 t3] 32)
  obtain ⟨w1, hw1⟩ : ∃ w1, w.alloc (.cells #[.int .u8 t1, .int .u32 t2, .int .u32 t3] 32) = w1 := ⟨_, rfl⟩
  obtain ⟨kb, hkb'⟩ : ∃ kb, w.heap.size = kb := ⟨_, rfl⟩
  rw [hw1] at hk1 hkb
  rw [hkb'] at hkb
  have HKB := hid (Nat.le_of_eq hkb'.symm)
  have K1 := hid hk1; have HK1 := hid hkb
  have HLI := hid (hl.same hk1)
  obtain ⟨n, hn⟩ : ∃ n, ws.length = n := ⟨_, rfl⟩
  have HN := hid hn
  rw [hn]
  clear hl hk1 hkb hn
  have HC := hid (chk_any HLI.out HN.out hz)
  clear hz
  go_enter Try.func11, Try.ntmps11
  go_wp2_with fail
  try rw [hw1, hkb']
  clear hw1 hkb'
  refine HC.out.mono ?_
  rintro e w2 ⟨rfl, hk2⟩
  have K2 := hid (K1.out.trans hk2)
  clear hk2
  go_wp2
  exact bodyPost_ret (v := .tuple #[.slice none 0 0, .slice none 0 0, .int .i64 6]) (by simp [results, Try.results11, go_sem]) rfl ⟨rfl, K2.out⟩
section
variable {own : Nat → Option Tx} {B : Nat} {w w' : World} {tb mb : Nat} {L : List Ow} {A : Tx → Ad}
set_option maxRecDepth 100000 in
set_option maxHeartbeats 1000000 in
theorem ask_st {F : Nat → Prop} {t1 t2 t3 age : Int} {a : Option Addr} {c : Nat} {ws : List Wt} {o : Ow} (hb : Tab own B w tb mb L A) (hl : Lies F w 2 (.slice a ws.length c) ws.length (wcells ws)) (hz : chkW ws = 0) (hl2 : findO L (t1, t2, t3) = some o)
    (hs : 0 < o.ws.length ∨ o.fast = true ∨ o.age ≠ age) :
    Calls Try.prog 11 #[.pointer (some ⟨tb, 0, none⟩), .agg #[.int .u8 t1, .int .u32 t2, .int .u32 t3], .int .u64 age, .slice a ws.length c] w fun e w' => e = .returned (.tuple #[.slice none 0 0, .slice none 0 0, .int .i64 9]) ∧ Kept (fun _ => False) w w' := by
  have HS := hid hs
  clear hs
  have hk1 := (Kept.refl (fun _ => False) w).alloc (.cells #[.int .u8 t1, .int .u32 t2, .int .u32 t3] 32)
  have hkb := row_new w (.cells #[.int .u8 t1, .int .u32 t2, .int .u32 t3] 32)
  obtain ⟨w1, hw1⟩ : ∃ w1, w.alloc (.cells #[.int .u8 t1, .int .u32 t2, .int .u32 t3] 32) = w1 := ⟨_, rfl⟩
  obtain ⟨kb, hkb'⟩ : ∃ kb, w.heap.size = kb := ⟨_, rfl⟩
  rw [hw1] at hk1 hkb
  rw [hkb'] at hkb
  have HKB := hid (Nat.le_of_eq hkb'.symm)
  have K1 := hid hk1; have HK1 := hid hkb
  have HLI := hid (hl.same hk1)
  obtain ⟨n, hn⟩ : ∃ n, ws.length = n := ⟨_, rfl⟩
  have HN := hid hn
  rw [hn]
  clear hl hk1 hkb hn
  have HB1 := hid (hb.same K1.out)
  have HC := hid (chk_any HLI.out HN.out hz)
  have HL := hid hl2; have HZ := hid hz
  clear hb hz hl2
  go_enter Try.func11, Try.ntmps11
  go_wp2_with fail
  try rw [hw1, hkb']
  clear hw1 hkb'
  refine HC.out.mono ?_
  rintro e w2 ⟨rfl, hk2⟩
  have K2 := hid (K1.out.trans hk2)
  have HB2 := hid (HB1.out.same hk2)
  have HK2 := hid ((hk2.block _ (row_lt HK1.out) id).trans HK1.out)
  have HL2 := hid (HLI.out.same hk2)
  clear hk2 HB1 HK1 HLI K1
  have l0 := HB2.out.look1 HL.out
  have c0 := HB2.out.cell
  obtain ⟨d0, d1, d2⟩ := cells3 HK2.out
  go_wp2_with fail
  go_quiet (fail)
  have hk3 := kept_drewN (F := fun _ => False) w2 nq
  have K3 := hid (K2.out.trans hk3)
  have HB3 := hid (HB2.out.same hk3)
  have HK3 := hid ((hk3.block _ (row_lt HK2.out) id).trans HK2.out)
  have HL3 := hid (HL2.out.same hk3)
  obtain ⟨w3, hw3⟩ : ∃ w3, w2.drewN nq = w3 := ⟨_, rfl⟩
  rw [hw3] at K3 HB3 HK3 HL3
  clear hk3 l0 c0 d0 d1 d2 HB2 HK2 HL2 K2
  obtain ⟨hom, hot⟩ := findO_mem HL.out
  have HO := hid (HB3.out.ows _ hom)
  have HOT := hid hot; have HOM := hid hom
  rw [hot] at HO
  clear hom hot
  obtain ⟨ad, had⟩ : ∃ ad, A (t1, t2, t3) = ad := ⟨_, rfl⟩
  have HAD := hid had
  rw [had] at HO ⊢
  clear had
  obtain ⟨_, _, _, o3, _, _, o6⟩ := cells7 HO.out.obj
  have HS1 := HS.out
  go_wp2_with fail
  try rw [hw3]
  clear hw3
  by_cases h1 : 0 < o.ws.length
  · have HW := hid (show decide (0 < o.ws.length) = true by simp [h1])
    clear h1 HS1
    refine (waits_b HO.out HW.out).mono ?_; rintro e w' ⟨rfl, rfl⟩
    go_wp2
    exact bodyPost_ret (v := .tuple #[.slice none 0 0, .slice none 0 0, .int .i64 9]) (by simp [results, Try.results11, go_sem]) rfl ⟨rfl, K3.out⟩
  · have HW := hid (show decide (0 < o.ws.length) = false by simp [h1])
    obtain ⟨of, hof⟩ : ∃ b, o.fast = b := ⟨_, rfl⟩
    rw [hof] at o6 HS1
    cases of with
    | true =>
      clear h1 HS1 hof
      refine (waits_b HO.out HW.out).mono ?_; rintro e w' ⟨rfl, rfl⟩
      go_wp2
      exact bodyPost_ret (v := .tuple #[.slice none 0 0, .slice none 0 0, .int .i64 9]) (by simp [results, Try.results11, go_sem]) rfl ⟨rfl, K3.out⟩
    | false =>
      have ha : (o.age != age) = true := by
        rcases HS1 with h | h | h
        · exact absurd h h1
        · cases h
        · simpa using h
      clear h1 HS1 hof
      refine (waits_b HO.out HW.out).mono ?_; rintro e w' ⟨rfl, rfl⟩
      go_wp2
      exact bodyPost_ret (v := .tuple #[.slice none 0 0, .slice none 0 0, .int .i64 9]) (by simp [results, Try.results11, go_sem]) rfl ⟨rfl, K3.out⟩
set_option maxRecDepth 100000 in
set_option maxHeartbeats 1000000 in
theorem ask_full1 {F : Nat → Prop} {t1 t2 t3 age : Int} {a : Option Addr} {c : Nat} {ws : List Wt} {o : Ow} (hb : Tab own B w tb mb L A) (hl : Lies F w 2 (.slice a ws.length c) ws.length (wcells ws)) (hz : chkW ws = 0) (hl2 : findO L (t1, t2, t3) = some o)
    (h1 : ¬ 0 < o.ws.length) (h2 : o.fast = false) (h3 : o.age = age) (hc : cnt L ≤ 1000000) (hf : 256 < cnt L + ws.length) :
    Calls Try.prog 11 #[.pointer (some ⟨tb, 0, none⟩), .agg #[.int .u8 t1, .int .u32 t2, .int .u32 t3], .int .u64 age, .slice a ws.length c] w fun e w' => e = .returned (.tuple #[.slice none 0 0, .slice none 0 0, .int .i64 10]) ∧ Kept (fun _ => False) w w' := by
  have HW := hid (show decide (0 < o.ws.length) = false by simp [h1])
  have H2 := hid h2; have H3 := hid h3; have HF := hid hf
  clear h1 h2 h3 hf
  have hk1 := (Kept.refl (fun _ => False) w).alloc (.cells #[.int .u8 t1, .int .u32 t2, .int .u32 t3] 32)
  have hkb := row_new w (.cells #[.int .u8 t1, .int .u32 t2, .int .u32 t3] 32)
  obtain ⟨w1, hw1⟩ : ∃ w1, w.alloc (.cells #[.int .u8 t1, .int .u32 t2, .int .u32 t3] 32) = w1 := ⟨_, rfl⟩
  obtain ⟨kb, hkb'⟩ : ∃ kb, w.heap.size = kb := ⟨_, rfl⟩
  rw [hw1] at hk1 hkb
  rw [hkb'] at hkb
  have HKB := hid (Nat.le_of_eq hkb'.symm)
  have K1 := hid hk1; have HK1 := hid hkb
  have HLI := hid (hl.same hk1)
  obtain ⟨n, hn⟩ : ∃ n, ws.length = n := ⟨_, rfl⟩
  have HN := hid hn
  rw [hn]
  clear hl hk1 hkb hn
  have HB1 := hid (hb.same K1.out)
  have HC := hid (chk_any HLI.out HN.out hz)
  have HL := hid hl2; have HZ := hid hz
  clear hb hz hl2
  go_enter Try.func11, Try.ntmps11
  go_wp2_with fail
  try rw [hw1, hkb']
  clear hw1 hkb'
  refine HC.out.mono ?_
  rintro e w2 ⟨rfl, hk2⟩
  have K2 := hid (K1.out.trans hk2)
  have HB2 := hid (HB1.out.same hk2)
  have HK2 := hid ((hk2.block _ (row_lt HK1.out) id).trans HK1.out)
  have HL2 := hid (HLI.out.same hk2)
  clear hk2 HB1 HK1 HLI K1
  have l0 := HB2.out.look1 HL.out
  have c0 := HB2.out.cell
  obtain ⟨d0, d1, d2⟩ := cells3 HK2.out
  go_wp2_with fail
  go_quiet (fail)
  have hk3 := kept_drewN (F := fun _ => False) w2 nq
  have K3 := hid (K2.out.trans hk3)
  have HB3 := hid (HB2.out.same hk3)
  have HK3 := hid ((hk3.block _ (row_lt HK2.out) id).trans HK2.out)
  have HL3 := hid (HL2.out.same hk3)
  obtain ⟨w3, hw3⟩ : ∃ w3, w2.drewN nq = w3 := ⟨_, rfl⟩
  rw [hw3] at K3 HB3 HK3 HL3
  clear hk3 l0 c0 d0 d1 d2 HB2 HK2 HL2 K2
  obtain ⟨hom, hot⟩ := findO_mem HL.out
  have HO := hid (HB3.out.ows _ hom)
  have HOT := hid hot; have HOM := hid hom
  rw [hot] at HO
  clear hom hot
  obtain ⟨ad, had⟩ : ∃ ad, A (t1, t2, t3) = ad := ⟨_, rfl⟩
  have HAD := hid had
  rw [had] at HO ⊢
  clear had
  obtain ⟨_, _, _, o3, _, _, o6⟩ := cells7 HO.out.obj
  rw [H3.out] at o3
  rw [H2.out] at o6
  have hf := HF.out
  rw [HN.out] at hf
  have HCN := hid (count_any HB3.out hc)
  have hfu : (256 : Int) < (cnt L : Int) + (n : Int) := by omega
  have hcb : cnt L ≤ 1000000 := hc
  have hnb : n ≤ 40 := by have := (chkW_ok HZ.out).2.1; rw [HN.out] at this; exact this
  obtain ⟨q, hq⟩ : ∃ q, cnt L = q := ⟨_, rfl⟩
  rw [hq] at HCN hfu hcb
  clear hc hq
  clear hf
  go_wp2_with fail
  try rw [hw3]
  clear hw3
  refine (waits_b HO.out HW.out).mono ?_; rintro e w' ⟨rfl, rfl⟩
  go_wp2_with fail
  refine HCN.out.mono ?_
  rintro e w4 ⟨rfl, hk4⟩
  have K4 := hid (K3.out.trans hk4)
  clear hk4 o3 o6
  go_wp2
  exact bodyPost_ret (v := .tuple #[.slice none 0 0, .slice none 0 0, .int .i64 10]) (by simp [results, Try.results11, go_sem]) rfl ⟨rfl, K4.out⟩
set_option maxRecDepth 100000 in
set_option maxHeartbeats 1000000 in
theorem ask_full0 {F : Nat → Prop} {t1 t2 t3 age : Int} {a : Option Addr} {c : Nat} {ws : List Wt} (hb : Tab own B w tb mb L A) (hl : Lies F w 2 (.slice a ws.length c) ws.length (wcells ws)) (hz : chkW ws = 0) (hl2 : findO L (t1, t2, t3) = none)
    (hc : cnt L ≤ 1000000) (hf : 256 < cnt L + ws.length) :
    Calls Try.prog 11 #[.pointer (some ⟨tb, 0, none⟩), .agg #[.int .u8 t1, .int .u32 t2, .int .u32 t3], .int .u64 age, .slice a ws.length c] w fun e w' => e = .returned (.tuple #[.slice none 0 0, .slice none 0 0, .int .i64 10]) ∧ Kept (fun _ => False) w w' := by
  have HF := hid hf
  clear hf
  have hk1 := (Kept.refl (fun _ => False) w).alloc (.cells #[.int .u8 t1, .int .u32 t2, .int .u32 t3] 32)
  have hkb := row_new w (.cells #[.int .u8 t1, .int .u32 t2, .int .u32 t3] 32)
  obtain ⟨w1, hw1⟩ : ∃ w1, w.alloc (.cells #[.int .u8 t1, .int .u32 t2, .int .u32 t3] 32) = w1 := ⟨_, rfl⟩
  obtain ⟨kb, hkb'⟩ : ∃ kb, w.heap.size = kb := ⟨_, rfl⟩
  rw [hw1] at hk1 hkb
  rw [hkb'] at hkb
  have HKB := hid (Nat.le_of_eq hkb'.symm)
  have K1 := hid hk1; have HK1 := hid hkb
  have HLI := hid (hl.same hk1)
  obtain ⟨n, hn⟩ : ∃ n, ws.length = n := ⟨_, rfl⟩
  have HN := hid hn
  rw [hn]
  clear hl hk1 hkb hn
  have HB1 := hid (hb.same K1.out)
  have HC := hid (chk_any HLI.out HN.out hz)
  have HL := hid hl2; have HZ := hid hz
  clear hb hz hl2
  go_enter Try.func11, Try.ntmps11
  go_wp2_with fail
  try rw [hw1, hkb']
  clear hw1 hkb'
  refine HC.out.mono ?_
  rintro e w2 ⟨rfl, hk2⟩
  have K2 := hid (K1.out.trans hk2)
  have HB2 := hid (HB1.out.same hk2)
  have HK2 := hid ((hk2.block _ (row_lt HK1.out) id).trans HK1.out)
  have HL2 := hid (HLI.out.same hk2)
  clear hk2 HB1 HK1 HLI K1
  have l0 := HB2.out.look0 HL.out
  have c0 := HB2.out.cell
  obtain ⟨d0, d1, d2⟩ := cells3 HK2.out
  go_wp2_with fail
  go_quiet (fail)
  have hk3 := kept_drewN (F := fun _ => False) w2 nq
  have K3 := hid (K2.out.trans hk3)
  have HB3 := hid (HB2.out.same hk3)
  have HK3 := hid ((hk3.block _ (row_lt HK2.out) id).trans HK2.out)
  have HL3 := hid (HL2.out.same hk3)
  obtain ⟨w3, hw3⟩ : ∃ w3, w2.drewN nq = w3 := ⟨_, rfl⟩
  rw [hw3] at K3 HB3 HK3 HL3
  clear hk3 l0 c0 d0 d1 d2 HB2 HK2 HL2 K2
  have hf := HF.out
  rw [HN.out] at hf
  have HCN := hid (count_any HB3.out hc)
  have hfu : (256 : Int) < (cnt L : Int) + (n : Int) := by omega
  have hcb : cnt L ≤ 1000000 := hc
  have hnb : n ≤ 40 := by have := (chkW_ok HZ.out).2.1; rw [HN.out] at this; exact this
  obtain ⟨q, hq⟩ : ∃ q, cnt L = q := ⟨_, rfl⟩
  rw [hq] at HCN hfu hcb
  clear hc hq
  clear hf
  go_wp2_with fail
  try rw [hw3]
  clear hw3
  refine HCN.out.mono ?_
  rintro e w4 ⟨rfl, hk4⟩
  have K4 := hid (K3.out.trans hk4)
  clear hk4
  go_wp2
  exact bodyPost_ret (v := .tuple #[.slice none 0 0, .slice none 0 0, .int .i64 10]) (by simp [results, Try.results11, go_sem]) rfl ⟨rfl, K4.out⟩
end
end Go.Proofs.Ytpjhdpfaogdboaa
/- Ask, granted: plain and memory parts of its loop. -/
namespace Go.Proofs.Ytpjhdpfaogdboaa
set_option linter.unusedSimpArgs false
set_option linter.unusedVariables false
open Go.RowKit
/-- without those that were wounded -/
def remS (L : List Ow) (S : List Tx) : List Ow := L.filter fun x => decide (x.tx ∉ S)
def hurtS (L : List Ow) (o : Ow) (ws : List Wt) (k : Nat) : List Tx := ((L.take k).filter (hurt o ws)).map (·.tx)
theorem remS_nil (L : List Ow) : remS L [] = L := by unfold remS; simp
theorem remS_drop (L : List Ow) (S : List Tx) (t : Tx) : dropO (remS L S) t = remS L (S ++ [t]) := by
  unfold dropO remS
  rw [List.filter_filter]
  refine List.filter_congr fun x _ => ?_
  rw [Bool.eq_iff_iff]
  simp only [Bool.and_eq_true, decide_eq_true_eq, List.mem_append, List.mem_singleton, not_or]
  exact And.comm
theorem hurtS_step {L : List Ow} {o x : Ow} {ws : List Wt} {k : Nat} (h : L[k]? = some x) : hurtS L o ws (k + 1) = hurtS L o ws k ++ (if hurt o ws x = true then [x.tx] else []) := by
  unfold hurtS
  rw [List.take_add_one, h, List.filter_append, List.map_append]
  by_cases h0 : hurt o ws x = true
  · simp [h0]
  · simp [h0]
theorem hurtS_len (L : List Ow) (o : Ow) (ws : List Wt) (k : Nat) : (hurtS L o ws k).length ≤ k := by
  unfold hurtS
  rw [List.length_map]
  have h1 := List.length_filter_le (hurt o ws) (L.take k)
  have h2 := List.length_take_le k L
  omega
theorem mem_remS {L : List Ow} (hn : (L.map (·.tx)).Nodup) {o x : Ow} {ws : List Wt} {k : Nat} (h : L[k]? = some x) : x ∈ remS L (hurtS L o ws k) := by
  unfold remS
  rw [List.mem_filter, decide_eq_true_eq]
  refine ⟨List.mem_of_getElem? h, fun hm => ?_⟩
  obtain ⟨y, hy, e⟩ := List.mem_map.1 hm
  obtain ⟨j, hj⟩ := List.getElem?_of_mem (List.mem_filter.1 hy).1
  rw [List.getElem?_take] at hj
  split at hj
  · have := nodup_at hn hj h e
    omega
  · cases hj
theorem remS_all {L : List Ow} (hn : (L.map (·.tx)).Nodup) (o : Ow) (ws : List Wt) : remS L (hurtS L o ws L.length) = L.filter fun x => !hurt o ws x := by
  unfold remS hurtS
  rw [List.take_length]
  refine List.filter_congr fun x hx => ?_
  rw [Bool.eq_iff_iff]
  simp only [decide_eq_true_eq, Bool.not_eq_true']
  constructor
  · intro h
    rw [← Bool.not_eq_true]
    exact fun h2 => h (List.mem_map.2 ⟨x, List.mem_filter.2 ⟨hx, h2⟩, rfl⟩)
  · intro h hm
    obtain ⟨y, hy, e⟩ := List.mem_map.1 hm
    obtain ⟨hy1, hy2⟩ := List.mem_filter.1 hy
    obtain ⟨i, hi⟩ := List.getElem?_of_mem hy1
    obtain ⟨j, hj⟩ := List.getElem?_of_mem hx
    have := nodup_at hn hi hj e
    rw [this, hj] at hi
    rw [Option.some.inj hi, hy2] at h
    cases h
theorem kept_grow (w : World) (q : Nat) (os : Array Obj) : Kept (fun _ => False) w (Go.Sort.grow (w.drewN q) os) := by
  refine ⟨rfl, rfl, rfl, ?_, fun i hi _ => ?_⟩
  · simp [Go.Sort.grow]
  · simp only [Go.Sort.grow]
    rw [Array.getElem?_append_left (by simpa using hi)]
    rfl
theorem tx_ne (a b : Tx) (w : World) : (binOp .neq 32 (txv a) (txv b)).run Try.prog w = .ok (.bool (!decide (a = b))) w := by
  have h := tx_same a b w
  obtain ⟨a1, a2, a3⟩ := a
  obtain ⟨b1, b2, b3⟩ := b
  unfold txv at h ⊢
  unfold binOp
  show ((Op.equal 32 (.agg #[.int .u8 a1, .int .u32 a2, .int .u32 a3]) (.agg #[.int .u8 b1, .int .u32 b2, .int .u32 b3])) >>= fun r => pure (Value.bool !r)).run Try.prog w = _
  rw [Sem.run_bind, h, Result.andThen_ok]
  rfl
structure Wnd (own2 : Nat → Option Tx) (B : Nat) (wz wa : World) (tb mb : Nat) (L : List Ow) (A : Tx → Ad) (o : Ow) (ad : Ad) (a : Option Addr) (N c : Nat) (S : List Tx) (da : Option Addr) (dc : Nat) (wr : World) : Prop where
  t : Tab own2 B wr tb mb (remS L S) A
  o : OwIn (fun i => own2 i = some o.tx) wr ad o
  g : Own wr 32 3 (.slice da S.length dc) S.length (S.flatMap encT)
  n : ∀ b, (Value.slice da S.length dc).ownBlock = some b → wa.heap.size ≤ b
  l : Lies (fun g => g < wz.heap.size ∨ wa.heap.size ≤ g) wr 1 (.slice a N c) N (ptrs (obs A L))
  k : Kept (fun i => i = mb) wa wr
theorem Wnd.same {own2 : Nat → Option Tx} {B : Nat} {wz wa : World} {tb mb : Nat} {L : List Ow} {A : Tx → Ad} {o : Ow} {ad : Ad} {a : Option Addr} {N c : Nat} {S : List Tx} {da : Option Addr} {dc : Nat} {wr w' : World} (h : Wnd own2 B wz wa tb mb L A o ad a N c S da dc wr) (k : Kept (fun _ => False) wr w') : Wnd own2 B wz wa tb mb L A o ad a N c S da dc w' :=
  ⟨h.t.same k, h.o.same k, h.g.kept k (fun _ _ => id), h.n, h.l.same k, h.k.trans (k.mono (fun _ _ h => h.elim))⟩
theorem LiesIn.out2 {F : Nat → Prop} {w : World} {s : Nat} {v : Value} {m : Nat} {xs : List Value} (h : Lies F w s v m xs) (G : Nat → Prop) (hg : ∀ g, g < w.heap.size → G g → F g) : Lies G w s v m xs := h.mono hg
/-- own blocks and two more -/
def ownP (own : Nat → Option Tx) (ob lb : Nat) (t : Tx) : Nat → Option Tx := fun i => if i = ob ∨ i = lb then some t else own i
theorem Tab.more {own : Nat → Option Tx} {B : Nat} {w w' : World} {tb mb : Nat} {L : List Ow} {A : Tx → Ad} (h : Tab own B w tb mb L A) (k : Kept (fun _ => False) w w') {ob lb : Nat} {t : Tx} (ho : w.heap.size ≤ ob ∧ ob < w'.heap.size) (hl : w.heap.size ≤ lb ∧ lb < w'.heap.size) :
    Tab (ownP own ob lb t) B w' tb mb L A := by
  have h' := h.same k
  have hB : B ≤ w.heap.size := Nat.le_trans h.low.1 (Nat.le_of_lt (row_lt h.obj))
  have e : ∀ i, i < w.heap.size → ownP own ob lb t i = own i := fun i hi => if_neg (by omega)
  refine ⟨h'.obj, h'.map, fun o ho2 => (h.ows o ho2).same k |>.mono (fun i hi hi2 => ?_), ⟨(e _ (row_lt h.obj)).trans h.top.1, (e _ h.mlt).trans h.top.2⟩, fun i hi => ?_, ⟨h.low.1, h.low.2.1, fun i t' hi => ?_⟩, h.srt, h.ok⟩
  · have : i < w.heap.size := by
      rcases Nat.lt_or_ge i w.heap.size with h1 | h1
      · exact h1
      · rw [h.new i h1] at hi2; cases hi2
    rw [e i this]
    exact hi2
  · have hs := k.size
    show (if i = ob ∨ i = lb then some t else own i) = none
    rw [if_neg (by omega)]
    exact h.new i (by omega)
  · have hd : (if i = ob ∨ i = lb then some t else own i) = some t' := hi
    by_cases hc : i = ob ∨ i = lb
    · omega
    · rw [if_neg hc] at hd
      exact h.low.2.2 i t' hd
end Go.Proofs.Ytpjhdpfaogdboaa
/- Ask, granted. -/
namespace Go.Proofs.Ytpjhdpfaogdboaa
set_option linter.unusedSimpArgs false
set_option linter.unusedVariables false
open Go.RowKit
theorem sa_kept {w w' : World} {kb xb ob : Nat} {t1 t2 t3 age y1 y2 y3 xa : Int} (k : Kept (fun _ => False) w w') (h : w.cell? ⟨kb, 0, none⟩ = some (.int .u8 t1) ∧ w.cell? ⟨kb, 1, none⟩ = some (.int .u32 t2) ∧ w.cell? ⟨kb, 2, none⟩ = some (.int .u32 t3) ∧ w.cell? ⟨xb, 0, none⟩ = some (.int .u8 y1) ∧ w.cell? ⟨xb, 1, none⟩ = some (.int .u32 y2) ∧ w.cell? ⟨xb, 2, none⟩ = some (.int .u32 y3) ∧ w.cell? ⟨xb, 3, none⟩ = some (.int .u64 xa) ∧ w.cell? ⟨xb, 6, none⟩ = some (.bool false) ∧ w.cell? ⟨ob, 0, none⟩ = some (.int .u8 t1) ∧ w.cell? ⟨ob, 1, none⟩ = some (.int .u32 t2) ∧ w.cell? ⟨ob, 2, none⟩ = some (.int .u32 t3) ∧ w.cell? ⟨ob, 3, none⟩ = some (.int .u64 age)) : w'.cell? ⟨kb, 0, none⟩ = some (.int .u8 t1) ∧ w'.cell? ⟨kb, 1, none⟩ = some (.int .u32 t2) ∧ w'.cell? ⟨kb, 2, none⟩ = some (.int .u32 t3) ∧ w'.cell? ⟨xb, 0, none⟩ = some (.int .u8 y1) ∧ w'.cell? ⟨xb, 1, none⟩ = some (.int .u32 y2) ∧ w'.cell? ⟨xb, 2, none⟩ = some (.int .u32 y3) ∧ w'.cell? ⟨xb, 3, none⟩ = some (.int .u64 xa) ∧ w'.cell? ⟨xb, 6, none⟩ = some (.bool false) ∧ w'.cell? ⟨ob, 0, none⟩ = some (.int .u8 t1) ∧ w'.cell? ⟨ob, 1, none⟩ = some (.int .u32 t2) ∧ w'.cell? ⟨ob, 2, none⟩ = some (.int .u32 t3) ∧ w'.cell? ⟨ob, 3, none⟩ = some (.int .u64 age) := by
  obtain ⟨h1, h2, h3, h4, h5, h6, h7, h8, h9, h10, h11, h12⟩ := h
  exact ⟨k.cell h1 id, k.cell h2 id, k.cell h3 id, k.cell h4 id, k.cell h5 id, k.cell h6 id, k.cell h7 id, k.cell h8 id, k.cell h9 id, k.cell h10 id, k.cell h11 id, k.cell h12 id⟩
theorem ow_cells {O : Nat → Prop} {w : World} {ad : Ad} {xb : Nat} {y1 y2 y3 xa : Int} {xlk xws : List Wt} {xf : Bool} (h : OwIn O w ad ⟨(y1, y2, y3), xa, xlk, xws, xf⟩) (hb : ad.ob = xb) :
    w.cell? ⟨xb, 0, none⟩ = some (.int .u8 y1) ∧ w.cell? ⟨xb, 1, none⟩ = some (.int .u32 y2) ∧ w.cell? ⟨xb, 2, none⟩ = some (.int .u32 y3) ∧ w.cell? ⟨xb, 3, none⟩ = some (.int .u64 xa) ∧ w.cell? ⟨xb, 6, none⟩ = some (.bool xf) := by
  subst hb
  obtain ⟨c0, c1, c2, c3, _, _, c6⟩ := cells7 h.obj
  exact ⟨c0, c1, c2, c3, c6⟩
theorem holds_n {O F : Nat → Prop} {w : World} {ad : Ad} {o : Ow} (h : OwIn O w ad o) (hr : Ris o.lk) (hf : Fm o.lk) {a : Option Addr} {c : Nat} {ws : List Wt} (hl : Lies F w 2 (.slice a ws.length c) ws.length (wcells ws)) {n xb : Nat} (hn : ws.length = n) (hx : ad.ob = xb) {b : Bool} (hb : clash o.lk ws = b) :
    Calls Try.prog 29 #[.pointer (some ⟨xb, 0, none⟩), .slice a n c] w fun e w' => e = .returned (.bool b) ∧ Kept (fun _ => False) w w' := by
  subst hn hb hx
  exact holds_any h hr hf hl
theorem lies_swap {F G : Nat → Prop} {w : World} {s g off m c : Nat} {xs : List Value} (h : Lies F w s (.slice (some ⟨g, off, none⟩) m c) m xs) (hg : ¬ G g) : Lies G w s (.slice (some ⟨g, off, none⟩) m c) m xs := by
  obtain ⟨ao, c', e, h1, h2, h3, h4, h5, h6⟩ := h
  simp only [Value.slice.injEq] at e
  obtain ⟨rfl, _, rfl⟩ := e
  refine ⟨_, _, rfl, h1, h2, h3, (fun e => nomatch e), fun hm => ?_, h6⟩
  obtain ⟨g', off', e, hF, hl, hc⟩ := h5 hm
  simp only [Option.some.injEq, Addr.mk.injEq, and_true] at e
  obtain ⟨rfl, rfl⟩ := e
  exact ⟨_, _, rfl, hg, hl, hc⟩
section
variable {own : Nat → Option Tx} {B : Nat} {w w' : World} {tb mb : Nat} {L : List Ow} {A : Tx → Ad}
set_option maxRecDepth 100000 in
set_option maxHeartbeats 8000000 in
theorem ask_old {t1 t2 t3 age : Int} {a : Option Addr} {c : Nat} {ws lk : List Wt} {o : Ow} (hb : Tab own B w tb mb L A) (hl : Lies (fun i => i = mb) w 2 (.slice a ws.length c) ws.length (wcells ws)) (hz : chkW ws = 0) (hl2 : findO L (t1, t2, t3) = some o) (hoe : ⟨(t1, t2, t3), age, lk, [], false⟩ = o) (hf : cnt L + ws.length ≤ 256) (hLL : L.length ≤ 900000) :
    Calls Try.prog 11 #[.pointer (some ⟨tb, 0, none⟩), .agg #[.int .u8 t1, .int .u32 t2, .int .u32 t3], .int .u64 age, .slice a ws.length c] w fun e w' => ∃ own' A' ga gc da dc, e = .returned (.tuple #[.slice ga (settled (askL L o ws)).2.length gc, .slice da ((L.filter (hurt o ws)).map (·.tx)).length dc, .int .i64 0]) ∧ Tab own' B w' tb mb (settled (askL L o ws)).1 A'
      ∧ Own w' 32 3 (.slice ga (settled (askL L o ws)).2.length gc) (settled (askL L o ws)).2.length ((settled (askL L o ws)).2.flatMap encT) ∧ (∀ b, (Value.slice ga (settled (askL L o ws)).2.length gc).ownBlock = some b → w.heap.size ≤ b ∧ own' b = none)
      ∧ Own w' 32 3 (.slice da ((L.filter (hurt o ws)).map (·.tx)).length dc) ((L.filter (hurt o ws)).map (·.tx)).length (((L.filter (hurt o ws)).map (·.tx)).flatMap encT) ∧ (∀ b, (Value.slice da ((L.filter (hurt o ws)).map (·.tx)).length dc).ownBlock = some b → w.heap.size ≤ b ∧ own' b = none)
      ∧ Kept (fun i => i = mb ∨ ∃ t, own i = some t) w w' ∧ ∀ i, i < w.heap.size → own' i = own i := by
  have HW := hid (show decide (0 < o.ws.length) = false by simp [← hoe])
  have HOE := hid hoe; have HF := hid hf; have HLL := hid (show L.length ≤ 1000000 by omega); have HLL9 := hid hLL
  have HOA := hid (show o.age = age by rw [← hoe]); have HOF := hid (show o.fast = false by rw [← hoe])
  clear hf hLL hoe
  have hk1 := (Kept.refl (fun _ => False) w).alloc (.cells #[.int .u8 t1, .int .u32 t2, .int .u32 t3] 32)
  have hkb := row_new w (.cells #[.int .u8 t1, .int .u32 t2, .int .u32 t3] 32)
  obtain ⟨w1, hw1⟩ : ∃ w1, w.alloc (.cells #[.int .u8 t1, .int .u32 t2, .int .u32 t3] 32) = w1 := ⟨_, rfl⟩
  obtain ⟨kb, hkb'⟩ : ∃ kb, w.heap.size = kb := ⟨_, rfl⟩
  rw [hw1] at hk1 hkb
  rw [hkb'] at hkb
  have HKB := hid (Nat.le_of_eq hkb'.symm)
  have K1 := hid hk1; have HK1 := hid hkb
  have HLI := hid (hl.same hk1)
  obtain ⟨n, hn⟩ : ∃ n, ws.length = n := ⟨_, rfl⟩
  have HN := hid hn
  rw [hn]
  clear hl hk1 hkb hn
  have HB1 := hid (hb.same K1.out)
  have HC := hid (chk_any HLI.out HN.out hz)
  have HL := hid hl2; have HZ := hid hz
  clear hb hz hl2
  go_enter Try.func11, Try.ntmps11
  go_wp2_with fail
  try rw [hw1, hkb']
  clear hw1 hkb'
  refine HC.out.mono ?_
  rintro e w2 ⟨rfl, hk2⟩
  have K2 := hid (K1.out.trans hk2)
  have HB2 := hid (HB1.out.same hk2)
  have HK2 := hid ((hk2.block _ (row_lt HK1.out) id).trans HK1.out)
  have HL2 := hid (HLI.out.same hk2)
  clear hk2 HB1 HK1 HLI K1
  have l0 := HB2.out.look1 HL.out
  have c0 := HB2.out.cell
  obtain ⟨d0, d1, d2⟩ := cells3 HK2.out
  go_wp2_with fail
  go_quiet (fail)
  have hk3 := kept_drewN (F := fun _ => False) w2 nq
  have K3 := hid (K2.out.trans hk3)
  have HB3 := hid (HB2.out.same hk3)
  have HK3 := hid ((hk3.block _ (row_lt HK2.out) id).trans HK2.out)
  have HL3 := hid (HL2.out.same hk3)
  obtain ⟨w3, hw3⟩ : ∃ w3, w2.drewN nq = w3 := ⟨_, rfl⟩
  rw [hw3] at K3 HB3 HK3 HL3
  clear hk3 l0 c0 d0 d1 d2 HB2 HK2 HL2 K2
  obtain ⟨hom, hot⟩ := findO_mem HL.out
  have HO := hid (HB3.out.ows _ hom)
  have HOT := hid hot; have HOM := hid hom
  rw [hot] at HO
  clear hom hot
  obtain ⟨ad, had⟩ : ∃ ad, A (t1, t2, t3) = ad := ⟨_, rfl⟩
  have HAD := hid had
  rw [had] at HO ⊢
  clear had
  obtain ⟨_, _, _, o3, _, _, o6⟩ := cells7 HO.out.obj
  rw [HOA.out] at o3
  rw [HOF.out] at o6
  have HCN := hid (count_any HB3.out (by have := HF.out; omega))
  have HN0 := hid (show 0 < n from by have := (chkW_ok HZ.out).2.2.1; rw [HN.out] at this; exact this)
  have hnb : n ≤ 40 := by have := (chkW_ok HZ.out).2.1; rw [HN.out] at this; exact this
  obtain ⟨q, hq⟩ : ∃ q, cnt L = q := ⟨_, rfl⟩
  have hqn : q + n ≤ 256 := by have := HF.out; rw [hq, HN.out] at this; exact this
  rw [hq] at HCN
  clear hq
  go_wp2_with fail
  try rw [hw3]
  clear hw3
  refine (waits_b HO.out HW.out).mono ?_; rintro e w' ⟨rfl, rfl⟩
  go_wp2_with fail
  refine HCN.out.mono ?_
  rintro e w4 ⟨rfl, hk4⟩
  have K4 := hid (K3.out.trans hk4)
  have HT4 := hid (HB3.out.same hk4)
  have HO4 := hid (HO.out.same hk4)
  have HKB4 := hid ((hk4.block _ (row_lt HK3.out) id).trans HK3.out)
  have HL4 := hid (HL3.out.same hk4)
  clear hk4 o3 o6 HB3 HO HK3 HL3 K3 HCN
  obtain ⟨ob, lb, va, vc⟩ := ad
  simp only
  obtain ⟨own2, hown⟩ : ∃ own2, own = own2 := ⟨_, rfl⟩
  have HT := hid (show Tab own2 B w4 tb mb L A from hown ▸ HT4.out)
  have HO := hid (show OwIn (fun i => own2 i = some o.tx) w4 ⟨ob, lb, va, vc⟩ o from by rw [HOT.out, ← hown]; exact HO4.out)
  have HEO := hid (show ∀ i, i < w.heap.size → own2 i = own i from fun i _ => by rw [hown])
  have HOK := hid (show Ris o.lk ∧ Fm o.lk from ⟨(HT4.out.ok o HOM.out).r, (HT4.out.ok o HOM.out).f⟩)
  have HKM := hid (show kb ≠ mb from fun e => by
    obtain ⟨M, ⟨es, c, hm, _⟩, _⟩ := HT4.out.map
    have h1 := HKB4.out
    rw [e, hm] at h1
    cases h1)
  obtain ⟨wz, hwz⟩ : ∃ wz, w4 = wz := ⟨_, rfl⟩
  rw [hwz] at HT HO K4 HKB4 HL4 ⊢
  have KZ := K4; have HKB := HKB4; have HLz := HL4
  clear hown hwz HT4 HO4 K4 HKB4 HL4 HAD HOM
  go_wp2_with fail
  refine (all_any HT.out HLL.out).mono ?_
  rintro e wa ⟨la, lc, rfl, hla, hka⟩
  obtain ⟨N, hN⟩ : ∃ N, L.length = N := ⟨_, rfl⟩
  rw [hN] at hla ⊢
  have HNL := hid hN
  have hN6 : N ≤ 1000000 := by have := HLL.out; omega
  have KA := hid hka
  have HS0 := hid (show Wnd own2 B wz wa tb mb L A o ⟨ob, lb, va, vc⟩ la N lc (hurtS L o ws 0) none 0 wa from ⟨by
    have e : remS L (hurtS L o ws 0) = L := remS_nil L
    rw [e]
    exact HT.out.same hka, HO.out.same hka, Own.nil _ _ _, fun b h => by simp [hurtS, Value.ownBlock] at h, hla.mono (fun g hg h => h.elim id (fun h => by omega)), Kept.refl _ _⟩)
  clear hla hka hN
  go_wp2_with fail
  go_loopw [13, 67] (fun d i wr => ∃ (k : Nat) (S : List Tx) (da : Option Addr) (dc : Nat), d = .slice da S.length dc ∧ i = .int .i64 k ∧ k ≤ N ∧ hurtS L o ws k = S ∧ Wnd own2 B wz wa tb mb L A o ⟨ob, lb, va, vc⟩ la N lc S da dc wr) (fun _ i _ => N - (RowKit.intOf i).toNat)
  case atStart => exact ⟨0, _, none, 0, rfl, rfl, Nat.zero_le _, rfl, HS0.out⟩
  case round =>
    rename World => wr
    clear HS0
    obtain ⟨k, S, da, dc, rfl, rfl, hk, hsk, hst⟩ := hrel
    have HST := hid hst; have HSK := hid hsk
    clear hst hsk
    by_cases hlt : k < N
    · have hltI : (k : Int) < (N : Int) := by omega
      obtain ⟨⟨⟨y1, y2, y3⟩, xa, xlk, xws, xf⟩, hx⟩ : ∃ x, L[k]? = some x := ⟨_, List.getElem?_eq_getElem (by rw [HNL.out]; exact hlt)⟩
      have hxm := mem_remS (o := o) (ws := ws) HT.out.nodup hx
      rw [HSK.out] at hxm
      have hcl : (obs A L)[k]? = some (A (y1, y2, y3)).ob := by rw [obs, List.getElem?_map, hx]; rfl
      obtain ⟨_, hcap, hcm, gb, off, rfl, c0⟩ := lies_ptr HST.out.l hcl
      unfold maxLen at hcm
      have HNX := hid (hurtS_step (o := o) (ws := ws) hx)
      have hsl : S.length ≤ N := by
        have := hurtS_len L o ws k
        rw [HSK.out] at this
        omega
      have XI := hid (HST.out.t.ows _ hxm)
      have XOK := hid (HST.out.t.ok _ hxm)
      obtain ⟨xb, hxb⟩ : ∃ xb, (A (y1, y2, y3)).ob = xb := ⟨_, rfl⟩
      rw [hxb] at c0
      unfold ptr at c0
      obtain ⟨x0, x1, x2, x3, x6⟩ := ow_cells XI.out hxb
      obtain ⟨k0, k1, k2⟩ := cells3 (((KA.out.mono (fun _ _ h => h.elim) : Kept (fun i => i = mb) wz wa).trans HST.out.k |>.block kb (row_lt HKB.out) HKM.out).trans HKB.out)
      obtain ⟨o0, o1, o2, o3, _⟩ := ow_cells (HOE.out ▸ HST.out.o) (xb := ob) rfl
      have HXB := hid hxb
      clear hx hcl hxm hxb
      have hne := fun W => tx_ne (y1, y2, y3) (t1, t2, t3) W
      unfold txv at hne
      go_wp2_with fail
      by_cases e1 : ((y1, y2, y3) : Tx) = (t1, t2, t3)
      · simp only [e1, decide_true, Bool.not_true] at hne
        have HHU := hid (show hurt o ws ⟨(y1, y2, y3), xa, xlk, xws, xf⟩ = false by rw [← HOE.out]; simp [hurt, e1])
        clear e1
        go_quiet (fail)
        have HSW := hid (HST.out.same (kept_drewN wr nq))
        have HSN := hid (show hurtS L o ws (k + 1) = S by rw [HNX.out, HSK.out, if_neg (by rw [HHU.out]; decide), List.append_nil])
        go_wp2
        go_roundw
        case rel => exact ⟨k + 1, S, da, dc, rfl, by go_num, by omega, HSN.out, HSW.out⟩
        case measure => (simp only [RowKit.intOf]; omega)
      · simp only [e1, decide_false, Bool.not_false] at hne
        have E1 := hid e1
        clear e1
        cases xf with
        | true =>
          have HHU := hid (show hurt o ws ⟨(y1, y2, y3), xa, xlk, xws, true⟩ = false by simp [hurt])
          go_quiet (fail)
          have HSW := hid (HST.out.same (kept_drewN wr nq))
          have HSN := hid (show hurtS L o ws (k + 1) = S by rw [HNX.out, HSK.out, if_neg (by rw [HHU.out]; decide), List.append_nil])
          go_wp2
          go_roundw
          case rel => exact ⟨k + 1, S, da, dc, rfl, by go_num, by omega, HSN.out, HSW.out⟩
          case measure => (simp only [RowKit.intOf]; omega)
        | false =>
          have HSA0 := hid (show wr.cell? ⟨kb, 0, none⟩ = some (.int .u8 t1) ∧ wr.cell? ⟨kb, 1, none⟩ = some (.int .u32 t2) ∧ wr.cell? ⟨kb, 2, none⟩ = some (.int .u32 t3) ∧ wr.cell? ⟨xb, 0, none⟩ = some (.int .u8 y1) ∧ wr.cell? ⟨xb, 1, none⟩ = some (.int .u32 y2) ∧ wr.cell? ⟨xb, 2, none⟩ = some (.int .u32 y3) ∧ wr.cell? ⟨xb, 3, none⟩ = some (.int .u64 xa) ∧ wr.cell? ⟨xb, 6, none⟩ = some (.bool false) ∧ wr.cell? ⟨ob, 0, none⟩ = some (.int .u8 t1) ∧ wr.cell? ⟨ob, 1, none⟩ = some (.int .u32 t2) ∧ wr.cell? ⟨ob, 2, none⟩ = some (.int .u32 t3) ∧ wr.cell? ⟨ob, 3, none⟩ = some (.int .u64 age) from ⟨k0, k1, k2, x0, x1, x2, x3, x6, o0, o1, o2, o3⟩)
          have HSA := hid (show wr.drew.cell? ⟨kb, 0, none⟩ = some (.int .u8 t1) ∧ wr.drew.cell? ⟨kb, 1, none⟩ = some (.int .u32 t2) ∧ wr.drew.cell? ⟨kb, 2, none⟩ = some (.int .u32 t3) ∧ wr.drew.cell? ⟨xb, 0, none⟩ = some (.int .u8 y1) ∧ wr.drew.cell? ⟨xb, 1, none⟩ = some (.int .u32 y2) ∧ wr.drew.cell? ⟨xb, 2, none⟩ = some (.int .u32 y3) ∧ wr.drew.cell? ⟨xb, 3, none⟩ = some (.int .u64 xa) ∧ wr.drew.cell? ⟨xb, 6, none⟩ = some (.bool false) ∧ wr.drew.cell? ⟨ob, 0, none⟩ = some (.int .u8 t1) ∧ wr.drew.cell? ⟨ob, 1, none⟩ = some (.int .u32 t2) ∧ wr.drew.cell? ⟨ob, 2, none⟩ = some (.int .u32 t3) ∧ wr.drew.cell? ⟨ob, 3, none⟩ = some (.int .u64 age) from HSA0.out)
          clear k0 k1 k2 x0 x1 x2 x3 x6 o0 o1 o2 o3 c0
          obtain ⟨z, hzz⟩ : ∃ z, ordO (age, t1, t2, t3) (xa, y1, y2, y3) = z := ⟨_, rfl⟩
          have hzl := ordO_neg (x := (age, t1, t2, t3)) (y := (xa, y1, y2, y3))
          rw [hzz] at hzl
          have HORD := hid hzz; have HZL := hid hzl
          clear hzz hzl
          by_cases hz0 : z < 0
          · have HLT := hid (HZL.out.1 hz0)
            obtain ⟨b, hb⟩ : ∃ b, clash xlk ws = b := ⟨_, rfl⟩
            have HCB := hid hb
            clear hb
            refine wp_region_held_drew (S := fun w' => w'.cell? ⟨kb, 0, none⟩ = some (.int .u8 t1) ∧ w'.cell? ⟨kb, 1, none⟩ = some (.int .u32 t2) ∧ w'.cell? ⟨kb, 2, none⟩ = some (.int .u32 t3) ∧ w'.cell? ⟨xb, 0, none⟩ = some (.int .u8 y1) ∧ w'.cell? ⟨xb, 1, none⟩ = some (.int .u32 y2) ∧ w'.cell? ⟨xb, 2, none⟩ = some (.int .u32 y3) ∧ w'.cell? ⟨xb, 3, none⟩ = some (.int .u64 xa) ∧ w'.cell? ⟨xb, 6, none⟩ = some (.bool false) ∧ w'.cell? ⟨ob, 0, none⟩ = some (.int .u8 t1) ∧ w'.cell? ⟨ob, 1, none⟩ = some (.int .u32 t2) ∧ w'.cell? ⟨ob, 2, none⟩ = some (.int .u32 t3) ∧ w'.cell? ⟨ob, 3, none⟩ = some (.int .u64 age)) (by kernel_rfl) (by exact HSA.out) (fun hHeld => ?_)
            refine wpAnyH_at 0 (some 71) (v := ?v500) (by decide) rfl (by kernel_rfl) (by kernel_rfl) (by kernel_rfl) (fun _ _ _ h => h) (Or.inl ⟨by rfl, ?y500⟩) (by assumption) ?r500
            case y500 => (intro w hSw; (try dsimp only at hSw); go_simp; (try with_reducible rfl))
            simp only [Act.put, List.setIfInBounds_toArray, List.set_cons_zero, List.set_cons_succ]
            refine wpAnyH_at 1 (some 72) (v := ?v501) (by decide) rfl (by kernel_rfl) (by kernel_rfl) (by kernel_rfl) (fun _ _ _ h => h) (Or.inl ⟨by rfl, ?y501⟩) (by assumption) ?r501
            case y501 => (intro w hSw; (try dsimp only at hSw); go_simp; (try with_reducible rfl))
            simp only [Act.put, List.setIfInBounds_toArray, List.set_cons_zero, List.set_cons_succ]
            refine wpAnyH_at 2 (some 73) (v := ?v502) (by decide) rfl (by kernel_rfl) (by kernel_rfl) (by kernel_rfl) (fun _ _ _ h => h) (Or.inl ⟨by rfl, ?y502⟩) (by assumption) ?r502
            case y502 => (intro w hSw; (try dsimp only at hSw); go_simp; (try with_reducible rfl))
            simp only [Act.put, List.setIfInBounds_toArray, List.set_cons_zero, List.set_cons_succ]
            refine wpAnyH_at 3 (some 74) (v := ?v503) (by decide) rfl (by kernel_rfl) (by kernel_rfl) (by kernel_rfl) (fun _ _ _ h => h) (Or.inl ⟨by rfl, ?y503⟩) (by assumption) ?r503
            case y503 => (intro w hSw; (try dsimp only at hSw); go_simp; (try with_reducible rfl))
            simp only [Act.put, List.setIfInBounds_toArray, List.set_cons_zero, List.set_cons_succ]
            refine wpAnyH_at 4 (some 75) (v := ?v504) (by decide) rfl (by kernel_rfl) (by kernel_rfl) (by kernel_rfl) (fun _ _ _ h => h) (Or.inl ⟨by rfl, ?y504⟩) (by assumption) ?r504
            case y504 => (intro w hSw; (try dsimp only at hSw); go_simp; (try with_reducible rfl))
            simp only [Act.put, List.setIfInBounds_toArray, List.set_cons_zero, List.set_cons_succ]
            refine wpAnyH_at 5 (some 76) (v := ?v505) (by decide) rfl (by kernel_rfl) (by kernel_rfl) (by kernel_rfl) (fun _ _ _ h => h) (Or.inl ⟨by rfl, ?y505⟩) (by assumption) ?r505
            case y505 => (intro w hSw; (try dsimp only at hSw); go_simp; (try with_reducible rfl))
            simp only [Act.put, List.setIfInBounds_toArray, List.set_cons_zero, List.set_cons_succ]
            refine wpAnyH_at 6 (some 77) (v := ?v506) (by decide) rfl (by kernel_rfl) (by kernel_rfl) (by kernel_rfl) (fun _ _ _ h => h) (Or.inl ⟨by rfl, ?y506⟩) (by assumption) ?r506
            case y506 => (intro w hSw; (try dsimp only at hSw); go_simp; (try with_reducible rfl))
            simp only [Act.put, List.setIfInBounds_toArray, List.set_cons_zero, List.set_cons_succ]
            refine wpAnyH_at 7 (some 78) (v := ?v507) (by decide) rfl (by kernel_rfl) (by kernel_rfl) (by kernel_rfl) (fun _ _ _ h => h) (Or.inl ⟨by rfl, ?y507⟩) (by assumption) ?r507
            case y507 => (intro w hSw; (try dsimp only at hSw); go_simp; (try with_reducible rfl))
            simp only [Act.put, List.setIfInBounds_toArray, List.set_cons_zero, List.set_cons_succ]
            refine wpAnyH_at 8 (some 79) (v := ?v508) (by decide) rfl (by kernel_rfl) (by kernel_rfl) (by kernel_rfl) (fun _ _ _ h => h) (Or.inl ⟨by rfl, ?y508⟩) (by assumption) ?r508
            case y508 => (intro w hSw; (try dsimp only at hSw); go_simp; (try with_reducible rfl))
            simp only [Act.put, List.setIfInBounds_toArray, List.set_cons_zero, List.set_cons_succ]
            refine wpAnyH_at 9 (some 80) (v := ?v509) (by decide) rfl (by kernel_rfl) (by kernel_rfl) (by kernel_rfl) (fun _ _ _ h => h) (Or.inl ⟨by rfl, ?y509⟩) (by assumption) ?r509
            case y509 => (intro w hSw; (try dsimp only at hSw); go_simp; (try with_reducible rfl))
            simp only [Act.put, List.setIfInBounds_toArray, List.set_cons_zero, List.set_cons_succ]
            refine wpAnyH_at 10 (some 81) (v := ?v510) (by decide) rfl (by kernel_rfl) (by kernel_rfl) (by kernel_rfl) (fun _ _ _ h => h) (Or.inl ⟨by rfl, ?y510⟩) (by assumption) ?r510
            case y510 => (intro w hSw; (try dsimp only at hSw); go_simp; (try with_reducible rfl))
            simp only [Act.put, List.setIfInBounds_toArray, List.set_cons_zero, List.set_cons_succ]
            refine wpAnyH_at 11 (some 82) (v := ?v511) (by decide) rfl (by kernel_rfl) (by kernel_rfl) (by kernel_rfl) (fun _ _ _ h => h) (Or.inl ⟨by rfl, ?y511⟩) (by assumption) ?r511
            case y511 => (intro w hSw; (try dsimp only at hSw); go_simp; (try with_reducible rfl))
            simp only [Act.put, List.setIfInBounds_toArray, List.set_cons_zero, List.set_cons_succ]
            refine wpAnyH_at 12 (some 83) (v := ?v512) (by decide) rfl (by kernel_rfl) (by kernel_rfl) (by kernel_rfl) (fun _ _ _ h => h) (Or.inl ⟨by rfl, ?y512⟩) (by assumption) ?r512
            case y512 => (intro w hSw; (try dsimp only at hSw); go_simp; (try with_reducible rfl))
            simp only [Act.put, List.setIfInBounds_toArray, List.set_cons_zero, List.set_cons_succ]
            refine wpAnyH_at 13 (some 84) (v := ?v513) (by decide) rfl (by kernel_rfl) (by kernel_rfl) (by kernel_rfl) (fun _ _ _ h => h) (Or.inl ⟨by rfl, ?y513⟩) (by assumption) ?r513
            case y513 => (intro w hSw; (try dsimp only at hSw); go_simp; (try with_reducible rfl))
            simp only [Act.put, List.setIfInBounds_toArray, List.set_cons_zero, List.set_cons_succ]
            refine wpAnyH_at 14 (some 85) (v := ?v514) (by decide) rfl (by kernel_rfl) (by kernel_rfl) (by kernel_rfl) (fun _ _ _ h => h) (Or.inl ⟨by rfl, ?y514⟩) (by assumption) ?r514
            case y514 => (intro w hSw; (try dsimp only at hSw); go_simp; (try with_reducible rfl))
            simp only [Act.put, List.setIfInBounds_toArray, List.set_cons_zero, List.set_cons_succ]
            refine wpAnyH_at 15 (some 86) (v := ?v515) (by decide) rfl (by kernel_rfl) (by kernel_rfl) (by kernel_rfl) (fun _ _ _ h => h) (Or.inl ⟨by rfl, ?y515⟩) (by assumption) ?r515
            case y515 => (intro w hSw; (try dsimp only at hSw); go_simp; (try with_reducible rfl))
            simp only [Act.put, List.setIfInBounds_toArray, List.set_cons_zero, List.set_cons_succ]
            refine wpAnyH_ready (rs := [16]) (by kernel_rfl) (by simp) ?_
            refine AllReadyH.cons rfl (fun K hK => ?_) AllReadyH.nil
            go_simp
            refine (elder_grow (x0 := age) (x1 := t1) (x2 := t2) (x3 := t3) (y0 := xa) (y1 := y1) (y2 := y2) (y3 := y3) (by obtain ⟨_, _, _, h4, h5, h6, h7, _, h9, h10, h11, h12⟩ := hHeld; exact ⟨h9, h10, h11, h12, h4, h5, h6, h7⟩)).mono ?_
            rintro e w5 ⟨he5, q5, os5, hw5⟩
            rw [HORD.out] at he5
            subst he5
            have k5 : Kept (fun _ => False) wr w5 := by rw [hw5]; exact (Kept.refl (fun _ => False) wr).drew.trans (kept_grow _ q5 os5)
            have HS5 := hid (sa_kept k5 HSA0.out)
            have K5 := hid k5
            clear hw5 k5 hHeld
            try dsimp only []
            refine hK.out _ _ (by exact HS5.out) (fun hHeld => ?_)
            clear hK K
            try simp only [Act.put, List.setIfInBounds_toArray, List.set_cons_zero, List.set_cons_succ]
            refine wpAnyH_at 17 (some 88) (v := ?v517) (by decide) rfl (by kernel_rfl) (by kernel_rfl) (by kernel_rfl) (fun _ _ _ h => h) (Or.inl ⟨by rfl, ?y517⟩) (by assumption) ?r517
            case y517 => (intro w hSw; (try dsimp only at hSw); go_simp; (try with_reducible rfl))
            simp only [Act.put, List.setIfInBounds_toArray, List.set_cons_zero, List.set_cons_succ]
            refine wpAnyH_at 18 (some 89) (v := ?v518) (by decide) rfl (by kernel_rfl) (by kernel_rfl) (by kernel_rfl) (fun _ _ _ h => h) (Or.inl ⟨by rfl, ?y518⟩) (by assumption) ?r518
            case y518 => (intro w hSw; (try dsimp only at hSw); go_simp; (try with_reducible rfl))
            simp only [Act.put, List.setIfInBounds_toArray, List.set_cons_zero, List.set_cons_succ]
            refine wpAnyH_at 19 (some 90) (v := ?v519) (by decide) rfl (by kernel_rfl) (by kernel_rfl) (by kernel_rfl) (fun _ _ _ h => h) (Or.inl ⟨by rfl, ?y519⟩) (by assumption) ?r519
            case y519 => (intro w hSw; (try dsimp only at hSw); go_simp; (try with_reducible rfl))
            simp only [Act.put, List.setIfInBounds_toArray, List.set_cons_zero, List.set_cons_succ]
            refine wpAnyH_at 20 (some 91) (v := ?v520) (by decide) rfl (by kernel_rfl) (by kernel_rfl) (by kernel_rfl) (fun _ _ _ h => h) (Or.inl ⟨by rfl, ?y520⟩) (by assumption) ?r520
            case y520 => (intro w hSw; (try dsimp only at hSw); go_simp; (try with_reducible rfl))
            simp only [Act.put, List.setIfInBounds_toArray, List.set_cons_zero, List.set_cons_succ]
            refine wpAnyH_at 21 (some 92) (v := ?v521) (by decide) rfl (by kernel_rfl) (by kernel_rfl) (by kernel_rfl) (fun _ _ _ h => h) (Or.inl ⟨by rfl, ?y521⟩) (by assumption) ?r521
            case y521 => (intro w hSw; (try dsimp only at hSw); go_simp; (try with_reducible rfl))
            simp only [Act.put, List.setIfInBounds_toArray, List.set_cons_zero, List.set_cons_succ]
            refine wpAnyH_ready (rs := [22]) (by kernel_rfl) (by simp) ?_
            refine AllReadyH.cons rfl (fun K hK => ?_) AllReadyH.nil
            go_simp
            refine (holds_n (XI.out.same K5.out) XOK.out.r XOK.out.f (HLz.out.kept ((KA.out.mono (fun _ _ h => h.elim) : Kept (fun i => i = mb) wz wa).trans (HST.out.same K5.out).k) (fun g _ h => h)) HN.out HXB.out HCB.out).mono ?_
            rintro e w6 ⟨rfl, hk6⟩
            have K6 := hid (K5.out.trans hk6)
            have HS6 := hid (sa_kept hk6 HS5.out)
            clear hk6 hHeld
            try dsimp only []
            refine hK.out _ _ (by exact HS6.out) (fun hHeld => ?_)
            clear hK K
            try simp only [Act.put, List.setIfInBounds_toArray, List.set_cons_zero, List.set_cons_succ]
            refine wpAnyH_at 23 (some 94) (v := ?v523) (by decide) rfl (by kernel_rfl) (by kernel_rfl) (by kernel_rfl) (fun _ _ _ h => h) (Or.inl ⟨by rfl, ?y523⟩) (by assumption) ?r523
            case y523 => (intro w hSw; (try dsimp only at hSw); go_simp; (try with_reducible rfl))
            simp only [Act.put, List.setIfInBounds_toArray, List.set_cons_zero, List.set_cons_succ]
            refine wpAnyH_done (by kernel_rfl) ?_ _
            clear hHeld HSA HS5
            have HSW := hid (HST.out.same K6.out)
            cases b with
            | false =>
              have HHU := hid (show hurt o ws ⟨(y1, y2, y3), xa, xlk, xws, false⟩ = false by simp [hurt, HCB.out])
              have HSN := hid (show hurtS L o ws (k + 1) = S by rw [HNX.out, HSK.out, if_neg (by rw [HHU.out]; decide), List.append_nil])
              go_wp2
              go_roundw
              case rel => exact ⟨k + 1, S, da, dc, rfl, by go_num, by omega, HSN.out, HSW.out⟩
              case measure => (simp only [RowKit.intOf]; omega)
            | true =>
              have HHU := hid (show hurt o ws ⟨(y1, y2, y3), xa, xlk, xws, false⟩ = true by
                have h1 := HLT.out
                have h2 := E1.out
                rw [← HOE.out]
                exact hurt_iff.2 ⟨h2, rfl, h1, HCB.out⟩)
              have HSN := hid (show hurtS L o ws (k + 1) = S ++ [(y1, y2, y3)] by rw [HNX.out, HSK.out, if_pos HHU.out])
              obtain ⟨m, hm⟩ : ∃ m, S.length = m := ⟨_, rfl⟩
              have HMM := hid hm
              have hg := HSW.out.g
              rw [hm] at hg hsl ⊢
              have HG := hid hg
              have HFM := hid (show (S ++ [(y1, y2, y3)]).flatMap encT = S.flatMap encT ++ encT (y1, y2, y3) by simp)
              have XI6 := hid (XI.out.same K6.out)
              obtain ⟨x0, x1, x2, x3, _⟩ := ow_cells XI6.out HXB.out
              clear hg hm hne HS6
              go_wp2_with (at_builtin; refine wpList_app rfl _ _ 27 rfl 32 (txv (0, 0, 0)) 3 12 Try.underlying27 infoT rfl (by decide) (.slice da m dc) m _ rfl (by exact HG.out.alloc _) _ rfl 1 _ (tx_src _ y1 y2 y3 rfl) (by unfold maxLen; omega) (by omega) ?_; intro da2 dc2 w8 ho3 hk3 hf3 _; have HA8 := hid ho3; have HK8 := hid hk3; have HF8 := hid hf3; clear ho3 hk3 hf3)
              have k68 : Kept (fun i => (Value.slice da m dc).ownBlock = some i) w6 w8 := ((Kept.refl _ w6).alloc _).trans HK8.out
              have hgn : ∀ i, (Value.slice da m dc).ownBlock = some i → wa.heap.size ≤ i := fun i h => HST.out.n i (by rw [HMM.out]; exact h)
              have hza := KA.out.size
              have hno : ∀ i, (Value.slice da m dc).ownBlock = some i → own2 i = none ∧ i ≠ tb ∧ i ≠ mb := fun i h => by
                have h1 := hgn i h
                have h2 := row_lt HT.out.obj
                have h3 := HT.out.mlt
                exact ⟨HT.out.new i (by omega), by omega, by omega⟩
              have HNO := hid hno; have HGN := hid hgn
              have T8 := hid (HSW.out.t.kept k68 (fun i _ h => HNO.out i h))
              have O8 := hid (HSW.out.o.kept k68 (fun i _ h1 h2 => by rw [(HNO.out i h2).1] at h1; cases h1))
              have X8 := hid (XI6.out.kept k68 (fun i _ h1 h2 => by rw [(HNO.out i h2).1] at h1; cases h1))
              have L8 := hid (HSW.out.l.kept k68 (fun i _ h => .inr (HGN.out i h)))
              have K8 := hid (HSW.out.k.trans' k68 (fun i h => .inr (HGN.out i h)))
              clear k68 hgn hno hza x0 x1 x2 x3
              obtain ⟨x0, x1, x2, x3, _⟩ := ow_cells X8.out HXB.out
              have c1 := T8.out.cell
              refine wp_region_still_tail 8 (by kernel_rfl) (by kernel_rfl) ?_
              simp only [List.take_succ_cons, List.take_zero, List.drop_succ_cons, List.drop_zero, World.drew_eq]
              iterate 8 still_step
              refine wpStill_nil ?_
              change wpList _ _ _ _ _ (World.drew _)
              have kdr : Kept (fun _ => False) w8 w8.drew := (Kept.refl _ w8).drew
              obtain ⟨M, hm, hp⟩ := (T8.out.same kdr).map
              have HP := hid hp
              clear hp c1 x0 x1 x2 x3
              refine wpList_wipeT rfl 61 65 _ (.tmp 105) (.tmp 109) rfl rfl mb (y1, y2, y3) (by rfl) (by rfl) Try.underlying61 _ hm ?_
              intro w9 hm9 hk9
              have HS9 := hid (show Wnd own2 B wz wa tb mb L A o ⟨ob, lb, va, vc⟩ (some ⟨gb, off, none⟩) N lc (S ++ [(y1, y2, y3)]) da2 dc2 w9 from by
                have hln : (S ++ [(y1, y2, y3)]).length = m + 1 := by rw [List.length_append, HMM.out]; rfl
                have k89 : Kept (fun i => i = mb) w8 w9 := (kdr.mono (fun _ _ h => h.elim)).trans hk9
                have hnb : ∀ b, (Value.slice da2 (m + 1) dc2).ownBlock = some b → wa.heap.size ≤ b := fun b hb => by
                  rcases HF8.out b hb with h | h
                  · exact HGN.out b h
                  · have := HSW.out.k.size
                    simp at h
                    omega
                have hmz := HT.out.mlt
                have hza := KA.out.size
                refine ⟨?_, O8.out.kept k89 (fun i _ h1 h2 => by rw [h2, HT.out.top.2] at h1; cases h1), ?_, fun b hb => hnb b (by rwa [hln] at hb), L8.out.kept k89 (fun i _ h => .inl (by omega)), K8.out.trans k89⟩
                · rw [← remS_drop]
                  exact (T8.out.same kdr).wiped HP.out hm9 hk9
                · rw [hln, HFM.out]
                  exact HA8.out.kept k89 (fun b hb h => by have := hnb b hb; omega))
              clear hm hm9 hk9 kdr
              go_wp2
              go_roundw
              case rel => exact ⟨k + 1, _, da2, dc2, by rw [List.length_append, HMM.out]; rfl, by go_num, by omega, HSN.out, HS9.out⟩
              case measure => (simp only [RowKit.intOf]; omega)
          · have HHU := hid (show hurt o ws ⟨(y1, y2, y3), xa, xlk, xws, false⟩ = false by
              have : ¬ ltO (age, t1, t2, t3) (xa, y1, y2, y3) := fun h => hz0 (HZL.out.2 h)
              rw [← HOE.out]; simp [hurt, Ow.key, this])
            refine wp_region_held_drew (S := fun w' => w'.cell? ⟨kb, 0, none⟩ = some (.int .u8 t1) ∧ w'.cell? ⟨kb, 1, none⟩ = some (.int .u32 t2) ∧ w'.cell? ⟨kb, 2, none⟩ = some (.int .u32 t3) ∧ w'.cell? ⟨xb, 0, none⟩ = some (.int .u8 y1) ∧ w'.cell? ⟨xb, 1, none⟩ = some (.int .u32 y2) ∧ w'.cell? ⟨xb, 2, none⟩ = some (.int .u32 y3) ∧ w'.cell? ⟨xb, 3, none⟩ = some (.int .u64 xa) ∧ w'.cell? ⟨xb, 6, none⟩ = some (.bool false) ∧ w'.cell? ⟨ob, 0, none⟩ = some (.int .u8 t1) ∧ w'.cell? ⟨ob, 1, none⟩ = some (.int .u32 t2) ∧ w'.cell? ⟨ob, 2, none⟩ = some (.int .u32 t3) ∧ w'.cell? ⟨ob, 3, none⟩ = some (.int .u64 age)) (by kernel_rfl) (by exact HSA.out) (fun hHeld => ?_)
            refine wpAnyH_at 0 (some 71) (v := ?v400) (by decide) rfl (by kernel_rfl) (by kernel_rfl) (by kernel_rfl) (fun _ _ _ h => h) (Or.inl ⟨by rfl, ?y400⟩) (by assumption) ?r400
            case y400 => (intro w hSw; (try dsimp only at hSw); go_simp; (try with_reducible rfl))
            simp only [Act.put, List.setIfInBounds_toArray, List.set_cons_zero, List.set_cons_succ]
            refine wpAnyH_at 1 (some 72) (v := ?v401) (by decide) rfl (by kernel_rfl) (by kernel_rfl) (by kernel_rfl) (fun _ _ _ h => h) (Or.inl ⟨by rfl, ?y401⟩) (by assumption) ?r401
            case y401 => (intro w hSw; (try dsimp only at hSw); go_simp; (try with_reducible rfl))
            simp only [Act.put, List.setIfInBounds_toArray, List.set_cons_zero, List.set_cons_succ]
            refine wpAnyH_at 2 (some 73) (v := ?v402) (by decide) rfl (by kernel_rfl) (by kernel_rfl) (by kernel_rfl) (fun _ _ _ h => h) (Or.inl ⟨by rfl, ?y402⟩) (by assumption) ?r402
            case y402 => (intro w hSw; (try dsimp only at hSw); go_simp; (try with_reducible rfl))
            simp only [Act.put, List.setIfInBounds_toArray, List.set_cons_zero, List.set_cons_succ]
            refine wpAnyH_at 3 (some 74) (v := ?v403) (by decide) rfl (by kernel_rfl) (by kernel_rfl) (by kernel_rfl) (fun _ _ _ h => h) (Or.inl ⟨by rfl, ?y403⟩) (by assumption) ?r403
            case y403 => (intro w hSw; (try dsimp only at hSw); go_simp; (try with_reducible rfl))
            simp only [Act.put, List.setIfInBounds_toArray, List.set_cons_zero, List.set_cons_succ]
            refine wpAnyH_at 4 (some 75) (v := ?v404) (by decide) rfl (by kernel_rfl) (by kernel_rfl) (by kernel_rfl) (fun _ _ _ h => h) (Or.inl ⟨by rfl, ?y404⟩) (by assumption) ?r404
            case y404 => (intro w hSw; (try dsimp only at hSw); go_simp; (try with_reducible rfl))
            simp only [Act.put, List.setIfInBounds_toArray, List.set_cons_zero, List.set_cons_succ]
            refine wpAnyH_at 5 (some 76) (v := ?v405) (by decide) rfl (by kernel_rfl) (by kernel_rfl) (by kernel_rfl) (fun _ _ _ h => h) (Or.inl ⟨by rfl, ?y405⟩) (by assumption) ?r405
            case y405 => (intro w hSw; (try dsimp only at hSw); go_simp; (try with_reducible rfl))
            simp only [Act.put, List.setIfInBounds_toArray, List.set_cons_zero, List.set_cons_succ]
            refine wpAnyH_at 6 (some 77) (v := ?v406) (by decide) rfl (by kernel_rfl) (by kernel_rfl) (by kernel_rfl) (fun _ _ _ h => h) (Or.inl ⟨by rfl, ?y406⟩) (by assumption) ?r406
            case y406 => (intro w hSw; (try dsimp only at hSw); go_simp; (try with_reducible rfl))
            simp only [Act.put, List.setIfInBounds_toArray, List.set_cons_zero, List.set_cons_succ]
            refine wpAnyH_at 7 (some 78) (v := ?v407) (by decide) rfl (by kernel_rfl) (by kernel_rfl) (by kernel_rfl) (fun _ _ _ h => h) (Or.inl ⟨by rfl, ?y407⟩) (by assumption) ?r407
            case y407 => (intro w hSw; (try dsimp only at hSw); go_simp; (try with_reducible rfl))
            simp only [Act.put, List.setIfInBounds_toArray, List.set_cons_zero, List.set_cons_succ]
            refine wpAnyH_at 8 (some 79) (v := ?v408) (by decide) rfl (by kernel_rfl) (by kernel_rfl) (by kernel_rfl) (fun _ _ _ h => h) (Or.inl ⟨by rfl, ?y408⟩) (by assumption) ?r408
            case y408 => (intro w hSw; (try dsimp only at hSw); go_simp; (try with_reducible rfl))
            simp only [Act.put, List.setIfInBounds_toArray, List.set_cons_zero, List.set_cons_succ]
            refine wpAnyH_at 9 (some 80) (v := ?v409) (by decide) rfl (by kernel_rfl) (by kernel_rfl) (by kernel_rfl) (fun _ _ _ h => h) (Or.inl ⟨by rfl, ?y409⟩) (by assumption) ?r409
            case y409 => (intro w hSw; (try dsimp only at hSw); go_simp; (try with_reducible rfl))
            simp only [Act.put, List.setIfInBounds_toArray, List.set_cons_zero, List.set_cons_succ]
            refine wpAnyH_at 10 (some 81) (v := ?v410) (by decide) rfl (by kernel_rfl) (by kernel_rfl) (by kernel_rfl) (fun _ _ _ h => h) (Or.inl ⟨by rfl, ?y410⟩) (by assumption) ?r410
            case y410 => (intro w hSw; (try dsimp only at hSw); go_simp; (try with_reducible rfl))
            simp only [Act.put, List.setIfInBounds_toArray, List.set_cons_zero, List.set_cons_succ]
            refine wpAnyH_at 11 (some 82) (v := ?v411) (by decide) rfl (by kernel_rfl) (by kernel_rfl) (by kernel_rfl) (fun _ _ _ h => h) (Or.inl ⟨by rfl, ?y411⟩) (by assumption) ?r411
            case y411 => (intro w hSw; (try dsimp only at hSw); go_simp; (try with_reducible rfl))
            simp only [Act.put, List.setIfInBounds_toArray, List.set_cons_zero, List.set_cons_succ]
            refine wpAnyH_at 12 (some 83) (v := ?v412) (by decide) rfl (by kernel_rfl) (by kernel_rfl) (by kernel_rfl) (fun _ _ _ h => h) (Or.inl ⟨by rfl, ?y412⟩) (by assumption) ?r412
            case y412 => (intro w hSw; (try dsimp only at hSw); go_simp; (try with_reducible rfl))
            simp only [Act.put, List.setIfInBounds_toArray, List.set_cons_zero, List.set_cons_succ]
            refine wpAnyH_at 13 (some 84) (v := ?v413) (by decide) rfl (by kernel_rfl) (by kernel_rfl) (by kernel_rfl) (fun _ _ _ h => h) (Or.inl ⟨by rfl, ?y413⟩) (by assumption) ?r413
            case y413 => (intro w hSw; (try dsimp only at hSw); go_simp; (try with_reducible rfl))
            simp only [Act.put, List.setIfInBounds_toArray, List.set_cons_zero, List.set_cons_succ]
            refine wpAnyH_at 14 (some 85) (v := ?v414) (by decide) rfl (by kernel_rfl) (by kernel_rfl) (by kernel_rfl) (fun _ _ _ h => h) (Or.inl ⟨by rfl, ?y414⟩) (by assumption) ?r414
            case y414 => (intro w hSw; (try dsimp only at hSw); go_simp; (try with_reducible rfl))
            simp only [Act.put, List.setIfInBounds_toArray, List.set_cons_zero, List.set_cons_succ]
            refine wpAnyH_at 15 (some 86) (v := ?v415) (by decide) rfl (by kernel_rfl) (by kernel_rfl) (by kernel_rfl) (fun _ _ _ h => h) (Or.inl ⟨by rfl, ?y415⟩) (by assumption) ?r415
            case y415 => (intro w hSw; (try dsimp only at hSw); go_simp; (try with_reducible rfl))
            simp only [Act.put, List.setIfInBounds_toArray, List.set_cons_zero, List.set_cons_succ]
            refine wpAnyH_ready (rs := [16]) (by kernel_rfl) (by simp) ?_
            refine AllReadyH.cons rfl (fun K hK => ?_) AllReadyH.nil
            go_simp
            refine (elder_grow (x0 := age) (x1 := t1) (x2 := t2) (x3 := t3) (y0 := xa) (y1 := y1) (y2 := y2) (y3 := y3) (by obtain ⟨_, _, _, h4, h5, h6, h7, _, h9, h10, h11, h12⟩ := hHeld; exact ⟨h9, h10, h11, h12, h4, h5, h6, h7⟩)).mono ?_
            rintro e w5 ⟨he5, q5, os5, hw5⟩
            rw [HORD.out] at he5
            subst he5
            have k5 : Kept (fun _ => False) wr w5 := by rw [hw5]; exact (Kept.refl (fun _ => False) wr).drew.trans (kept_grow _ q5 os5)
            have HS5 := hid (sa_kept k5 HSA0.out)
            have K5 := hid k5
            clear hw5 k5 hHeld
            try dsimp only []
            refine hK.out _ _ (by exact HS5.out) (fun hHeld => ?_)
            clear hK K
            try simp only [Act.put, List.setIfInBounds_toArray, List.set_cons_zero, List.set_cons_succ]
            refine wpAnyH_at 17 (some 88) (v := ?v417) (by decide) rfl (by kernel_rfl) (by kernel_rfl) (by kernel_rfl) (fun _ _ _ h => h) (Or.inl ⟨by rfl, ?y417⟩) (by assumption) ?r417
            case y417 => (intro w hSw; (try dsimp only at hSw); go_simp; (try with_reducible rfl))
            simp only [Act.put, List.setIfInBounds_toArray, List.set_cons_zero, List.set_cons_succ]
            refine wpAnyH_at 18 (some 89) (v := ?v418) (by decide) rfl (by kernel_rfl) (by kernel_rfl) (by kernel_rfl) (fun _ _ _ h => h) (Or.inl ⟨by rfl, ?y418⟩) (by assumption) ?r418
            case y418 => (intro w hSw; (try dsimp only at hSw); go_simp; (try with_reducible rfl))
            simp only [Act.put, List.setIfInBounds_toArray, List.set_cons_zero, List.set_cons_succ]
            refine wpAnyH_at 19 (some 90) (v := ?v419) (by decide) rfl (by kernel_rfl) (by kernel_rfl) (by kernel_rfl) (fun _ _ _ h => h) (Or.inl ⟨by rfl, ?y419⟩) (by assumption) ?r419
            case y419 => (intro w hSw; (try dsimp only at hSw); go_simp; (try with_reducible rfl))
            simp only [Act.put, List.setIfInBounds_toArray, List.set_cons_zero, List.set_cons_succ]
            refine wpAnyH_at 20 (some 91) (v := undef) (by decide) rfl (by kernel_rfl) (by kernel_rfl) (by kernel_rfl) (fun _ _ _ h => h) (Or.inr ⟨by rfl, rfl⟩) (by assumption) ?_
            simp only [Act.put, List.setIfInBounds_toArray, List.set_cons_zero, List.set_cons_succ]
            refine wpAnyH_at 21 (some 92) (v := undef) (by decide) rfl (by kernel_rfl) (by kernel_rfl) (by kernel_rfl) (fun _ _ _ h => h) (Or.inr ⟨by rfl, rfl⟩) (by assumption) ?_
            simp only [Act.put, List.setIfInBounds_toArray, List.set_cons_zero, List.set_cons_succ]
            refine wpAnyH_at 22 (some 93) (v := undef) (by decide) rfl (by kernel_rfl) (by kernel_rfl) (by kernel_rfl) (fun _ _ _ h => h) (Or.inr ⟨by rfl, rfl⟩) (by assumption) ?_
            simp only [Act.put, List.setIfInBounds_toArray, List.set_cons_zero, List.set_cons_succ]
            refine wpAnyH_at 23 (some 94) (v := ?v423) (by decide) rfl (by kernel_rfl) (by kernel_rfl) (by kernel_rfl) (fun _ _ _ h => h) (Or.inl ⟨by rfl, ?y423⟩) (by assumption) ?r423
            case y423 => (intro w hSw; (try dsimp only at hSw); go_simp; (try with_reducible rfl))
            simp only [Act.put, List.setIfInBounds_toArray, List.set_cons_zero, List.set_cons_succ]
            refine wpAnyH_done (by kernel_rfl) ?_ _
            clear hHeld HSA HS5
            have HSW := hid (HST.out.same K5.out)
            have HSN := hid (show hurtS L o ws (k + 1) = S by rw [HNX.out, HSK.out, if_neg (by rw [HHU.out]; decide), List.append_nil])
            go_wp2
            go_roundw
            case rel => exact ⟨k + 1, S, da, dc, rfl, by go_num, by omega, HSN.out, HSW.out⟩
            case measure => (simp only [RowKit.intOf]; omega)
    · obtain rfl : k = N := by omega
      have HSD := hid (show S = (L.filter (hurt o ws)).map (·.tx) by rw [← HSK.out, ← HNL.out]; unfold hurtS; rw [List.take_length])
      have HRD := hid (show remS L S = L.filter fun x => !hurt o ws x by rw [← HSK.out, ← HNL.out]; exact remS_all HT.out.nodup o ws)
      have kzr : Kept (fun i => i = mb) wz wr := (KA.out.mono (fun _ _ h => h.elim)).trans HST.out.k
      have KZR := hid kzr
      have HLw := hid (show Lies (fun i => i = mb) wr 2 (.slice a n c) n (wcells ws) from by have h := HLz.out.kept kzr (fun g _ h => h); rw [HN.out] at h; exact h)
      clear kzr
      go_wp2_with fail
      refine (cloneW_in (.slice a n c) n (wcells ws) _ HLw.out (by omega) (wcells_one ws)).mono ?_
      rintro e w5 ⟨a5, c5, rfl, hl5, hk5⟩
      obtain ⟨g5, off5, c5', hse, hs1, hs2, hg5, hg6, hg7⟩ := hl5.cell HN0.out
      simp only [Value.slice.injEq, true_and] at hse
      obtain ⟨rfl, rfl⟩ := hse
      have HG5 := hid (show wr.heap.size ≤ g5 ∧ g5 < w5.heap.size from ⟨Nat.le_of_not_lt hg5, hg6⟩)
      have HNW := hid (fun i (h : wr.heap.size ≤ i) => HST.out.t.new i h)
      have T5 := hid (HST.out.t.more hk5 (t := (t1, t2, t3)) HG5.out HG5.out)
      have O5 := hid (show OwIn (fun i => ownP own2 g5 g5 (t1, t2, t3) i = some (t1, t2, t3)) w5 ⟨ob, lb, va, vc⟩ o from (HST.out.o.same hk5).mono (fun i _ h => by
        rw [HOT.out] at h
        show (if i = g5 ∨ i = g5 then some (t1, t2, t3) else own2 i) = _
        split
        · rfl
        · exact h))
      have hl5' := hl5
      have HL5 := hid (lies_swap hl5 (G := fun i => ¬ ownP own2 g5 g5 (t1, t2, t3) i = some (t1, t2, t3) ∨ i = lb ∨ i = ob) (by
        rintro (h | h | h)
        · exact h (if_pos (.inl rfl))
        · have := HST.out.o.map
          obtain ⟨E, hm, _⟩ := this
          have := hm.lt
          simp only at this
          omega
        · have := row_lt HST.out.o.obj
          simp only at this
          omega))
      have K5 := hid (show Kept (fun i => i = mb) w w5 from (KZ.out.mono (fun _ _ h => h.elim) |>.trans KZR.out |>.trans (hk5.mono (fun _ _ h => h.elim))))
      have DA5 := hid (HST.out.g.kept hk5 (fun _ _ => id))
      have HB5 := hid O5.out.obj
      have KB5 := hid ((hk5.block kb (Nat.lt_of_lt_of_le (row_lt HKB.out) KZR.out.size) id).trans ((KZR.out.block kb (row_lt HKB.out) HKM.out).trans HKB.out))
      clear hl5 hl5' hk5 hg5 hg6 hg7 hs1 hs2
      go_wp2_with (refine wpList_store_cell rfl _ _ _ rfl (by kernel_rfl) ob 5 (by rfl) _ (by rfl) rfl HB5.out (by simp) ?_; intro w6 hb6 hk6)
      have hobm : ob ≠ mb := fun e => by
        have h1 := O5.out.own.1
        (try simp only at h1)
        rw [e, T5.out.top.2] at h1
        cases h1
      have hobt : ob ≠ tb := fun e => by
        have h1 := O5.out.own.1
        (try simp only at h1)
        rw [e, T5.out.top.1] at h1
        cases h1
      have hobl : lb ≠ ob := fun e => by
        obtain ⟨E, ⟨es, c, hm, _⟩, _⟩ := O5.out.map
        have h1 := HB5.out
        (try simp only at h1)
        (try simp only at hm)
        rw [← e, hm] at h1
        cases h1
      have hobk : kb ≠ ob := fun e => by
        have h1 := O5.out.own.1
        have h2 := row_lt KB5.out
        have h3 := KB5.out
        have h4 := HB5.out
        (try simp only at h4)
        rw [← e, h3] at h4
        have h5 := congrArg (fun x : Option Obj => match x with | some (.cells c _ _) => c.size | _ => 0) h4
        simp at h5
      have hin6 : OwIn (fun i => ownP own2 g5 g5 (t1, t2, t3) i = some (t1, t2, t3)) w6 ⟨ob, lb, some ⟨g5, off5, none⟩, c5⟩ { o with ws := ws } := by
        refine ⟨?_, ?_, ?_, O5.out.own⟩
        · have h := hb6.out
          rw [← HN.out] at h
          exact h
        · obtain ⟨E, hm, hl⟩ := O5.out.map
          exact ⟨E, hm.of_block (hk6.out.block _ hm.lt hobl), hl⟩
        · have h := HL5.out.kept hk6.out (fun g _ e => .inr (.inr e))
          rw [← HN.out] at h
          exact h
      have HIN6 := hid hin6
      have KT6 : Kept (fun _ => False) w6 w6.drew := (Kept.refl _ w6).drew
      obtain ⟨M, hm, hp⟩ := T5.out.map
      have hm6 := hm.of_block (KT6.block _ (Nat.lt_of_lt_of_le hm.lt hk6.out.size) id |>.trans (hk6.out.block _ hm.lt (Ne.symm hobm)))
      have HP := hid hp
      have c6 : w6.cell? ⟨tb, 0, none⟩ = some (.map (some mb)) := hk6.out.cell T5.out.cell (Ne.symm hobt)
      obtain ⟨k0, k1, k2⟩ := cells3 ((hk6.out.block kb (row_lt KB5.out) hobk).trans KB5.out)
      have HM6 := hid hm6
      have KK6 := hk6
      clear hm hp hin6 hb6 hk6 hm6
      refine wp_region_still_tail 6 (by kernel_rfl) (by kernel_rfl) ?_
      simp only [List.take_succ_cons, List.take_zero, List.drop_succ_cons, List.drop_zero, World.drew_eq]
      iterate 6 still_step
      refine wpStill_nil ?_
      change wpList _ _ _ _ _ (World.drew _)
      refine wpList_layT rfl 61 65 (.tmp 119) (.tmp 120) (.tmp 121) rfl mb (t1, t2, t3) (ptr ob) (by rfl) (by rfl) (by rfl) Try.underlying61 _ HM6.out ?_
      intro w7 hm7 hk7
      have k67 : Kept (fun i => i = mb) w6 w7 := (KT6.mono (fun _ _ h => h.elim)).trans hk7
      have K67 := hid k67
      have hob3 : ownP own2 g5 g5 (t1, t2, t3) ob = some (t1, t2, t3) := O5.out.own.1
      have k57 : Kept (fun i => ownP own2 g5 g5 (t1, t2, t3) i = some (t1, t2, t3) ∨ i = mb) w5 w7 := (KK6.out.mono (fun i _ e => by rw [e]; exact .inl hob3)).trans (k67.mono (fun _ _ h => .inr h))
      have hin7 : OwIn (fun i => ownP own2 g5 g5 (t1, t2, t3) i = some (t1, t2, t3)) w7 ⟨ob, lb, some ⟨g5, off5, none⟩, c5⟩ { o with ws := ws } := HIN6.out.kept k67 (fun i _ h1 h2 => by rw [h2, T5.out.top.2] at h1; cases h1)
      have hok7 : OkO { o with ws := ws } := by
        obtain ⟨c1, _, _, c4⟩ := chkW_ok HZ.out
        exact ⟨HOK.out.1, HOK.out.2, c1, c4⟩
      have ht7 := T5.out.laid (o := { o with ws := ws }) (a' := ⟨ob, lb, some ⟨g5, off5, none⟩, c5⟩) HP.out (by rw [show ({ o with ws := ws } : Ow).tx = (t1, t2, t3) from HOT.out]; exact hm7) (hin7.mono (fun i _ h => h.trans (congrArg some HOT.out.symm))) hok7 (by rw [show ({ o with ws := ws } : Ow).tx = (t1, t2, t3) from HOT.out]; exact k57)
      have heq : layO (remS L S) { o with ws := ws } = askL L o ws := by unfold askL; rw [HRD.out]
      rw [heq] at ht7
      have T7 := hid ht7
      have HLQ := hid (show (askL L o ws).length ≤ 1000000 by have h1 := askL_len L o ws; have h2 := HLL9.out; omega)
      have K57 := hid k57
      clear ht7 heq hok7 hin7 k57 hob3 k67 hm7 hk7 c6 k0 k1 k2 hobm hobt hobl hobk
      go_wp2_with fail
      refine (settle_any T7.out HLQ.out).mono ?_
      rintro e w8 ⟨A8, ga, gc, rfl, ht8, _, ho8, hn8, hk8⟩
      have T8 := hid ht8; have G8 := hid ho8; have N8 := hid hn8; have K8 := hid hk8
      clear ht8 ho8 hn8 hk8
      go_wp2
      have KX : Kept (fun i => i = mb ∨ ∃ t, ownP own2 g5 g5 (t1, t2, t3) i = some t) w w8 := (K5.out.mono (fun _ _ h => .inl h)).trans ((K57.out.mono (fun _ _ h => h.elim (fun h => .inr ⟨_, h⟩) .inl)).trans (K8.out.mono (fun _ _ h => .inr h)))
      have hwr : w.heap.size ≤ wr.heap.size := Nat.le_trans KZ.out.size KZR.out.size
      have hown3 : ∀ i, i < w.heap.size → ownP own2 g5 g5 (t1, t2, t3) i = own i := fun i hi => by
        have := HG5.out.1
        show (if i = g5 ∨ i = g5 then some (t1, t2, t3) else own2 i) = _
        rw [if_neg (by omega)]
        exact HEO.out i hi
      have hda : ∀ b, (Value.slice da S.length dc).ownBlock = some b → b ≠ mb ∧ ∀ t, ¬ ownP own2 g5 g5 (t1, t2, t3) b = some t := fun b hb => by
        have h1 := HST.out.n b hb
        have h2 := HST.out.g.lt hb
        have h3 := KA.out.size
        have h4 := HT.out.mlt
        have h5 := HG5.out.1
        refine ⟨by omega, fun t h => ?_⟩
        have h6 : (if b = g5 ∨ b = g5 then some (t1, t2, t3) else own2 b) = some t := h
        rw [if_neg (by omega), HT.out.new b (by omega)] at h6
        cases h6
      have DA8 := (DA5.out.kept K57.out (fun b hb h => h.elim ((hda b hb).2 _) (hda b hb).1)).kept K8.out (fun b hb h => (hda b hb).2 _ h.choose_spec)
      rw [HSD.out] at DA8 hda ⊢
      refine bodyPost_ret (v := .tuple #[.slice ga (settled (askL L o ws)).2.length gc, .slice da ((L.filter (hurt o ws)).map (·.tx)).length dc, .int .i64 0]) (by simp [results, Try.results11, go_sem]) rfl ⟨_, A8, ga, gc, da, dc, rfl, T8.out, G8.out, fun b hb => ?_, DA8, fun b hb => ?_, KX.mono (fun i hi h => h.imp id (fun ⟨t, ht⟩ => ⟨t, (hown3 i hi).symm.trans ht⟩)), hown3⟩
      · have h1 := N8.out b hb
        exact ⟨Nat.le_trans (Nat.le_trans K5.out.size K57.out.size) h1, T7.out.new b h1⟩
      · have h1 := HST.out.n b (by rw [HSD.out]; exact hb)
        have h2 := KZ.out.size
        have h3 := KA.out.size
        refine ⟨by omega, ?_⟩
        cases h4 : ownP own2 g5 g5 (t1, t2, t3) b with
        | none => rfl
        | some t => exact absurd h4 ((hda b hb).2 t)
end
end Go.Proofs.Ytpjhdpfaogdboaa
/- Ask of somebody who isn't known. -/
namespace Go.Proofs.Ytpjhdpfaogdboaa
set_option linter.unusedSimpArgs false
set_option linter.unusedVariables false
open Go.RowKit
section
variable {own : Nat → Option Tx} {B : Nat} {w w' : World} {tb mb : Nat} {L : List Ow} {A : Tx → Ad}
set_option maxRecDepth 100000 in
set_option maxHeartbeats 8000000 in
theorem ask_new {t1 t2 t3 age : Int} {a : Option Addr} {c : Nat} {ws : List Wt} {o : Ow} (hb : Tab own B w tb mb L A) (hl : Lies (fun i => i = mb) w 2 (.slice a ws.length c) ws.length (wcells ws)) (hz : chkW ws = 0) (hl2 : findO L (t1, t2, t3) = none) (hoe : ⟨(t1, t2, t3), age, [], [], false⟩ = o) (hf : cnt L + ws.length ≤ 256) (hLL : L.length ≤ 900000) :
    Calls Try.prog 11 #[.pointer (some ⟨tb, 0, none⟩), .agg #[.int .u8 t1, .int .u32 t2, .int .u32 t3], .int .u64 age, .slice a ws.length c] w fun e w' => ∃ own' A' ga gc da dc, e = .returned (.tuple #[.slice ga (settled (askL L o ws)).2.length gc, .slice da ((L.filter (hurt o ws)).map (·.tx)).length dc, .int .i64 0]) ∧ Tab own' B w' tb mb (settled (askL L o ws)).1 A'
      ∧ Own w' 32 3 (.slice ga (settled (askL L o ws)).2.length gc) (settled (askL L o ws)).2.length ((settled (askL L o ws)).2.flatMap encT) ∧ (∀ b, (Value.slice ga (settled (askL L o ws)).2.length gc).ownBlock = some b → w.heap.size ≤ b ∧ own' b = none)
      ∧ Own w' 32 3 (.slice da ((L.filter (hurt o ws)).map (·.tx)).length dc) ((L.filter (hurt o ws)).map (·.tx)).length (((L.filter (hurt o ws)).map (·.tx)).flatMap encT) ∧ (∀ b, (Value.slice da ((L.filter (hurt o ws)).map (·.tx)).length dc).ownBlock = some b → w.heap.size ≤ b ∧ own' b = none)
      ∧ Kept (fun i => i = mb ∨ ∃ t, own i = some t) w w' ∧ ∀ i, i < w.heap.size → own' i = own i := by
  have HOE := hid hoe; have HF := hid hf; have HLL := hid (show L.length ≤ 1000000 by omega); have HLL9 := hid hLL
  have HOT := hid (show o.tx = (t1, t2, t3) by rw [← hoe])
  have HOK := hid (show Ris o.lk ∧ Fm o.lk by rw [← hoe]; exact ⟨List.Pairwise.nil, (fun x hx => nomatch hx)⟩)
  have hmm := @run_makeMap Try.prog
  clear hf hLL hoe
  have hk1 := (Kept.refl (fun _ => False) w).alloc (.cells #[.int .u8 t1, .int .u32 t2, .int .u32 t3] 32)
  have hkb := row_new w (.cells #[.int .u8 t1, .int .u32 t2, .int .u32 t3] 32)
  obtain ⟨w1, hw1⟩ : ∃ w1, w.alloc (.cells #[.int .u8 t1, .int .u32 t2, .int .u32 t3] 32) = w1 := ⟨_, rfl⟩
  obtain ⟨kb, hkb'⟩ : ∃ kb, w.heap.size = kb := ⟨_, rfl⟩
  rw [hw1] at hk1 hkb
  rw [hkb'] at hkb
  have HKB := hid (Nat.le_of_eq hkb'.symm)
  have K1 := hid hk1; have HK1 := hid hkb
  have HLI := hid (hl.same hk1)
  obtain ⟨n, hn⟩ : ∃ n, ws.length = n := ⟨_, rfl⟩
  have HN := hid hn
  rw [hn]
  clear hl hk1 hkb hn
  have HB1 := hid (hb.same K1.out)
  have HC := hid (chk_any HLI.out HN.out hz)
  have HL := hid hl2; have HZ := hid hz
  clear hb hz hl2
  go_enter Try.func11, Try.ntmps11
  go_wp2_with fail
  try rw [hw1, hkb']
  clear hw1 hkb'
  refine HC.out.mono ?_
  rintro e w2 ⟨rfl, hk2⟩
  have K2 := hid (K1.out.trans hk2)
  have HB2 := hid (HB1.out.same hk2)
  have HK2 := hid ((hk2.block _ (row_lt HK1.out) id).trans HK1.out)
  have HL2 := hid (HLI.out.same hk2)
  clear hk2 HB1 HK1 HLI K1
  have l0 := HB2.out.look0 HL.out
  have c0 := HB2.out.cell
  obtain ⟨d0, d1, d2⟩ := cells3 HK2.out
  go_wp2_with fail
  go_quiet (fail)
  have hk3 := kept_drewN (F := fun _ => False) w2 nq
  have K3 := hid (K2.out.trans hk3)
  have HB3 := hid (HB2.out.same hk3)
  have HK3 := hid ((hk3.block _ (row_lt HK2.out) id).trans HK2.out)
  have HL3 := hid (HL2.out.same hk3)
  obtain ⟨w3, hw3⟩ : ∃ w3, w2.drewN nq = w3 := ⟨_, rfl⟩
  rw [hw3] at K3 HB3 HK3 HL3
  clear hk3 l0 c0 d0 d1 d2 HB2 HK2 HL2 K2
  have HCN := hid (count_any HB3.out (by have := HF.out; omega))
  have HN0 := hid (show 0 < n from by have := (chkW_ok HZ.out).2.2.1; rw [HN.out] at this; exact this)
  have hnb : n ≤ 40 := by have := (chkW_ok HZ.out).2.1; rw [HN.out] at this; exact this
  obtain ⟨q, hq⟩ : ∃ q, cnt L = q := ⟨_, rfl⟩
  have hqn : q + n ≤ 256 := by have := HF.out; rw [hq, HN.out] at this; exact this
  rw [hq] at HCN
  clear hq
  go_wp2_with fail
  try rw [hw3]
  clear hw3
  refine HCN.out.mono ?_
  rintro e w4 ⟨rfl, hk4⟩
  have K4 := hid (K3.out.trans hk4)
  have HT4 := hid (HB3.out.same hk4)
  have HKB4 := hid ((hk4.block _ (row_lt HK3.out) id).trans HK3.out)
  have HL4 := hid (HL3.out.same hk4)
  clear hk4 HB3 HK3 HL3 K3 HCN
  have k5 := ((Kept.refl (fun _ => False) w4).alloc (.map #[] 0)).alloc (.cells #[.int .u8 t1, .int .u32 t2, .int .u32 t3, .int .u64 age, .map (some w4.heap.size), .slice none 0 0, .bool false] 68)
  have htw := two_new w4 (.map #[] 0) (.cells #[.int .u8 t1, .int .u32 t2, .int .u32 t3, .int .u64 age, .map (some w4.heap.size), .slice none 0 0, .bool false] 68)
  have hsz : ((w4.alloc (.map #[] 0)).alloc (.cells #[.int .u8 t1, .int .u32 t2, .int .u32 t3, .int .u64 age, .map (some w4.heap.size), .slice none 0 0, .bool false] 68)).heap.size = w4.heap.size + 2 := by simp
  have K5 := hid k5; have TW := hid htw; have HSZ := hid hsz
  obtain ⟨d0, d1, d2⟩ := cells3 HKB4.out
  clear k5 htw hsz
  go_wp2_with fail
  clear d0 d1 d2
  obtain ⟨lb, hlb⟩ : ∃ lb, w4.heap.size = lb := ⟨_, rfl⟩
  rw [hlb] at K5 TW HSZ ⊢
  obtain ⟨wz, hwz⟩ : ∃ wz, (w4.alloc (.map #[] 0)).alloc (.cells #[.int .u8 t1, .int .u32 t2, .int .u32 t3, .int .u64 age, .map (some lb), .slice none 0 0, .bool false] 68) = wz := ⟨_, rfl⟩
  rw [hwz] at K5 TW HSZ ⊢
  obtain ⟨ob, hob⟩ : ∃ ob, lb + 1 = ob := ⟨_, rfl⟩
  rw [hob] at TW ⊢
  obtain ⟨va, hva⟩ : ∃ va : Option Addr, none = va := ⟨_, rfl⟩
  obtain ⟨vc, hvc⟩ : ∃ vc : Nat, 0 = vc := ⟨_, rfl⟩
  have h1 : w4.heap.size ≤ ob ∧ ob < wz.heap.size := by rw [HSZ.out]; omega
  have h2 : w4.heap.size ≤ lb ∧ lb < wz.heap.size := by rw [HSZ.out]; omega
  obtain ⟨own2, hown⟩ : ∃ own2, ownP own ob lb (t1, t2, t3) = own2 := ⟨_, rfl⟩
  have HT := hid (show Tab own2 B wz tb mb L A from hown ▸ HT4.out.more K5.out h1 h2)
  have HO := hid (show OwIn (fun i => own2 i = some o.tx) wz ⟨ob, lb, va, vc⟩ o from by
    rw [HOT.out, ← hown, ← HOE.out, ← hva, ← hvc]
    exact ⟨TW.out.2, ⟨[], ⟨#[], 0, TW.out.1, rfl, List.nodup_nil, MapKept.stamped_empty 0⟩, fun k => rfl, rfl⟩, Lies.nil _ _ _, if_pos (.inl rfl), if_pos (.inr rfl)⟩)
  have hw4 := K4.out.size
  have HEO := hid (show ∀ i, i < w.heap.size → own2 i = own i from fun i hi => by
    rw [← hown]
    show (if i = ob ∨ i = lb then some (t1, t2, t3) else own i) = _
    rw [if_neg (by omega)])
  have HKM := hid (show kb ≠ mb from fun e => by
    obtain ⟨M, ⟨es, c, hm, _⟩, _⟩ := HT4.out.map
    have h1 := HKB4.out
    rw [e, hm] at h1
    cases h1)
  have KZ := hid (K4.out.trans K5.out)
  have HKB := hid ((K5.out.block _ (row_lt HKB4.out) id).trans HKB4.out)
  have HLz := hid (HL4.out.same K5.out)
  clear hown hwz hlb hob hva hvc h1 h2 hw4 TW HSZ K5 HT4 K4 HKB4 HL4
  refine (all_any HT.out HLL.out).mono ?_
  rintro e wa ⟨la, lc, rfl, hla, hka⟩
  obtain ⟨N, hN⟩ : ∃ N, L.length = N := ⟨_, rfl⟩
  rw [hN] at hla ⊢
  have HNL := hid hN
  have hN6 : N ≤ 1000000 := by have := HLL.out; omega
  have KA := hid hka
  have HS0 := hid (show Wnd own2 B wz wa tb mb L A o ⟨ob, lb, va, vc⟩ la N lc (hurtS L o ws 0) none 0 wa from ⟨by
    have e : remS L (hurtS L o ws 0) = L := remS_nil L
    rw [e]
    exact HT.out.same hka, HO.out.same hka, Own.nil _ _ _, fun b h => by simp [hurtS, Value.ownBlock] at h, hla.mono (fun g hg h => h.elim id (fun h => by omega)), Kept.refl _ _⟩)
  clear hla hka hN
  go_wp2_with fail
  go_loopw [13, 67] (fun d i wr => ∃ (k : Nat) (S : List Tx) (da : Option Addr) (dc : Nat), d = .slice da S.length dc ∧ i = .int .i64 k ∧ k ≤ N ∧ hurtS L o ws k = S ∧ Wnd own2 B wz wa tb mb L A o ⟨ob, lb, va, vc⟩ la N lc S da dc wr) (fun _ i _ => N - (RowKit.intOf i).toNat)
  case atStart => exact ⟨0, _, none, 0, rfl, rfl, Nat.zero_le _, rfl, HS0.out⟩
  case round =>
    rename World => wr
    clear HS0
    obtain ⟨k, S, da, dc, rfl, rfl, hk, hsk, hst⟩ := hrel
    have HST := hid hst; have HSK := hid hsk
    clear hst hsk
    by_cases hlt : k < N
    · have hltI : (k : Int) < (N : Int) := by omega
      obtain ⟨⟨⟨y1, y2, y3⟩, xa, xlk, xws, xf⟩, hx⟩ : ∃ x, L[k]? = some x := ⟨_, List.getElem?_eq_getElem (by rw [HNL.out]; exact hlt)⟩
      have hxm := mem_remS (o := o) (ws := ws) HT.out.nodup hx
      rw [HSK.out] at hxm
      have hcl : (obs A L)[k]? = some (A (y1, y2, y3)).ob := by rw [obs, List.getElem?_map, hx]; rfl
      obtain ⟨_, hcap, hcm, gb, off, rfl, c0⟩ := lies_ptr HST.out.l hcl
      unfold maxLen at hcm
      have HNX := hid (hurtS_step (o := o) (ws := ws) hx)
      have hsl : S.length ≤ N := by
        have := hurtS_len L o ws k
        rw [HSK.out] at this
        omega
      have XI := hid (HST.out.t.ows _ hxm)
      have XOK := hid (HST.out.t.ok _ hxm)
      obtain ⟨xb, hxb⟩ : ∃ xb, (A (y1, y2, y3)).ob = xb := ⟨_, rfl⟩
      rw [hxb] at c0
      unfold ptr at c0
      obtain ⟨x0, x1, x2, x3, x6⟩ := ow_cells XI.out hxb
      obtain ⟨k0, k1, k2⟩ := cells3 (((KA.out.mono (fun _ _ h => h.elim) : Kept (fun i => i = mb) wz wa).trans HST.out.k |>.block kb (row_lt HKB.out) HKM.out).trans HKB.out)
      obtain ⟨o0, o1, o2, o3, _⟩ := ow_cells (HOE.out ▸ HST.out.o) (xb := ob) rfl
      have HXB := hid hxb
      clear hx hcl hxm hxb
      have hne := fun W => tx_ne (y1, y2, y3) (t1, t2, t3) W
      unfold txv at hne
      go_wp2_with fail
      by_cases e1 : ((y1, y2, y3) : Tx) = (t1, t2, t3)
      · simp only [e1, decide_true, Bool.not_true] at hne
        have HHU := hid (show hurt o ws ⟨(y1, y2, y3), xa, xlk, xws, xf⟩ = false by rw [← HOE.out]; simp [hurt, e1])
        clear e1
        go_quiet (fail)
        have HSW := hid (HST.out.same (kept_drewN wr nq))
        have HSN := hid (show hurtS L o ws (k + 1) = S by rw [HNX.out, HSK.out, if_neg (by rw [HHU.out]; decide), List.append_nil])
        go_wp2
        go_roundw
        case rel => exact ⟨k + 1, S, da, dc, rfl, by go_num, by omega, HSN.out, HSW.out⟩
        case measure => (simp only [RowKit.intOf]; omega)
      · simp only [e1, decide_false, Bool.not_false] at hne
        have E1 := hid e1
        clear e1
        cases xf with
        | true =>
          have HHU := hid (show hurt o ws ⟨(y1, y2, y3), xa, xlk, xws, true⟩ = false by simp [hurt])
          go_quiet (fail)
          have HSW := hid (HST.out.same (kept_drewN wr nq))
          have HSN := hid (show hurtS L o ws (k + 1) = S by rw [HNX.out, HSK.out, if_neg (by rw [HHU.out]; decide), List.append_nil])
          go_wp2
          go_roundw
          case rel => exact ⟨k + 1, S, da, dc, rfl, by go_num, by omega, HSN.out, HSW.out⟩
          case measure => (simp only [RowKit.intOf]; omega)
        | false =>
          have HSA0 := hid (show wr.cell? ⟨kb, 0, none⟩ = some (.int .u8 t1) ∧ wr.cell? ⟨kb, 1, none⟩ = some (.int .u32 t2) ∧ wr.cell? ⟨kb, 2, none⟩ = some (.int .u32 t3) ∧ wr.cell? ⟨xb, 0, none⟩ = some (.int .u8 y1) ∧ wr.cell? ⟨xb, 1, none⟩ = some (.int .u32 y2) ∧ wr.cell? ⟨xb, 2, none⟩ = some (.int .u32 y3) ∧ wr.cell? ⟨xb, 3, none⟩ = some (.int .u64 xa) ∧ wr.cell? ⟨xb, 6, none⟩ = some (.bool false) ∧ wr.cell? ⟨ob, 0, none⟩ = some (.int .u8 t1) ∧ wr.cell? ⟨ob, 1, none⟩ = some (.int .u32 t2) ∧ wr.cell? ⟨ob, 2, none⟩ = some (.int .u32 t3) ∧ wr.cell? ⟨ob, 3, none⟩ = some (.int .u64 age) from ⟨k0, k1, k2, x0, x1, x2, x3, x6, o0, o1, o2, o3⟩)
          have HSA := hid (show wr.drew.cell? ⟨kb, 0, none⟩ = some (.int .u8 t1) ∧ wr.drew.cell? ⟨kb, 1, none⟩ = some (.int .u32 t2) ∧ wr.drew.cell? ⟨kb, 2, none⟩ = some (.int .u32 t3) ∧ wr.drew.cell? ⟨xb, 0, none⟩ = some (.int .u8 y1) ∧ wr.drew.cell? ⟨xb, 1, none⟩ = some (.int .u32 y2) ∧ wr.drew.cell? ⟨xb, 2, none⟩ = some (.int .u32 y3) ∧ wr.drew.cell? ⟨xb, 3, none⟩ = some (.int .u64 xa) ∧ wr.drew.cell? ⟨xb, 6, none⟩ = some (.bool false) ∧ wr.drew.cell? ⟨ob, 0, none⟩ = some (.int .u8 t1) ∧ wr.drew.cell? ⟨ob, 1, none⟩ = some (.int .u32 t2) ∧ wr.drew.cell? ⟨ob, 2, none⟩ = some (.int .u32 t3) ∧ wr.drew.cell? ⟨ob, 3, none⟩ = some (.int .u64 age) from HSA0.out)
          clear k0 k1 k2 x0 x1 x2 x3 x6 o0 o1 o2 o3 c0
          obtain ⟨z, hzz⟩ : ∃ z, ordO (age, t1, t2, t3) (xa, y1, y2, y3) = z := ⟨_, rfl⟩
          have hzl := ordO_neg (x := (age, t1, t2, t3)) (y := (xa, y1, y2, y3))
          rw [hzz] at hzl
          have HORD := hid hzz; have HZL := hid hzl
          clear hzz hzl
          by_cases hz0 : z < 0
          · have HLT := hid (HZL.out.1 hz0)
            obtain ⟨b, hb⟩ : ∃ b, clash xlk ws = b := ⟨_, rfl⟩
            have HCB := hid hb
            clear hb
            refine wp_region_held_drew (S := fun w' => w'.cell? ⟨kb, 0, none⟩ = some (.int .u8 t1) ∧ w'.cell? ⟨kb, 1, none⟩ = some (.int .u32 t2) ∧ w'.cell? ⟨kb, 2, none⟩ = some (.int .u32 t3) ∧ w'.cell? ⟨xb, 0, none⟩ = some (.int .u8 y1) ∧ w'.cell? ⟨xb, 1, none⟩ = some (.int .u32 y2) ∧ w'.cell? ⟨xb, 2, none⟩ = some (.int .u32 y3) ∧ w'.cell? ⟨xb, 3, none⟩ = some (.int .u64 xa) ∧ w'.cell? ⟨xb, 6, none⟩ = some (.bool false) ∧ w'.cell? ⟨ob, 0, none⟩ = some (.int .u8 t1) ∧ w'.cell? ⟨ob, 1, none⟩ = some (.int .u32 t2) ∧ w'.cell? ⟨ob, 2, none⟩ = some (.int .u32 t3) ∧ w'.cell? ⟨ob, 3, none⟩ = some (.int .u64 age)) (by kernel_rfl) (by exact HSA.out) (fun hHeld => ?_)
            refine wpAnyH_at 0 (some 71) (v := ?v500) (by decide) rfl (by kernel_rfl) (by kernel_rfl) (by kernel_rfl) (fun _ _ _ h => h) (Or.inl ⟨by rfl, ?y500⟩) (by assumption) ?r500
            case y500 => (intro w hSw; (try dsimp only at hSw); go_simp; (try with_reducible rfl))
            simp only [Act.put, List.setIfInBounds_toArray, List.set_cons_zero, List.set_cons_succ]
            refine wpAnyH_at 1 (some 72) (v := ?v501) (by decide) rfl (by kernel_rfl) (by kernel_rfl) (by kernel_rfl) (fun _ _ _ h => h) (Or.inl ⟨by rfl, ?y501⟩) (by assumption) ?r501
            case y501 => (intro w hSw; (try dsimp only at hSw); go_simp; (try with_reducible rfl))
            simp only [Act.put, List.setIfInBounds_toArray, List.set_cons_zero, List.set_cons_succ]
            refine wpAnyH_at 2 (some 73) (v := ?v502) (by decide) rfl (by kernel_rfl) (by kernel_rfl) (by kernel_rfl) (fun _ _ _ h => h) (Or.inl ⟨by rfl, ?y502⟩) (by assumption) ?r502
            case y502 => (intro w hSw; (try dsimp only at hSw); go_simp; (try with_reducible rfl))
            simp only [Act.put, List.setIfInBounds_toArray, List.set_cons_zero, List.set_cons_succ]
            refine wpAnyH_at 3 (some 74) (v := ?v503) (by decide) rfl (by kernel_rfl) (by kernel_rfl) (by kernel_rfl) (fun _ _ _ h => h) (Or.inl ⟨by rfl, ?y503⟩) (by assumption) ?r503
            case y503 => (intro w hSw; (try dsimp only at hSw); go_simp; (try with_reducible rfl))
            simp only [Act.put, List.setIfInBounds_toArray, List.set_cons_zero, List.set_cons_succ]
            refine wpAnyH_at 4 (some 75) (v := ?v504) (by decide) rfl (by kernel_rfl) (by kernel_rfl) (by kernel_rfl) (fun _ _ _ h => h) (Or.inl ⟨by rfl, ?y504⟩) (by assumption) ?r504
            case y504 => (intro w hSw; (try dsimp only at hSw); go_simp; (try with_reducible rfl))
            simp only [Act.put, List.setIfInBounds_toArray, List.set_cons_zero, List.set_cons_succ]
            refine wpAnyH_at 5 (some 76) (v := ?v505) (by decide) rfl (by kernel_rfl) (by kernel_rfl) (by kernel_rfl) (fun _ _ _ h => h) (Or.inl ⟨by rfl, ?y505⟩) (by assumption) ?r505
            case y505 => (intro w hSw; (try dsimp only at hSw); go_simp; (try with_reducible rfl))
            simp only [Act.put, List.setIfInBounds_toArray, List.set_cons_zero, List.set_cons_succ]
            refine wpAnyH_at 6 (some 77) (v := ?v506) (by decide) rfl (by kernel_rfl) (by kernel_rfl) (by kernel_rfl) (fun _ _ _ h => h) (Or.inl ⟨by rfl, ?y506⟩) (by assumption) ?r506
            case y506 => (intro w hSw; (try dsimp only at hSw); go_simp; (try with_reducible rfl))
            simp only [Act.put, List.setIfInBounds_toArray, List.set_cons_zero, List.set_cons_succ]
            refine wpAnyH_at 7 (some 78) (v := ?v507) (by decide) rfl (by kernel_rfl) (by kernel_rfl) (by kernel_rfl) (fun _ _ _ h => h) (Or.inl ⟨by rfl, ?y507⟩) (by assumption) ?r507
            case y507 => (intro w hSw; (try dsimp only at hSw); go_simp; (try with_reducible rfl))
            simp only [Act.put, List.setIfInBounds_toArray, List.set_cons_zero, List.set_cons_succ]
            refine wpAnyH_at 8 (some 79) (v := ?v508) (by decide) rfl (by kernel_rfl) (by kernel_rfl) (by kernel_rfl) (fun _ _ _ h => h) (Or.inl ⟨by rfl, ?y508⟩) (by assumption) ?r508
            case y508 => (intro w hSw; (try dsimp only at hSw); go_simp; (try with_reducible rfl))
            simp only [Act.put, List.setIfInBounds_toArray, List.set_cons_zero, List.set_cons_succ]
            refine wpAnyH_at 9 (some 80) (v := ?v509) (by decide) rfl (by kernel_rfl) (by kernel_rfl) (by kernel_rfl) (fun _ _ _ h => h) (Or.inl ⟨by rfl, ?y509⟩) (by assumption) ?r509
            case y509 => (intro w hSw; (try dsimp only at hSw); go_simp; (try with_reducible rfl))
            simp only [Act.put, List.setIfInBounds_toArray, List.set_cons_zero, List.set_cons_succ]
            refine wpAnyH_at 10 (some 81) (v := ?v510) (by decide) rfl (by kernel_rfl) (by kernel_rfl) (by kernel_rfl) (fun _ _ _ h => h) (Or.inl ⟨by rfl, ?y510⟩) (by assumption) ?r510
            case y510 => (intro w hSw; (try dsimp only at hSw); go_simp; (try with_reducible rfl))
            simp only [Act.put, List.setIfInBounds_toArray, List.set_cons_zero, List.set_cons_succ]
            refine wpAnyH_at 11 (some 82) (v := ?v511) (by decide) rfl (by kernel_rfl) (by kernel_rfl) (by kernel_rfl) (fun _ _ _ h => h) (Or.inl ⟨by rfl, ?y511⟩) (by assumption) ?r511
            case y511 => (intro w hSw; (try dsimp only at hSw); go_simp; (try with_reducible rfl))
            simp only [Act.put, List.setIfInBounds_toArray, List.set_cons_zero, List.set_cons_succ]
            refine wpAnyH_at 12 (some 83) (v := ?v512) (by decide) rfl (by kernel_rfl) (by kernel_rfl) (by kernel_rfl) (fun _ _ _ h => h) (Or.inl ⟨by rfl, ?y512⟩) (by assumption) ?r512
            case y512 => (intro w hSw; (try dsimp only at hSw); go_simp; (try with_reducible rfl))
            simp only [Act.put, List.setIfInBounds_toArray, List.set_cons_zero, List.set_cons_succ]
            refine wpAnyH_at 13 (some 84) (v := ?v513) (by decide) rfl (by kernel_rfl) (by kernel_rfl) (by kernel_rfl) (fun _ _ _ h => h) (Or.inl ⟨by rfl, ?y513⟩) (by assumption) ?r513
            case y513 => (intro w hSw; (try dsimp only at hSw); go_simp; (try with_reducible rfl))
            simp only [Act.put, List.setIfInBounds_toArray, List.set_cons_zero, List.set_cons_succ]
            refine wpAnyH_at 14 (some 85) (v := ?v514) (by decide) rfl (by kernel_rfl) (by kernel_rfl) (by kernel_rfl) (fun _ _ _ h => h) (Or.inl ⟨by rfl, ?y514⟩) (by assumption) ?r514
            case y514 => (intro w hSw; (try dsimp only at hSw); go_simp; (try with_reducible rfl))
            simp only [Act.put, List.setIfInBounds_toArray, List.set_cons_zero, List.set_cons_succ]
            refine wpAnyH_at 15 (some 86) (v := ?v515) (by decide) rfl (by kernel_rfl) (by kernel_rfl) (by kernel_rfl) (fun _ _ _ h => h) (Or.inl ⟨by rfl, ?y515⟩) (by assumption) ?r515
            case y515 => (intro w hSw; (try dsimp only at hSw); go_simp; (try with_reducible rfl))
            simp only [Act.put, List.setIfInBounds_toArray, List.set_cons_zero, List.set_cons_succ]
            refine wpAnyH_ready (rs := [16]) (by kernel_rfl) (by simp) ?_
            refine AllReadyH.cons rfl (fun K hK => ?_) AllReadyH.nil
            go_simp
            refine (elder_grow (x0 := age) (x1 := t1) (x2 := t2) (x3 := t3) (y0 := xa) (y1 := y1) (y2 := y2) (y3 := y3) (by obtain ⟨_, _, _, h4, h5, h6, h7, _, h9, h10, h11, h12⟩ := hHeld; exact ⟨h9, h10, h11, h12, h4, h5, h6, h7⟩)).mono ?_
            rintro e w5 ⟨he5, q5, os5, hw5⟩
            rw [HORD.out] at he5
            subst he5
            have k5 : Kept (fun _ => False) wr w5 := by rw [hw5]; exact (Kept.refl (fun _ => False) wr).drew.trans (kept_grow _ q5 os5)
            have HS5 := hid (sa_kept k5 HSA0.out)
            have K5 := hid k5
            clear hw5 k5 hHeld
            try dsimp only []
            refine hK.out _ _ (by exact HS5.out) (fun hHeld => ?_)
            clear hK K
            try simp only [Act.put, List.setIfInBounds_toArray, List.set_cons_zero, List.set_cons_succ]
            refine wpAnyH_at 17 (some 88) (v := ?v517) (by decide) rfl (by kernel_rfl) (by kernel_rfl) (by kernel_rfl) (fun _ _ _ h => h) (Or.inl ⟨by rfl, ?y517⟩) (by assumption) ?r517
            case y517 => (intro w hSw; (try dsimp only at hSw); go_simp; (try with_reducible rfl))
            simp only [Act.put, List.setIfInBounds_toArray, List.set_cons_zero, List.set_cons_succ]
            refine wpAnyH_at 18 (some 89) (v := ?v518) (by decide) rfl (by kernel_rfl) (by kernel_rfl) (by kernel_rfl) (fun _ _ _ h => h) (Or.inl ⟨by rfl, ?y518⟩) (by assumption) ?r518
            case y518 => (intro w hSw; (try dsimp only at hSw); go_simp; (try with_reducible rfl))
            simp only [Act.put, List.setIfInBounds_toArray, List.set_cons_zero, List.set_cons_succ]
            refine wpAnyH_at 19 (some 90) (v := ?v519) (by decide) rfl (by kernel_rfl) (by kernel_rfl) (by kernel_rfl) (fun _ _ _ h => h) (Or.inl ⟨by rfl, ?y519⟩) (by assumption) ?r519
            case y519 => (intro w hSw; (try dsimp only at hSw); go_simp; (try with_reducible rfl))
            simp only [Act.put, List.setIfInBounds_toArray, List.set_cons_zero, List.set_cons_succ]
            refine wpAnyH_at 20 (some 91) (v := ?v520) (by decide) rfl (by kernel_rfl) (by kernel_rfl) (by kernel_rfl) (fun _ _ _ h => h) (Or.inl ⟨by rfl, ?y520⟩) (by assumption) ?r520
            case y520 => (intro w hSw; (try dsimp only at hSw); go_simp; (try with_reducible rfl))
            simp only [Act.put, List.setIfInBounds_toArray, List.set_cons_zero, List.set_cons_succ]
            refine wpAnyH_at 21 (some 92) (v := ?v521) (by decide) rfl (by kernel_rfl) (by kernel_rfl) (by kernel_rfl) (fun _ _ _ h => h) (Or.inl ⟨by rfl, ?y521⟩) (by assumption) ?r521
            case y521 => (intro w hSw; (try dsimp only at hSw); go_simp; (try with_reducible rfl))
            simp only [Act.put, List.setIfInBounds_toArray, List.set_cons_zero, List.set_cons_succ]
            refine wpAnyH_ready (rs := [22]) (by kernel_rfl) (by simp) ?_
            refine AllReadyH.cons rfl (fun K hK => ?_) AllReadyH.nil
            go_simp
            refine (holds_n (XI.out.same K5.out) XOK.out.r XOK.out.f (HLz.out.kept ((KA.out.mono (fun _ _ h => h.elim) : Kept (fun i => i = mb) wz wa).trans (HST.out.same K5.out).k) (fun g _ h => h)) HN.out HXB.out HCB.out).mono ?_
            rintro e w6 ⟨rfl, hk6⟩
            have K6 := hid (K5.out.trans hk6)
            have HS6 := hid (sa_kept hk6 HS5.out)
            clear hk6 hHeld
            try dsimp only []
            refine hK.out _ _ (by exact HS6.out) (fun hHeld => ?_)
            clear hK K
            try simp only [Act.put, List.setIfInBounds_toArray, List.set_cons_zero, List.set_cons_succ]
            refine wpAnyH_at 23 (some 94) (v := ?v523) (by decide) rfl (by kernel_rfl) (by kernel_rfl) (by kernel_rfl) (fun _ _ _ h => h) (Or.inl ⟨by rfl, ?y523⟩) (by assumption) ?r523
            case y523 => (intro w hSw; (try dsimp only at hSw); go_simp; (try with_reducible rfl))
            simp only [Act.put, List.setIfInBounds_toArray, List.set_cons_zero, List.set_cons_succ]
            refine wpAnyH_done (by kernel_rfl) ?_ _
            clear hHeld HSA HS5
            have HSW := hid (HST.out.same K6.out)
            cases b with
            | false =>
              have HHU := hid (show hurt o ws ⟨(y1, y2, y3), xa, xlk, xws, false⟩ = false by simp [hurt, HCB.out])
              have HSN := hid (show hurtS L o ws (k + 1) = S by rw [HNX.out, HSK.out, if_neg (by rw [HHU.out]; decide), List.append_nil])
              go_wp2
              go_roundw
              case rel => exact ⟨k + 1, S, da, dc, rfl, by go_num, by omega, HSN.out, HSW.out⟩
              case measure => (simp only [RowKit.intOf]; omega)
            | true =>
              have HHU := hid (show hurt o ws ⟨(y1, y2, y3), xa, xlk, xws, false⟩ = true by
                have h1 := HLT.out
                have h2 := E1.out
                rw [← HOE.out]
                exact hurt_iff.2 ⟨h2, rfl, h1, HCB.out⟩)
              have HSN := hid (show hurtS L o ws (k + 1) = S ++ [(y1, y2, y3)] by rw [HNX.out, HSK.out, if_pos HHU.out])
              obtain ⟨m, hm⟩ : ∃ m, S.length = m := ⟨_, rfl⟩
              have HMM := hid hm
              have hg := HSW.out.g
              rw [hm] at hg hsl ⊢
              have HG := hid hg
              have HFM := hid (show (S ++ [(y1, y2, y3)]).flatMap encT = S.flatMap encT ++ encT (y1, y2, y3) by simp)
              have XI6 := hid (XI.out.same K6.out)
              obtain ⟨x0, x1, x2, x3, _⟩ := ow_cells XI6.out HXB.out
              clear hg hm hne HS6
              go_wp2_with (at_builtin; refine wpList_app rfl _ _ 27 rfl 32 (txv (0, 0, 0)) 3 12 Try.underlying27 infoT rfl (by decide) (.slice da m dc) m _ rfl (by exact HG.out.alloc _) _ rfl 1 _ (tx_src _ y1 y2 y3 rfl) (by unfold maxLen; omega) (by omega) ?_; intro da2 dc2 w8 ho3 hk3 hf3 _; have HA8 := hid ho3; have HK8 := hid hk3; have HF8 := hid hf3; clear ho3 hk3 hf3)
              have k68 : Kept (fun i => (Value.slice da m dc).ownBlock = some i) w6 w8 := ((Kept.refl _ w6).alloc _).trans HK8.out
              have hgn : ∀ i, (Value.slice da m dc).ownBlock = some i → wa.heap.size ≤ i := fun i h => HST.out.n i (by rw [HMM.out]; exact h)
              have hza := KA.out.size
              have hno : ∀ i, (Value.slice da m dc).ownBlock = some i → own2 i = none ∧ i ≠ tb ∧ i ≠ mb := fun i h => by
                have h1 := hgn i h
                have h2 := row_lt HT.out.obj
                have h3 := HT.out.mlt
                exact ⟨HT.out.new i (by omega), by omega, by omega⟩
              have HNO := hid hno; have HGN := hid hgn
              have T8 := hid (HSW.out.t.kept k68 (fun i _ h => HNO.out i h))
              have O8 := hid (HSW.out.o.kept k68 (fun i _ h1 h2 => by rw [(HNO.out i h2).1] at h1; cases h1))
              have X8 := hid (XI6.out.kept k68 (fun i _ h1 h2 => by rw [(HNO.out i h2).1] at h1; cases h1))
              have L8 := hid (HSW.out.l.kept k68 (fun i _ h => .inr (HGN.out i h)))
              have K8 := hid (HSW.out.k.trans' k68 (fun i h => .inr (HGN.out i h)))
              clear k68 hgn hno hza x0 x1 x2 x3
              obtain ⟨x0, x1, x2, x3, _⟩ := ow_cells X8.out HXB.out
              have c1 := T8.out.cell
              refine wp_region_still_tail 8 (by kernel_rfl) (by kernel_rfl) ?_
              simp only [List.take_succ_cons, List.take_zero, List.drop_succ_cons, List.drop_zero, World.drew_eq]
              iterate 8 still_step
              refine wpStill_nil ?_
              change wpList _ _ _ _ _ (World.drew _)
              have kdr : Kept (fun _ => False) w8 w8.drew := (Kept.refl _ w8).drew
              obtain ⟨M, hm, hp⟩ := (T8.out.same kdr).map
              have HP := hid hp
              clear hp c1 x0 x1 x2 x3
              refine wpList_wipeT rfl 61 65 _ (.tmp 105) (.tmp 109) rfl rfl mb (y1, y2, y3) (by rfl) (by rfl) Try.underlying61 _ hm ?_
              intro w9 hm9 hk9
              have HS9 := hid (show Wnd own2 B wz wa tb mb L A o ⟨ob, lb, va, vc⟩ (some ⟨gb, off, none⟩) N lc (S ++ [(y1, y2, y3)]) da2 dc2 w9 from by
                have hln : (S ++ [(y1, y2, y3)]).length = m + 1 := by rw [List.length_append, HMM.out]; rfl
                have k89 : Kept (fun i => i = mb) w8 w9 := (kdr.mono (fun _ _ h => h.elim)).trans hk9
                have hnb : ∀ b, (Value.slice da2 (m + 1) dc2).ownBlock = some b → wa.heap.size ≤ b := fun b hb => by
                  rcases HF8.out b hb with h | h
                  · exact HGN.out b h
                  · have := HSW.out.k.size
                    simp at h
                    omega
                have hmz := HT.out.mlt
                have hza := KA.out.size
                refine ⟨?_, O8.out.kept k89 (fun i _ h1 h2 => by rw [h2, HT.out.top.2] at h1; cases h1), ?_, fun b hb => hnb b (by rwa [hln] at hb), L8.out.kept k89 (fun i _ h => .inl (by omega)), K8.out.trans k89⟩
                · rw [← remS_drop]
                  exact (T8.out.same kdr).wiped HP.out hm9 hk9
                · rw [hln, HFM.out]
                  exact HA8.out.kept k89 (fun b hb h => by have := hnb b hb; omega))
              clear hm hm9 hk9 kdr
              go_wp2
              go_roundw
              case rel => exact ⟨k + 1, _, da2, dc2, by rw [List.length_append, HMM.out]; rfl, by go_num, by omega, HSN.out, HS9.out⟩
              case measure => (simp only [RowKit.intOf]; omega)
          · have HHU := hid (show hurt o ws ⟨(y1, y2, y3), xa, xlk, xws, false⟩ = false by
              have : ¬ ltO (age, t1, t2, t3) (xa, y1, y2, y3) := fun h => hz0 (HZL.out.2 h)
              rw [← HOE.out]; simp [hurt, Ow.key, this])
            refine wp_region_held_drew (S := fun w' => w'.cell? ⟨kb, 0, none⟩ = some (.int .u8 t1) ∧ w'.cell? ⟨kb, 1, none⟩ = some (.int .u32 t2) ∧ w'.cell? ⟨kb, 2, none⟩ = some (.int .u32 t3) ∧ w'.cell? ⟨xb, 0, none⟩ = some (.int .u8 y1) ∧ w'.cell? ⟨xb, 1, none⟩ = some (.int .u32 y2) ∧ w'.cell? ⟨xb, 2, none⟩ = some (.int .u32 y3) ∧ w'.cell? ⟨xb, 3, none⟩ = some (.int .u64 xa) ∧ w'.cell? ⟨xb, 6, none⟩ = some (.bool false) ∧ w'.cell? ⟨ob, 0, none⟩ = some (.int .u8 t1) ∧ w'.cell? ⟨ob, 1, none⟩ = some (.int .u32 t2) ∧ w'.cell? ⟨ob, 2, none⟩ = some (.int .u32 t3) ∧ w'.cell? ⟨ob, 3, none⟩ = some (.int .u64 age)) (by kernel_rfl) (by exact HSA.out) (fun hHeld => ?_)
            refine wpAnyH_at 0 (some 71) (v := ?v400) (by decide) rfl (by kernel_rfl) (by kernel_rfl) (by kernel_rfl) (fun _ _ _ h => h) (Or.inl ⟨by rfl, ?y400⟩) (by assumption) ?r400
            case y400 => (intro w hSw; (try dsimp only at hSw); go_simp; (try with_reducible rfl))
            simp only [Act.put, List.setIfInBounds_toArray, List.set_cons_zero, List.set_cons_succ]
            refine wpAnyH_at 1 (some 72) (v := ?v401) (by decide) rfl (by kernel_rfl) (by kernel_rfl) (by kernel_rfl) (fun _ _ _ h => h) (Or.inl ⟨by rfl, ?y401⟩) (by assumption) ?r401
            case y401 => (intro w hSw; (try dsimp only at hSw); go_simp; (try with_reducible rfl))
            simp only [Act.put, List.setIfInBounds_toArray, List.set_cons_zero, List.set_cons_succ]
            refine wpAnyH_at 2 (some 73) (v := ?v402) (by decide) rfl (by kernel_rfl) (by kernel_rfl) (by kernel_rfl) (fun _ _ _ h => h) (Or.inl ⟨by rfl, ?y402⟩) (by assumption) ?r402
            case y402 => (intro w hSw; (try dsimp only at hSw); go_simp; (try with_reducible rfl))
            simp only [Act.put, List.setIfInBounds_toArray, List.set_cons_zero, List.set_cons_succ]
            refine wpAnyH_at 3 (some 74) (v := ?v403) (by decide) rfl (by kernel_rfl) (by kernel_rfl) (by kernel_rfl) (fun _ _ _ h => h) (Or.inl ⟨by rfl, ?y403⟩) (by assumption) ?r403
            case y403 => (intro w hSw; (try dsimp only at hSw); go_simp; (try with_reducible rfl))
            simp only [Act.put, List.setIfInBounds_toArray, List.set_cons_zero, List.set_cons_succ]
            refine wpAnyH_at 4 (some 75) (v := ?v404) (by decide) rfl (by kernel_rfl) (by kernel_rfl) (by kernel_rfl) (fun _ _ _ h => h) (Or.inl ⟨by rfl, ?y404⟩) (by assumption) ?r404
            case y404 => (intro w hSw; (try dsimp only at hSw); go_simp; (try with_reducible rfl))
            simp only [Act.put, List.setIfInBounds_toArray, List.set_cons_zero, List.set_cons_succ]
            refine wpAnyH_at 5 (some 76) (v := ?v405) (by decide) rfl (by kernel_rfl) (by kernel_rfl) (by kernel_rfl) (fun _ _ _ h => h) (Or.inl ⟨by rfl, ?y405⟩) (by assumption) ?r405
            case y405 => (intro w hSw; (try dsimp only at hSw); go_simp; (try with_reducible rfl))
            simp only [Act.put, List.setIfInBounds_toArray, List.set_cons_zero, List.set_cons_succ]
            refine wpAnyH_at 6 (some 77) (v := ?v406) (by decide) rfl (by kernel_rfl) (by kernel_rfl) (by kernel_rfl) (fun _ _ _ h => h) (Or.inl ⟨by rfl, ?y406⟩) (by assumption) ?r406
            case y406 => (intro w hSw; (try dsimp only at hSw); go_simp; (try with_reducible rfl))
            simp only [Act.put, List.setIfInBounds_toArray, List.set_cons_zero, List.set_cons_succ]
            refine wpAnyH_at 7 (some 78) (v := ?v407) (by decide) rfl (by kernel_rfl) (by kernel_rfl) (by kernel_rfl) (fun _ _ _ h => h) (Or.inl ⟨by rfl, ?y407⟩) (by assumption) ?r407
            case y407 => (intro w hSw; (try dsimp only at hSw); go_simp; (try with_reducible rfl))
            simp only [Act.put, List.setIfInBounds_toArray, List.set_cons_zero, List.set_cons_succ]
            refine wpAnyH_at 8 (some 79) (v := ?v408) (by decide) rfl (by kernel_rfl) (by kernel_rfl) (by kernel_rfl) (fun _ _ _ h => h) (Or.inl ⟨by rfl, ?y408⟩) (by assumption) ?r408
            case y408 => (intro w hSw; (try dsimp only at hSw); go_simp; (try with_reducible rfl))
            simp only [Act.put, List.setIfInBounds_toArray, List.set_cons_zero, List.set_cons_succ]
            refine wpAnyH_at 9 (some 80) (v := ?v409) (by decide) rfl (by kernel_rfl) (by kernel_rfl) (by kernel_rfl) (fun _ _ _ h => h) (Or.inl ⟨by rfl, ?y409⟩) (by assumption) ?r409
            case y409 => (intro w hSw; (try dsimp only at hSw); go_simp; (try with_reducible rfl))
            simp only [Act.put, List.setIfInBounds_toArray, List.set_cons_zero, List.set_cons_succ]
            refine wpAnyH_at 10 (some 81) (v := ?v410) (by decide) rfl (by kernel_rfl) (by kernel_rfl) (by kernel_rfl) (fun _ _ _ h => h) (Or.inl ⟨by rfl, ?y410⟩) (by assumption) ?r410
            case y410 => (intro w hSw; (try dsimp only at hSw); go_simp; (try with_reducible rfl))
            simp only [Act.put, List.setIfInBounds_toArray, List.set_cons_zero, List.set_cons_succ]
            refine wpAnyH_at 11 (some 82) (v := ?v411) (by decide) rfl (by kernel_rfl) (by kernel_rfl) (by kernel_rfl) (fun _ _ _ h => h) (Or.inl ⟨by rfl, ?y411⟩) (by assumption) ?r411
            case y411 => (intro w hSw; (try dsimp only at hSw); go_simp; (try with_reducible rfl))
            simp only [Act.put, List.setIfInBounds_toArray, List.set_cons_zero, List.set_cons_succ]
            refine wpAnyH_at 12 (some 83) (v := ?v412) (by decide) rfl (by kernel_rfl) (by kernel_rfl) (by kernel_rfl) (fun _ _ _ h => h) (Or.inl ⟨by rfl, ?y412⟩) (by assumption) ?r412
            case y412 => (intro w hSw; (try dsimp only at hSw); go_simp; (try with_reducible rfl))
            simp only [Act.put, List.setIfInBounds_toArray, List.set_cons_zero, List.set_cons_succ]
            refine wpAnyH_at 13 (some 84) (v := ?v413) (by decide) rfl (by kernel_rfl) (by kernel_rfl) (by kernel_rfl) (fun _ _ _ h => h) (Or.inl ⟨by rfl, ?y413⟩) (by assumption) ?r413
            case y413 => (intro w hSw; (try dsimp only at hSw); go_simp; (try with_reducible rfl))
            simp only [Act.put, List.setIfInBounds_toArray, List.set_cons_zero, List.set_cons_succ]
            refine wpAnyH_at 14 (some 85) (v := ?v414) (by decide) rfl (by kernel_rfl) (by kernel_rfl) (by kernel_rfl) (fun _ _ _ h => h) (Or.inl ⟨by rfl, ?y414⟩) (by assumption) ?r414
            case y414 => (intro w hSw; (try dsimp only at hSw); go_simp; (try with_reducible rfl))
            simp only [Act.put, List.setIfInBounds_toArray, List.set_cons_zero, List.set_cons_succ]
            refine wpAnyH_at 15 (some 86) (v := ?v415) (by decide) rfl (by kernel_rfl) (by kernel_rfl) (by kernel_rfl) (fun _ _ _ h => h) (Or.inl ⟨by rfl, ?y415⟩) (by assumption) ?r415
            case y415 => (intro w hSw; (try dsimp only at hSw); go_simp; (try with_reducible rfl))
            simp only [Act.put, List.setIfInBounds_toArray, List.set_cons_zero, List.set_cons_succ]
            refine wpAnyH_ready (rs := [16]) (by kernel_rfl) (by simp) ?_
            refine AllReadyH.cons rfl (fun K hK => ?_) AllReadyH.nil
            go_simp
            refine (elder_grow (x0 := age) (x1 := t1) (x2 := t2) (x3 := t3) (y0 := xa) (y1 := y1) (y2 := y2) (y3 := y3) (by obtain ⟨_, _, _, h4, h5, h6, h7, _, h9, h10, h11, h12⟩ := hHeld; exact ⟨h9, h10, h11, h12, h4, h5, h6, h7⟩)).mono ?_
            rintro e w5 ⟨he5, q5, os5, hw5⟩
            rw [HORD.out] at he5
            subst he5
            have k5 : Kept (fun _ => False) wr w5 := by rw [hw5]; exact (Kept.refl (fun _ => False) wr).drew.trans (kept_grow _ q5 os5)
            have HS5 := hid (sa_kept k5 HSA0.out)
            have K5 := hid k5
            clear hw5 k5 hHeld
            try dsimp only []
            refine hK.out _ _ (by exact HS5.out) (fun hHeld => ?_)
            clear hK K
            try simp only [Act.put, List.setIfInBounds_toArray, List.set_cons_zero, List.set_cons_succ]
            refine wpAnyH_at 17 (some 88) (v := ?v417) (by decide) rfl (by kernel_rfl) (by kernel_rfl) (by kernel_rfl) (fun _ _ _ h => h) (Or.inl ⟨by rfl, ?y417⟩) (by assumption) ?r417
            case y417 => (intro w hSw; (try dsimp only at hSw); go_simp; (try with_reducible rfl))
            simp only [Act.put, List.setIfInBounds_toArray, List.set_cons_zero, List.set_cons_succ]
            refine wpAnyH_at 18 (some 89) (v := ?v418) (by decide) rfl (by kernel_rfl) (by kernel_rfl) (by kernel_rfl) (fun _ _ _ h => h) (Or.inl ⟨by rfl, ?y418⟩) (by assumption) ?r418
            case y418 => (intro w hSw; (try dsimp only at hSw); go_simp; (try with_reducible rfl))
            simp only [Act.put, List.setIfInBounds_toArray, List.set_cons_zero, List.set_cons_succ]
            refine wpAnyH_at 19 (some 90) (v := ?v419) (by decide) rfl (by kernel_rfl) (by kernel_rfl) (by kernel_rfl) (fun _ _ _ h => h) (Or.inl ⟨by rfl, ?y419⟩) (by assumption) ?r419
            case y419 => (intro w hSw; (try dsimp only at hSw); go_simp; (try with_reducible rfl))
            simp only [Act.put, List.setIfInBounds_toArray, List.set_cons_zero, List.set_cons_succ]
            refine wpAnyH_at 20 (some 91) (v := undef) (by decide) rfl (by kernel_rfl) (by kernel_rfl) (by kernel_rfl) (fun _ _ _ h => h) (Or.inr ⟨by rfl, rfl⟩) (by assumption) ?_
            simp only [Act.put, List.setIfInBounds_toArray, List.set_cons_zero, List.set_cons_succ]
            refine wpAnyH_at 21 (some 92) (v := undef) (by decide) rfl (by kernel_rfl) (by kernel_rfl) (by kernel_rfl) (fun _ _ _ h => h) (Or.inr ⟨by rfl, rfl⟩) (by assumption) ?_
            simp only [Act.put, List.setIfInBounds_toArray, List.set_cons_zero, List.set_cons_succ]
            refine wpAnyH_at 22 (some 93) (v := undef) (by decide) rfl (by kernel_rfl) (by kernel_rfl) (by kernel_rfl) (fun _ _ _ h => h) (Or.inr ⟨by rfl, rfl⟩) (by assumption) ?_
            simp only [Act.put, List.setIfInBounds_toArray, List.set_cons_zero, List.set_cons_succ]
            refine wpAnyH_at 23 (some 94) (v := ?v423) (by decide) rfl (by kernel_rfl) (by kernel_rfl) (by kernel_rfl) (fun _ _ _ h => h) (Or.inl ⟨by rfl, ?y423⟩) (by assumption) ?r423
            case y423 => (intro w hSw; (try dsimp only at hSw); go_simp; (try with_reducible rfl))
            simp only [Act.put, List.setIfInBounds_toArray, List.set_cons_zero, List.set_cons_succ]
            refine wpAnyH_done (by kernel_rfl) ?_ _
            clear hHeld HSA HS5
            have HSW := hid (HST.out.same K5.out)
            have HSN := hid (show hurtS L o ws (k + 1) = S by rw [HNX.out, HSK.out, if_neg (by rw [HHU.out]; decide), List.append_nil])
            go_wp2
            go_roundw
            case rel => exact ⟨k + 1, S, da, dc, rfl, by go_num, by omega, HSN.out, HSW.out⟩
            case measure => (simp only [RowKit.intOf]; omega)
    · obtain rfl : k = N := by omega
      have HSD := hid (show S = (L.filter (hurt o ws)).map (·.tx) by rw [← HSK.out, ← HNL.out]; unfold hurtS; rw [List.take_length])
      have HRD := hid (show remS L S = L.filter fun x => !hurt o ws x by rw [← HSK.out, ← HNL.out]; exact remS_all HT.out.nodup o ws)
      have kzr : Kept (fun i => i = mb) wz wr := (KA.out.mono (fun _ _ h => h.elim)).trans HST.out.k
      have KZR := hid kzr
      have HLw := hid (show Lies (fun i => i = mb) wr 2 (.slice a n c) n (wcells ws) from by have h := HLz.out.kept kzr (fun g _ h => h); rw [HN.out] at h; exact h)
      clear kzr
      go_wp2_with fail
      refine (cloneW_in (.slice a n c) n (wcells ws) _ HLw.out (by omega) (wcells_one ws)).mono ?_
      rintro e w5 ⟨a5, c5, rfl, hl5, hk5⟩
      obtain ⟨g5, off5, c5', hse, hs1, hs2, hg5, hg6, hg7⟩ := hl5.cell HN0.out
      simp only [Value.slice.injEq, true_and] at hse
      obtain ⟨rfl, rfl⟩ := hse
      have HG5 := hid (show wr.heap.size ≤ g5 ∧ g5 < w5.heap.size from ⟨Nat.le_of_not_lt hg5, hg6⟩)
      have HNW := hid (fun i (h : wr.heap.size ≤ i) => HST.out.t.new i h)
      have T5 := hid (HST.out.t.more hk5 (t := (t1, t2, t3)) HG5.out HG5.out)
      have O5 := hid (show OwIn (fun i => ownP own2 g5 g5 (t1, t2, t3) i = some (t1, t2, t3)) w5 ⟨ob, lb, va, vc⟩ o from (HST.out.o.same hk5).mono (fun i _ h => by
        rw [HOT.out] at h
        show (if i = g5 ∨ i = g5 then some (t1, t2, t3) else own2 i) = _
        split
        · rfl
        · exact h))
      have hl5' := hl5
      have HL5 := hid (lies_swap hl5 (G := fun i => ¬ ownP own2 g5 g5 (t1, t2, t3) i = some (t1, t2, t3) ∨ i = lb ∨ i = ob) (by
        rintro (h | h | h)
        · exact h (if_pos (.inl rfl))
        · have := HST.out.o.map
          obtain ⟨E, hm, _⟩ := this
          have := hm.lt
          simp only at this
          omega
        · have := row_lt HST.out.o.obj
          simp only at this
          omega))
      have K5 := hid (show Kept (fun i => i = mb) w w5 from (KZ.out.mono (fun _ _ h => h.elim) |>.trans KZR.out |>.trans (hk5.mono (fun _ _ h => h.elim))))
      have DA5 := hid (HST.out.g.kept hk5 (fun _ _ => id))
      have HB5 := hid O5.out.obj
      have KB5 := hid ((hk5.block kb (Nat.lt_of_lt_of_le (row_lt HKB.out) KZR.out.size) id).trans ((KZR.out.block kb (row_lt HKB.out) HKM.out).trans HKB.out))
      clear hl5 hl5' hk5 hg5 hg6 hg7 hs1 hs2
      go_wp2_with (refine wpList_store_cell rfl _ _ _ rfl (by kernel_rfl) ob 5 (by rfl) _ (by rfl) rfl HB5.out (by simp) ?_; intro w6 hb6 hk6)
      have hobm : ob ≠ mb := fun e => by
        have h1 := O5.out.own.1
        (try simp only at h1)
        rw [e, T5.out.top.2] at h1
        cases h1
      have hobt : ob ≠ tb := fun e => by
        have h1 := O5.out.own.1
        (try simp only at h1)
        rw [e, T5.out.top.1] at h1
        cases h1
      have hobl : lb ≠ ob := fun e => by
        obtain ⟨E, ⟨es, c, hm, _⟩, _⟩ := O5.out.map
        have h1 := HB5.out
        (try simp only at h1)
        (try simp only at hm)
        rw [← e, hm] at h1
        cases h1
      have hobk : kb ≠ ob := fun e => by
        have h1 := O5.out.own.1
        have h2 := row_lt KB5.out
        have h3 := KB5.out
        have h4 := HB5.out
        (try simp only at h4)
        rw [← e, h3] at h4
        have h5 := congrArg (fun x : Option Obj => match x with | some (.cells c _ _) => c.size | _ => 0) h4
        simp at h5
      have hin6 : OwIn (fun i => ownP own2 g5 g5 (t1, t2, t3) i = some (t1, t2, t3)) w6 ⟨ob, lb, some ⟨g5, off5, none⟩, c5⟩ { o with ws := ws } := by
        refine ⟨?_, ?_, ?_, O5.out.own⟩
        · have h := hb6.out
          rw [← HN.out] at h
          exact h
        · obtain ⟨E, hm, hl⟩ := O5.out.map
          exact ⟨E, hm.of_block (hk6.out.block _ hm.lt hobl), hl⟩
        · have h := HL5.out.kept hk6.out (fun g _ e => .inr (.inr e))
          rw [← HN.out] at h
          exact h
      have HIN6 := hid hin6
      have KT6 : Kept (fun _ => False) w6 w6.drew := (Kept.refl _ w6).drew
      obtain ⟨M, hm, hp⟩ := T5.out.map
      have hm6 := hm.of_block (KT6.block _ (Nat.lt_of_lt_of_le hm.lt hk6.out.size) id |>.trans (hk6.out.block _ hm.lt (Ne.symm hobm)))
      have HP := hid hp
      have c6 : w6.cell? ⟨tb, 0, none⟩ = some (.map (some mb)) := hk6.out.cell T5.out.cell (Ne.symm hobt)
      obtain ⟨k0, k1, k2⟩ := cells3 ((hk6.out.block kb (row_lt KB5.out) hobk).trans KB5.out)
      have HM6 := hid hm6
      have KK6 := hk6
      clear hm hp hin6 hb6 hk6 hm6
      refine wp_region_still_tail 6 (by kernel_rfl) (by kernel_rfl) ?_
      simp only [List.take_succ_cons, List.take_zero, List.drop_succ_cons, List.drop_zero, World.drew_eq]
      iterate 6 still_step
      refine wpStill_nil ?_
      change wpList _ _ _ _ _ (World.drew _)
      refine wpList_layT rfl 61 65 (.tmp 119) (.tmp 120) (.tmp 121) rfl mb (t1, t2, t3) (ptr ob) (by rfl) (by rfl) (by rfl) Try.underlying61 _ HM6.out ?_
      intro w7 hm7 hk7
      have k67 : Kept (fun i => i = mb) w6 w7 := (KT6.mono (fun _ _ h => h.elim)).trans hk7
      have K67 := hid k67
      have hob3 : ownP own2 g5 g5 (t1, t2, t3) ob = some (t1, t2, t3) := O5.out.own.1
      have k57 : Kept (fun i => ownP own2 g5 g5 (t1, t2, t3) i = some (t1, t2, t3) ∨ i = mb) w5 w7 := (KK6.out.mono (fun i _ e => by rw [e]; exact .inl hob3)).trans (k67.mono (fun _ _ h => .inr h))
      have hin7 : OwIn (fun i => ownP own2 g5 g5 (t1, t2, t3) i = some (t1, t2, t3)) w7 ⟨ob, lb, some ⟨g5, off5, none⟩, c5⟩ { o with ws := ws } := HIN6.out.kept k67 (fun i _ h1 h2 => by rw [h2, T5.out.top.2] at h1; cases h1)
      have hok7 : OkO { o with ws := ws } := by
        obtain ⟨c1, _, _, c4⟩ := chkW_ok HZ.out
        exact ⟨HOK.out.1, HOK.out.2, c1, c4⟩
      have ht7 := T5.out.laid (o := { o with ws := ws }) (a' := ⟨ob, lb, some ⟨g5, off5, none⟩, c5⟩) HP.out (by rw [show ({ o with ws := ws } : Ow).tx = (t1, t2, t3) from HOT.out]; exact hm7) (hin7.mono (fun i _ h => h.trans (congrArg some HOT.out.symm))) hok7 (by rw [show ({ o with ws := ws } : Ow).tx = (t1, t2, t3) from HOT.out]; exact k57)
      have heq : layO (remS L S) { o with ws := ws } = askL L o ws := by unfold askL; rw [HRD.out]
      rw [heq] at ht7
      have T7 := hid ht7
      have HLQ := hid (show (askL L o ws).length ≤ 1000000 by have h1 := askL_len L o ws; have h2 := HLL9.out; omega)
      have K57 := hid k57
      clear ht7 heq hok7 hin7 k57 hob3 k67 hm7 hk7 c6 k0 k1 k2 hobm hobt hobl hobk
      go_wp2_with fail
      refine (settle_any T7.out HLQ.out).mono ?_
      rintro e w8 ⟨A8, ga, gc, rfl, ht8, _, ho8, hn8, hk8⟩
      have T8 := hid ht8; have G8 := hid ho8; have N8 := hid hn8; have K8 := hid hk8
      clear ht8 ho8 hn8 hk8
      go_wp2
      have KX : Kept (fun i => i = mb ∨ ∃ t, ownP own2 g5 g5 (t1, t2, t3) i = some t) w w8 := (K5.out.mono (fun _ _ h => .inl h)).trans ((K57.out.mono (fun _ _ h => h.elim (fun h => .inr ⟨_, h⟩) .inl)).trans (K8.out.mono (fun _ _ h => .inr h)))
      have hwr : w.heap.size ≤ wr.heap.size := Nat.le_trans KZ.out.size KZR.out.size
      have hown3 : ∀ i, i < w.heap.size → ownP own2 g5 g5 (t1, t2, t3) i = own i := fun i hi => by
        have := HG5.out.1
        show (if i = g5 ∨ i = g5 then some (t1, t2, t3) else own2 i) = _
        rw [if_neg (by omega)]
        exact HEO.out i hi
      have hda : ∀ b, (Value.slice da S.length dc).ownBlock = some b → b ≠ mb ∧ ∀ t, ¬ ownP own2 g5 g5 (t1, t2, t3) b = some t := fun b hb => by
        have h1 := HST.out.n b hb
        have h2 := HST.out.g.lt hb
        have h3 := KA.out.size
        have h4 := HT.out.mlt
        have h5 := HG5.out.1
        refine ⟨by omega, fun t h => ?_⟩
        have h6 : (if b = g5 ∨ b = g5 then some (t1, t2, t3) else own2 b) = some t := h
        rw [if_neg (by omega), HT.out.new b (by omega)] at h6
        cases h6
      have DA8 := (DA5.out.kept K57.out (fun b hb h => h.elim ((hda b hb).2 _) (hda b hb).1)).kept K8.out (fun b hb h => (hda b hb).2 _ h.choose_spec)
      rw [HSD.out] at DA8 hda ⊢
      refine bodyPost_ret (v := .tuple #[.slice ga (settled (askL L o ws)).2.length gc, .slice da ((L.filter (hurt o ws)).map (·.tx)).length dc, .int .i64 0]) (by simp [results, Try.results11, go_sem]) rfl ⟨_, A8, ga, gc, da, dc, rfl, T8.out, G8.out, fun b hb => ?_, DA8, fun b hb => ?_, KX.mono (fun i hi h => h.imp id (fun ⟨t, ht⟩ => ⟨t, (hown3 i hi).symm.trans ht⟩)), hown3⟩
      · have h1 := N8.out b hb
        exact ⟨Nat.le_trans (Nat.le_trans K5.out.size K57.out.size) h1, T7.out.new b h1⟩
      · have h1 := HST.out.n b (by rw [HSD.out]; exact hb)
        have h2 := KZ.out.size
        have h3 := KA.out.size
        refine ⟨by omega, ?_⟩
        cases h4 : ownP own2 g5 g5 (t1, t2, t3) b with
        | none => rfl
        | some t => exact absurd h4 ((hda b hb).2 t)
end
end Go.Proofs.Ytpjhdpfaogdboaa
/- The table and what is kept; each call once, whatever it answers. -/
namespace Go.Proofs.Ytpjhdpfaogdboaa
set_option linter.unusedSimpArgs false
set_option linter.unusedVariables false
open Go.RowKit
/-- the table; P: blocks that it never writes -/
def TabX (P : Nat → Prop) (w : World) (tb : Nat) (L : List Ow) : Prop := ∃ own B mb A, Tab own B w tb mb L A ∧ ∀ i, P i → own i = none ∧ i ≠ tb ∧ i ≠ mb ∧ i < w.heap.size
/-- an answer's list of transactions -/
def Txs (w0 w : World) (v : Value) (S : List Tx) : Prop := ∃ a c, v = .slice a S.length c ∧ Own w 32 3 (.slice a S.length c) S.length (S.flatMap encT) ∧ ∀ b, (Value.slice a S.length c).ownBlock = some b → w0.heap.size ≤ b
def Wts (w0 w : World) (v : Value) (l : List Wt) : Prop := ∃ a c, v = .slice a l.length c ∧ Own w 36 2 (.slice a l.length c) l.length (wcells l) ∧ ∀ b, (Value.slice a l.length c).ownBlock = some b → w0.heap.size ≤ b
theorem Txs.nil (w0 w : World) : Txs w0 w (.slice none 0 0) [] := ⟨none, 0, rfl, Own.nil _ _ _, fun b h => by simp [Value.ownBlock] at h⟩
theorem Wts.nil (w0 w : World) : Wts w0 w (.slice none 0 0) [] := ⟨none, 0, rfl, Own.nil _ _ _, fun b h => by simp [Value.ownBlock] at h⟩
section
variable {P : Nat → Prop} {w w' : World} {tb : Nat} {L : List Ow}
theorem TabX.mono {Q : Nat → Prop} (h : TabX P w tb L) (hq : ∀ i, Q i → P i) : TabX Q w tb L := by
  obtain ⟨own, B, mb, A, h1, h2⟩ := h
  exact ⟨own, B, mb, A, h1, fun i hi => h2 i (hq i hi)⟩
theorem TabX.kept {F : Nat → Prop} (h : TabX P w tb L) (k : Kept F w w') (hF : ∀ i, i < w.heap.size → F i → P i) : TabX P w' tb L := by
  obtain ⟨own, B, mb, A, h1, h2⟩ := h
  exact ⟨own, B, mb, A, h1.kept k (fun i hi hf => let h3 := h2 i (hF i hi hf); ⟨h3.1, h3.2.1, h3.2.2.1⟩), fun i hi => let h3 := h2 i hi; ⟨h3.1, h3.2.1, h3.2.2.1, Nat.lt_of_lt_of_le h3.2.2.2 k.size⟩⟩
theorem TabX.same (h : TabX P w tb L) (k : Kept (fun _ => False) w w') : TabX P w' tb L := h.kept k (fun _ _ h => h.elim)
theorem TabX.fresh {Q F : Nat → Prop} (h : TabX P w tb L) (k : Kept F w w') (hF : ∀ i, i < w.heap.size → F i → P i) (hQ : ∀ i, Q i → P i ∨ (w.heap.size ≤ i ∧ i < w'.heap.size)) : TabX Q w' tb L := by
  have hk := h.kept k hF
  obtain ⟨own, B, mb, A, h1, h2⟩ := h
  refine ⟨own, B, mb, A, h1.kept k (fun i hi hf => let h3 := h2 i (hF i hi hf); ⟨h3.1, h3.2.1, h3.2.2.1⟩), fun i hi => ?_⟩
  rcases hQ i hi with h3 | ⟨h3, h4⟩
  · have := h2 i h3
    exact ⟨this.1, this.2.1, this.2.2.1, Nat.lt_of_lt_of_le this.2.2.2 k.size⟩
  · have h5 := row_lt h1.obj
    have h6 := h1.mlt
    exact ⟨h1.new i h3, by omega, by omega, h4⟩
theorem TabX.nodup (h : TabX P w tb L) : (L.map (·.tx)).Nodup := by
  obtain ⟨own, B, mb, A, h1, h2⟩ := h
  exact h1.nodup
theorem new_x (w : World) : Calls Try.prog 10 #[] w fun e w' => ∃ tb, e = .returned (.pointer (some ⟨tb, 0, none⟩)) ∧ TabX (fun i => i < w.heap.size) w' tb [] ∧ w.heap.size ≤ tb ∧ Kept (fun _ => False) w w' :=
  (new_any w).mono fun e w' ⟨he, ht, hk⟩ => ⟨_, he, ⟨_, _, _, _, ht, fun i hi => ⟨rfl, by omega, by omega, Nat.lt_of_lt_of_le hi hk.size⟩⟩, by omega, hk⟩
theorem ask_x (h : TabX P w tb L) (t : Tx) (age : Int) {a : Option Addr} {c : Nat} {ws : List Wt} (hl : Lies (fun i => ¬ P i) w 2 (.slice a ws.length c) ws.length (wcells ws)) (hc : cnt L ≤ 1000000) (hLL : L.length ≤ 900000) :
    Calls Try.prog 11 #[.pointer (some ⟨tb, 0, none⟩), txv t, .int .u64 age, .slice a ws.length c] w fun e w' => ∃ v1 v2, e = .returned (.tuple #[v1, v2, .int .i64 (stO L t age ws)]) ∧ Txs w w' v1 (askG L t age ws) ∧ Txs w w' v2 (askD L t age ws) ∧ TabX (fun i => P i ∨ v1.ownBlock = some i ∨ v2.ownBlock = some i) w' tb (askP L t age ws) ∧ Kept (fun i => ¬ P i) w w' := by
  obtain ⟨own, B, mb, A, h1, h2⟩ := h
  have hx : TabX P w tb L := ⟨own, B, mb, A, h1, h2⟩
  obtain ⟨t1, t2, t3⟩ := t
  have hno : ∀ z : Int, stO L (t1, t2, t3) age ws = z → z ≠ 0 → ∀ (e : Ending) (w' : World), e = .returned (.tuple #[.slice none 0 0, .slice none 0 0, .int .i64 z]) ∧ Kept (fun _ => False) w w' →
      ∃ v1 v2, e = .returned (.tuple #[v1, v2, .int .i64 (stO L (t1, t2, t3) age ws)]) ∧ Txs w w' v1 (askG L (t1, t2, t3) age ws) ∧ Txs w w' v2 (askD L (t1, t2, t3) age ws) ∧ TabX (fun i => P i ∨ v1.ownBlock = some i ∨ v2.ownBlock = some i) w' tb (askP L (t1, t2, t3) age ws) ∧ Kept (fun i => ¬ P i) w w' := fun z hz hz0 e w' ⟨he, hk⟩ => by
    unfold askG askD askP
    rw [hz, if_neg hz0, if_neg hz0, if_neg hz0]
    refine ⟨.slice none 0 0, .slice none 0 0, he, Txs.nil _ _, Txs.nil _ _, (hx.same hk).mono fun i hi => ?_, hk.mono (fun _ _ h => h.elim)⟩
    rcases hi with hi | hi | hi
    · exact hi
    · simp [Value.ownBlock] at hi
    · simp [Value.ownBlock] at hi
  have hyes : ∀ {o : Ow}, whoO L (t1, t2, t3) age = o → stO L (t1, t2, t3) age ws = 0 → ∀ (e : Ending) (w' : World), (∃ own' A' ga gc da dc, e = .returned (.tuple #[.slice ga (settled (askL L o ws)).2.length gc, .slice da ((L.filter (hurt o ws)).map (·.tx)).length dc, .int .i64 0]) ∧ Tab own' B w' tb mb (settled (askL L o ws)).1 A'
      ∧ Own w' 32 3 (.slice ga (settled (askL L o ws)).2.length gc) (settled (askL L o ws)).2.length ((settled (askL L o ws)).2.flatMap encT) ∧ (∀ b, (Value.slice ga (settled (askL L o ws)).2.length gc).ownBlock = some b → w.heap.size ≤ b ∧ own' b = none)
      ∧ Own w' 32 3 (.slice da ((L.filter (hurt o ws)).map (·.tx)).length dc) ((L.filter (hurt o ws)).map (·.tx)).length (((L.filter (hurt o ws)).map (·.tx)).flatMap encT) ∧ (∀ b, (Value.slice da ((L.filter (hurt o ws)).map (·.tx)).length dc).ownBlock = some b → w.heap.size ≤ b ∧ own' b = none)
      ∧ Kept (fun i => i = mb ∨ ∃ t, own i = some t) w w' ∧ ∀ i, i < w.heap.size → own' i = own i) →
      ∃ v1 v2, e = .returned (.tuple #[v1, v2, .int .i64 (stO L (t1, t2, t3) age ws)]) ∧ Txs w w' v1 (askG L (t1, t2, t3) age ws) ∧ Txs w w' v2 (askD L (t1, t2, t3) age ws) ∧ TabX (fun i => P i ∨ v1.ownBlock = some i ∨ v2.ownBlock = some i) w' tb (askP L (t1, t2, t3) age ws) ∧ Kept (fun i => ¬ P i) w w' := fun {o} ho hs e w' ⟨own', A', ga, gc, da, dc, he, ht, hg, hgn, hd, hdn, hk, hoo⟩ => by
    unfold askG askD askP
    rw [hs, if_pos rfl, if_pos rfl, if_pos rfl, ho]
    refine ⟨_, _, he, ⟨ga, gc, rfl, hg, fun b hb => (hgn b hb).1⟩, ⟨da, dc, rfl, hd, fun b hb => (hdn b hb).1⟩, ⟨own', B, mb, A', ht, fun i hi => ?_⟩, hk.mono fun i _ hi hp => ?_⟩
    · have h5 := row_lt h1.obj
      have h6 := h1.mlt
      rcases hi with hi | hi | hi
      · have h3 := h2 i hi
        exact ⟨(hoo i h3.2.2.2).trans h3.1, h3.2.1, h3.2.2.1, Nat.lt_of_lt_of_le h3.2.2.2 hk.size⟩
      · have := hgn i hi
        exact ⟨this.2, by omega, by omega, hg.lt hi⟩
      · have := hdn i hi
        exact ⟨this.2, by omega, by omega, hd.lt hi⟩
    · have h3 := h2 i hp
      rcases hi with rfl | ⟨t, hi⟩
      · exact h3.2.2.1 rfl
      · rw [h3.1] at hi; cases hi
  have hlm : Lies (fun i => i = mb) w 2 (.slice a ws.length c) ws.length (wcells ws) := hl.mono fun g _ e hp => (h2 g hp).2.2.1 e
  by_cases hz : chkW ws ≠ 0
  · have hst : stO L (t1, t2, t3) age ws = chkW ws := by unfold stO; rw [if_pos hz]
    exact (ask_err hl hz).mono (hno _ hst hz)
  · have hz0 : chkW ws = 0 := by omega
    cases hf : findO L (t1, t2, t3) with
    | none =>
      have hw : whoO L (t1, t2, t3) age = emptyO (t1, t2, t3) age := by unfold whoO; rw [hf]; rfl
      have h9 : ¬ (0 < (whoO L (t1, t2, t3) age).ws.length ∨ (whoO L (t1, t2, t3) age).fast = true ∨ (whoO L (t1, t2, t3) age).age ≠ age) := by rw [hw]; simp [emptyO]
      by_cases h10 : 256 < cnt L + ws.length
      · exact (ask_full0 h1 hl hz0 hf hc h10).mono (hno 10 (by unfold stO; rw [if_neg hz, if_neg h9, if_pos h10]) (by decide))
      · exact (ask_new h1 hlm hz0 hf rfl (by omega) hLL).mono (hyes hw (by unfold stO; rw [if_neg hz, if_neg h9, if_neg h10]))
    | some o =>
      have hw : whoO L (t1, t2, t3) age = o := by unfold whoO; rw [hf]; rfl
      by_cases h9 : 0 < o.ws.length ∨ o.fast = true ∨ o.age ≠ age
      · exact (ask_st h1 hl hz0 hf h9).mono (hno 9 (by unfold stO; rw [if_neg hz, hw, if_pos h9]) (by decide))
      · have h91 := h9
        simp only [not_or, Classical.not_not, Bool.not_eq_true] at h91
        by_cases h10 : 256 < cnt L + ws.length
        · exact (ask_full1 h1 hl hz0 hf h91.1 h91.2.1 h91.2.2 hc h10).mono (hno 10 (by unfold stO; rw [if_neg hz, hw, if_neg h9, if_pos h10]) (by decide))
        · have hot := (findO_mem hf).2
          have hoe : (⟨(t1, t2, t3), age, o.lk, [], false⟩ : Ow) = o := by
            have hws := List.eq_nil_of_length_eq_zero (Nat.eq_zero_of_not_pos h91.1)
            rw [← hot, ← h91.2.2, ← hws, ← h91.2.1]
          exact (ask_old h1 hlm hz0 hf hoe (by omega) hLL).mono (hyes hw (by unfold stO; rw [if_neg hz, hw, if_neg h9, if_neg h10]))
theorem hold_x (h : TabX P w tb L) (t : Tx) :
    Calls Try.prog 15 #[.pointer (some ⟨tb, 0, none⟩), txv t] w fun e w' => e = .returned (.int .i64 (holdE L t)) ∧ TabX P w' tb (holdP L t) ∧ Kept (fun i => ¬ P i) w w' := by
  obtain ⟨own, B, mb, A, h1, h2⟩ := h
  have hx : TabX P w tb L := ⟨own, B, mb, A, h1, h2⟩
  obtain ⟨t1, t2, t3⟩ := t
  unfold holdP holdE
  cases hf : findO L (t1, t2, t3) with
  | none => exact (hold_no h1 hf).mono fun e w' ⟨he, hk⟩ => ⟨he, hx.same hk, hk.mono (fun _ _ h => h.elim)⟩
  | some o =>
    by_cases hw : 0 < o.ws.length
    · simp only [if_pos hw]
      exact (hold_wait h1 hf hw).mono fun e w' ⟨he, hk⟩ => ⟨he, hx.same hk, hk.mono (fun _ _ h => h.elim)⟩
    · simp only [if_neg hw, if_true]
      exact (hold_yes h1 hf hw).mono fun e w' ⟨A', he, ht, hk⟩ => ⟨he, ⟨own, B, mb, A', ht, fun i hi => let h3 := h2 i hi; ⟨h3.1, h3.2.1, h3.2.2.1, Nat.lt_of_lt_of_le h3.2.2.2 hk.size⟩⟩, hk.mono fun i _ hi hp => by
        rw [(h2 i hp).1] at hi; cases hi⟩
theorem rel_x (h : TabX P w tb L) (t : Tx) (hLL : L.length ≤ 1000000) :
    Calls Try.prog 16 #[.pointer (some ⟨tb, 0, none⟩), txv t] w fun e w' => ∃ v, e = .returned (.tuple #[v, .int .i64 0]) ∧ Txs w w' v (relG L t) ∧ TabX (fun i => P i ∨ v.ownBlock = some i) w' tb (relP L t) ∧ Kept (fun i => ¬ P i) w w' := by
  obtain ⟨own, B, mb, A, h1, h2⟩ := h
  have hx : TabX P w tb L := ⟨own, B, mb, A, h1, h2⟩
  obtain ⟨t1, t2, t3⟩ := t
  unfold relP relG
  cases hf : findO L (t1, t2, t3) with
  | none =>
    simp only [Option.isSome_none, Bool.false_eq_true, if_false]
    exact (rel_no h1 hf).mono fun e w' ⟨he, hk⟩ => ⟨_, he, Txs.nil _ _, (hx.same hk).mono (fun i hi => hi.elim id (fun h => by simp [Value.ownBlock] at h)), hk.mono (fun _ _ h => h.elim)⟩
  | some o =>
    simp only [Option.isSome_some, if_true]
    refine (rel_yes h1 hf hLL).mono fun e w' ⟨A', ga, gc, he, ht, hg, hgn, hk⟩ => ⟨_, he, ⟨ga, gc, rfl, hg, hgn⟩, ⟨own, B, mb, A', ht, fun i hi => ?_⟩, hk.mono fun i _ hi hp => ?_⟩
    · have h5 := row_lt h1.obj
      have h6 := h1.mlt
      rcases hi with hi | hi
      · have h3 := h2 i hi
        exact ⟨h3.1, h3.2.1, h3.2.2.1, Nat.lt_of_lt_of_le h3.2.2.2 hk.size⟩
      · have := hgn i hi
        exact ⟨h1.new i this, by omega, by omega, hg.lt hi⟩
    · have h3 := h2 i hp
      rcases hi with rfl | ⟨t, hi⟩
      · exact h3.2.2.1 rfl
      · rw [h3.1] at hi; cases hi
theorem locks_x (h : TabX P w tb L) (t : Tx) :
    Calls Try.prog 20 #[.pointer (some ⟨tb, 0, none⟩), txv t] w fun e w' => ∃ v, e = .returned v ∧ Wts w w' v (locksP L t) ∧ TabX (fun i => P i ∨ v.ownBlock = some i) w' tb L ∧ Kept (fun _ => False) w w' := by
  have hx := h
  obtain ⟨own, B, mb, A, h1, h2⟩ := h
  obtain ⟨t1, t2, t3⟩ := t
  unfold locksP
  cases hf : findO L (t1, t2, t3) with
  | none => exact (locks_no h1 hf).mono fun e w' ⟨he, hk⟩ => ⟨_, he, Wts.nil _ _, (hx.same hk).mono (fun i hi => hi.elim id (fun h => by simp [Value.ownBlock] at h)), hk⟩
  | some o => exact (locks_yes h1 hf).mono fun e w' ⟨ga, gc, he, hg, hgn, hk⟩ => ⟨_, he, ⟨ga, gc, rfl, hg, hgn⟩, hx.fresh hk (fun _ _ h => h.elim) (fun i hi => hi.imp id (fun h => ⟨hgn i h, hg.lt h⟩)), hk⟩
theorem waiting_x (h : TabX P w tb L) (hLL : L.length ≤ 1000000) :
    Calls Try.prog 17 #[.pointer (some ⟨tb, 0, none⟩)] w fun e w' => ∃ v, e = .returned v ∧ Txs w w' v (waitP L) ∧ TabX (fun i => P i ∨ v.ownBlock = some i) w' tb L ∧ Kept (fun _ => False) w w' := by
  have hx := h
  obtain ⟨own, B, mb, A, h1, h2⟩ := h
  exact (waiting_any h1 hLL).mono fun e w' ⟨ga, gc, he, hg, hgn, hk⟩ => ⟨_, he, ⟨ga, gc, rfl, hg, hgn⟩, hx.fresh hk (fun _ _ h => h.elim) (fun i hi => hi.imp id (fun h => ⟨hgn i h, hg.lt h⟩)), hk⟩
theorem known_x (h : TabX P w tb L) (t : Tx) :
    Calls Try.prog 18 #[.pointer (some ⟨tb, 0, none⟩), txv t] w fun e w' => e = .returned (.bool (findO L t).isSome) ∧ Kept (fun _ => False) w w' := by
  obtain ⟨own, B, mb, A, h1, h2⟩ := h
  obtain ⟨t1, t2, t3⟩ := t
  cases hf : findO L (t1, t2, t3) with
  | none => exact known_no h1 hf
  | some o => exact known_yes h1 hf
theorem count_x (h : TabX P w tb L) (hc : cnt L ≤ 1000000) :
    Calls Try.prog 13 #[.pointer (some ⟨tb, 0, none⟩)] w fun e w' => e = .returned (.int .i64 (cnt L)) ∧ Kept (fun _ => False) w w' := by
  obtain ⟨own, B, mb, A, h1, h2⟩ := h
  exact count_any h1 hc
end
end Go.Proofs.Ytpjhdpfaogdboaa
/- tx, SameTxs, awake. -/
namespace Go.Proofs.Ytpjhdpfaogdboaa
set_option linter.unusedSimpArgs false
set_option linter.unusedVariables false
open Go.RowKit
theorem encT_one (L : List Tx) : ∀ u ∈ L.flatMap encT, u.oneCell' = true := by
  intro u hu
  obtain ⟨x, _, hu⟩ := List.mem_flatMap.1 hu
  simp [encT] at hu
  rcases hu with rfl | rfl | rfl <;> rfl
section
variable {α : Type} {f : α → List Value} {m : Nat}
theorem flat_len (hf : ∀ x, (f x).length = m) : ∀ L : List α, (L.flatMap f).length = L.length * m
  | [] => by simp
  | x :: L => by rw [List.flatMap_cons, List.length_append, hf, flat_len hf L, List.length_cons, Nat.succ_mul]; omega
theorem flat_at (hf : ∀ x, (f x).length = m) : ∀ (L : List α) (k j : Nat) (x : α), L[k]? = some x → j < m → (L.flatMap f)[k * m + j]? = (f x)[j]?
  | [], _, _, _, h, _ => by simp at h
  | y :: L, 0, j, x, h, hj => by
    simp at h; subst h
    rw [List.flatMap_cons, Nat.zero_mul, Nat.zero_add, List.getElem?_append_left (by rw [hf]; exact hj)]
  | y :: L, k + 1, j, x, h, hj => by
    rw [List.flatMap_cons, List.getElem?_append_right (by rw [hf, Nat.succ_mul]; omega), hf, show (k + 1) * m + j - m = k * m + j by rw [Nat.succ_mul]; omega]
    exact flat_at hf L k j x (by simpa using h) hj
end
theorem tx_cells {F : Nat → Prop} {w w' : World} {a : Option Addr} {N c : Nat} {L : List Tx} (h : Lies F w 3 (.slice a N c) N (L.flatMap encT)) (hN : L.length = N) (k : Kept (fun _ => False) w w') {j : Nat} {x : Tx} (hx : L[j]? = some x) :
    ∃ g o, a = some ⟨g, o, none⟩ ∧ w'.cell? ⟨g, o + j * 3, none⟩ = some (.int .u8 x.1) ∧ w'.cell? ⟨g, o + j * 3 + 1, none⟩ = some (.int .u32 x.2.1) ∧ w'.cell? ⟨g, o + j * 3 + 2, none⟩ = some (.int .u32 x.2.2) := by
  have hj := (List.getElem?_eq_some_iff.1 hx).1
  obtain ⟨g, o, c', e, _, _, _, _, hc⟩ := h.cell (by omega)
  simp only [Value.slice.injEq] at e
  obtain ⟨rfl, _, rfl⟩ := e
  refine ⟨g, o, rfl, ?_⟩
  have key : ∀ i u, (encT x)[i]? = some u → i < 3 → w'.cell? ⟨g, o + (j * 3 + i), none⟩ = some u := fun i u hu hi => by
    have h1 := flat_at (f := encT) (m := 3) (fun _ => rfl) L j i x hx hi
    rw [hu] at h1
    exact k.cell (hc _ _ h1) id
  exact ⟨key 0 _ rfl (by omega), key 1 _ rfl (by omega), key 2 _ rfl (by omega)⟩
theorem cap_of {F : Nat → Prop} {w : World} {size : Nat} {a : Option Addr} {N c : Nat} {l : List Value} (h : Lies F w size (.slice a N c) N l) : N ≤ c ∧ c ≤ maxLen := by
  obtain ⟨ao, c', e, h1, h2, _⟩ := h
  simp only [Value.slice.injEq] at e
  obtain ⟨_, _, rfl⟩ := e
  exact ⟨h1, h2⟩
set_option maxRecDepth 100000 in
set_option maxHeartbeats 1000000 in
theorem same_txs {F F' : Nat → Prop} {w : World} {a b : Option Addr} {N c d : Nat} {L : List Tx} (ha : Lies F w 3 (.slice a N c) N (L.flatMap encT)) (hb : Lies F' w 3 (.slice b N d) N (L.flatMap encT)) (hLN : L.length = N) (hN : N ≤ 1000000) :
    Calls Try.prog 24 #[.slice a N c, .slice b N d] w fun e w' => e = .returned (.bool true) ∧ Kept (fun _ => False) w w' := by
  obtain ⟨m1, m2⟩ := cap_of ha
  obtain ⟨m3, m4⟩ := cap_of hb
  unfold maxLen at m2 m4
  have HA := hid ha; have HB := hid hb; have HN := hid hLN
  clear ha hb hLN
  go_enter Try.func24, Try.ntmps24
  go_wp2_with fail
  go_loopw [13] (fun i wr => ∃ k : Nat, k ≤ N ∧ i = .int .i64 k ∧ Kept (fun _ => False) w wr) (fun i _ => N - (RowKit.intOf i).toNat)
  case atStart => exact ⟨0, Nat.zero_le _, rfl, Kept.refl _ _⟩
  case round =>
    rename World => wA
    obtain ⟨k, hk, rfl, hkp⟩ := hrel
    have K := hid hkp
    clear hkp
    by_cases hlt : k < N
    · have hkI : (k : Int) < (N : Int) := by omega
      obtain ⟨x, hx⟩ : ∃ x, L[k]? = some x := ⟨_, List.getElem?_eq_getElem (by rw [HN.out]; exact hlt)⟩
      obtain ⟨g1, o1, rfl, q0, q1, q2⟩ := tx_cells HA.out HN.out K.out hx
      obtain ⟨g2, o2, rfl, r0, r1, r2⟩ := tx_cells HB.out HN.out K.out hx
      obtain ⟨x1, x2, x3⟩ := x
      simp only at q0 q1 q2 r0 r1 r2
      have hsame : ∀ w', (Op.equalIn 10000 32 (.agg #[.int .u8 x1, .int .u32 x2, .int .u32 x3]) (.agg #[.int .u8 x1, .int .u32 x2, .int .u32 x3])).run Try.prog w' = .ok true w' := fun w' => by
        have h := tx_same (x1, x2, x3) (x1, x2, x3) w'
        rwa [decide_eq_true rfl] at h
      clear hx
      go_wp2_with fail
      go_quiet (fail)
      have K1 := hid (K.out.trans (kept_drewN (F := fun _ => False) wA nq))
      go_wp2
      go_roundw
      case rel => exact ⟨k + 1, by omega, by go_num, K1.out⟩
      case measure => (simp only [RowKit.intOf]; omega)
    · go_wp2
      go_ret
      exact ⟨rfl, K.out⟩
set_option maxHeartbeats 1000000 in
theorem tx_any (w : World) (n : Int) (h0 : 0 ≤ n) (h1 : n < 4294967296) :
    Calls Try.prog 12 #[.int .i64 n] w fun e w' => e = .returned (.agg #[.int .u8 0, .int .u32 0, .int .u32 n]) ∧ Kept (fun _ => False) w w' := by
  have hw : IntKind.u32.wrap n = n := by simp [IntKind.wrap, IntKind.bits, IntKind.signed]; omega
  have HW := hid hw
  clear hw
  go_enter Try.func12, Try.ntmps12
  go_wp2
  refine bodyPost_ret (v := .agg #[.int .u8 0, .int .u32 0, .int .u32 n]) (by simp [results, Try.results12, go_sem, HW.out]) rfl ⟨rfl, ?_⟩
  exact (Kept.refl _ _).alloc _
/-- a list of one want, new -/
theorem wlit (w : World) (v m : Int) {F : Nat → Prop} (hF : ¬ F w.heap.size) : Lies F (w.alloc (.cells #[.int .u32 v, .int .u8 m] 36)) 2 (.slice (some ⟨w.heap.size, 0, none⟩) 1 1) 1 (wcells [(v, m)]) :=
  (show Own (w.alloc (.cells #[.int .u32 v, .int .u8 m] 36)) 36 2 (.slice (some ⟨w.heap.size, 0, none⟩) 1 1) 1 (wcells [(v, m)]) from Own.mk (n := 1) (row_new w _) (Nat.le_refl _) (by decide) rfl).lies (wcells_one _) (fun g hg => by
    simp only [Value.ownBlock, Option.some.injEq] at hg
    rw [← hg]; exact hF)
theorem tlit (w : World) (t : Tx) {F : Nat → Prop} (hF : ¬ F w.heap.size) : Lies F (w.alloc (.cells #[.int .u8 t.1, .int .u32 t.2.1, .int .u32 t.2.2] 32)) 3 (.slice (some ⟨w.heap.size, 0, none⟩) 1 1) 1 ([t].flatMap encT) :=
  (show Own (w.alloc (.cells #[.int .u8 t.1, .int .u32 t.2.1, .int .u32 t.2.2] 32)) 32 3 (.slice (some ⟨w.heap.size, 0, none⟩) 1 1) 1 ([t].flatMap encT) from Own.mk (n := 1) (row_new w _) (Nat.le_refl _) (by decide) rfl).lies (encT_one _) (fun g hg => by
    simp only [Value.ownBlock, Option.some.injEq] at hg
    rw [← hg]; exact hF)
theorem Txs.kept {w0 w w' : World} {v : Value} {S : List Tx} {F : Nat → Prop} (h : Txs w0 w v S) (k : Kept F w w') (hF : ∀ b, v.ownBlock = some b → ¬ F b) : Txs w0 w' v S := by
  obtain ⟨a, c, rfl, ho, hn⟩ := h
  exact ⟨a, c, rfl, ho.kept k hF, hn⟩
theorem Txs.lies {w0 w : World} {v : Value} {S : List Tx} (h : Txs w0 w v S) : ∃ a c, v = .slice a S.length c ∧ Lies (fun _ => False) w 3 (.slice a S.length c) S.length (S.flatMap encT) := by
  obtain ⟨a, c, rfl, ho, hn⟩ := h
  exact ⟨a, c, rfl, ho.lies (encT_one _) (fun _ _ => id)⟩
def awL1 : List Ow := [⟨(0, 0, 2), 2, [(1, 2)], [], false⟩]
def awL2 : List Ow := [⟨(0, 0, 2), 2, [(1, 2)], [], false⟩, ⟨(0, 0, 3), 3, [], [(1, 1)], false⟩]
def awL3 : List Ow := [⟨(0, 0, 1), 1, [(1, 2)], [], false⟩, ⟨(0, 0, 3), 3, [], [(1, 1)], false⟩]
theorem aw1 : askP [] (0, 0, 2) 2 [(1, 2)] = awL1 ∧ askG [] (0, 0, 2) 2 [(1, 2)] = [(0, 0, 2)] ∧ stO [] (0, 0, 2) 2 [(1, 2)] = 0 := ⟨by kernel_rfl, by kernel_rfl, by kernel_rfl⟩
theorem aw2 : askP awL1 (0, 0, 3) 3 [(1, 1)] = awL2 ∧ askG awL1 (0, 0, 3) 3 [(1, 1)] = [] ∧ stO awL1 (0, 0, 3) 3 [(1, 1)] = 0 := ⟨by kernel_rfl, by kernel_rfl, by kernel_rfl⟩
theorem aw3 : askP awL2 (0, 0, 1) 1 [(1, 2)] = awL3 ∧ askG awL2 (0, 0, 1) 1 [(1, 2)] = [(0, 0, 1)] ∧ askD awL2 (0, 0, 1) 1 [(1, 2)] = [(0, 0, 2)] ∧ stO awL2 (0, 0, 1) 1 [(1, 2)] = 0 := ⟨by kernel_rfl, by kernel_rfl, by kernel_rfl, by kernel_rfl⟩
theorem aw4 : relG awL3 (0, 0, 1) = [(0, 0, 3)] := by kernel_rfl
set_option maxRecDepth 100000 in
set_option maxHeartbeats 2000000 in
theorem awake_any (w : World) : Calls Try.prog 9 #[] w fun e w' => e = .returned (.bool true) ∧ Kept (fun _ => False) w w' := by
  go_enter Try.func9, Try.ntmps9
  go_wp2_with fail
  refine (new_x w).mono ?_
  rintro e w1 ⟨tb, rfl, ht, hle, hk⟩
  obtain ⟨xb, hxb⟩ : ∃ xb, w1.heap.size = xb := ⟨_, rfl⟩
  obtain ⟨w2, hw2⟩ : ∃ w2, w1.alloc (.cells #[.int .u32 1, .int .u8 2] 36) = w2 := ⟨_, rfl⟩
  have k12 : Kept (fun _ => False) w1 w2 := by rw [← hw2]; exact (Kept.refl _ _).alloc _
  have T2 := hid (show TabX (fun i => i < w.heap.size ∨ i = xb) w2 tb [] from ht.fresh k12 (fun _ _ h => h.elim) (fun i hi => hi.imp id (fun e => by rw [e, ← hxb, ← hw2]; exact ⟨Nat.le_refl _, by simp⟩)))
  have X2 := hid (show Lies (fun i => ¬ (i < w.heap.size ∨ i = xb)) w2 2 (.slice (some ⟨xb, 0, none⟩) 1 1) 1 (wcells [(1, 2)]) from by
    rw [← hw2, ← hxb]
    exact wlit w1 1 2 (fun h => h (.inr rfl)))
  have K2 := hid (hk.trans k12)
  clear ht hk k12
  go_wp2_with fail
  try rw [hw2]
  try rw [hxb]
  clear hw2 hxb
  refine (tx_any _ 2 (by decide) (by decide)).mono ?_
  rintro e w3 ⟨rfl, hk3⟩
  have T3 := hid (T2.out.same hk3); have X3 := hid (X2.out.same hk3); have K3 := hid (K2.out.trans hk3)
  clear hk3 T2 X2 K2
  have q1 := ask_x T3.out (0, 0, 2) 2 (ws := [(1, 2)]) X3.out (by decide) (by decide)
  rw [aw1.1, aw1.2.1, aw1.2.2] at q1
  have Q1 := hid q1
  clear q1
  go_wp2_with fail
  refine (Q1.out).mono ?_
  rintro e w4 ⟨v1, v2, rfl, ⟨a1, c1, rfl, ho1, hn1⟩, -, ht4, hk4⟩
  have T4 := hid (ht4.mono (Q := fun i => i < w.heap.size ∨ i = xb) (fun i hi => .inl hi))
  have X4 := hid (X3.out.kept hk4 (fun g _ h => h))
  have K4 := hid (show Kept (fun i => w.heap.size ≤ i) w w4 from (K3.out.mono (fun _ _ h => h.elim)).trans (hk4.mono (fun i _ h => by omega)))
  clear ho1 hn1 ht4 hk4 T3 X3 K3 Q1
  go_wp2_with fail
  refine (tx_any _ 3 (by decide) (by decide)).mono ?_
  rintro e w5 ⟨rfl, hk5⟩
  have T5 := hid (T4.out.same hk5); have X5 := hid (X4.out.same hk5); have K5 := hid (K4.out.trans (hk5.mono (fun _ _ h => h.elim)))
  clear hk5 T4 X4 K4
  obtain ⟨yb, hyb⟩ : ∃ yb, w5.heap.size = yb := ⟨_, rfl⟩
  obtain ⟨w6, hw6⟩ : ∃ w6, w5.alloc (.cells #[.int .u32 1, .int .u8 1] 36) = w6 := ⟨_, rfl⟩
  have k56 : Kept (fun _ => False) w5 w6 := by rw [← hw6]; exact (Kept.refl _ _).alloc _
  have T6 := hid (show TabX (fun i => (i < w.heap.size ∨ i = xb) ∨ i = yb) w6 tb awL1 from T5.out.fresh k56 (fun _ _ h => h.elim) (fun i hi => hi.imp id (fun e => by rw [e, ← hyb, ← hw6]; exact ⟨Nat.le_refl _, by simp⟩)))
  have X6 := hid (X5.out.same k56)
  have Y6 := hid (show Lies (fun i => ¬ ((i < w.heap.size ∨ i = xb) ∨ i = yb)) w6 2 (.slice (some ⟨yb, 0, none⟩) 1 1) 1 (wcells [(1, 1)]) from by
    rw [← hw6, ← hyb]
    exact wlit w5 1 1 (fun h => h (.inr rfl)))
  have K6 := hid (K5.out.trans (k56.mono (fun _ _ h => h.elim)))
  clear k56 T5 X5 K5
  have q2 := ask_x T6.out (0, 0, 3) 3 (ws := [(1, 1)]) Y6.out (by decide) (by decide)
  rw [aw2.1, aw2.2.1, aw2.2.2] at q2
  have Q2 := hid q2
  clear q2
  go_wp2_with fail
  try rw [hw6]
  try rw [hyb]
  clear hw6 hyb
  refine (Q2.out).mono ?_
  rintro e w7 ⟨v3, v4, rfl, ⟨a3, c3, rfl, ho3, hn3⟩, -, ht7, hk7⟩
  have T7 := hid (ht7.mono (Q := fun i => i < w.heap.size ∨ i = xb) (fun i hi => .inl (.inl hi)))
  have X7 := hid (X6.out.kept hk7 (fun g _ h hg => h (.inl hg)))
  have K7 := hid (K6.out.trans (hk7.mono (fun i _ h => by omega)))
  clear ho3 hn3 ht7 hk7 T6 X6 K6 Q2 Y6
  go_wp2_with fail
  refine (tx_any _ 1 (by decide) (by decide)).mono ?_
  rintro e w8 ⟨rfl, hk8⟩
  have T8 := hid (T7.out.same hk8); have X8 := hid (X7.out.same hk8); have K8 := hid (K7.out.trans (hk8.mono (fun _ _ h => h.elim)))
  clear hk8 T7 X7 K7
  have q3 := ask_x T8.out (0, 0, 1) 1 (ws := [(1, 2)]) X8.out (by decide) (by decide)
  rw [aw3.1, aw3.2.1, aw3.2.2.1, aw3.2.2.2] at q3
  have Q3 := hid q3
  clear q3
  go_wp2_with fail
  refine (Q3.out).mono ?_
  rintro e w9 ⟨v5, v6, rfl, ⟨a5, c5, rfl, ho5, hn5⟩, ⟨a6, c6, rfl, ho6, hn6⟩, ht9, hk9⟩
  have T9 := hid (ht9.mono (Q := fun i => i < w.heap.size ∨ (Value.slice a5 1 c5).ownBlock = some i ∨ (Value.slice a6 1 c6).ownBlock = some i) (fun i hi => hi.imp .inl id))
  have A9 := hid ho5; have B9 := hid ho6
  have K9 := hid (K8.out.trans (hk9.mono (fun i _ h => by omega)))
  clear ho5 hn5 ho6 hn6 ht9 hk9 T8 X8 K8 Q3
  go_wp2_with fail
  refine (tx_any _ 1 (by decide) (by decide)).mono ?_
  rintro e w10 ⟨rfl, hk10⟩
  have T10 := hid (T9.out.same hk10); have A10 := hid (A9.out.kept hk10 (fun _ _ => id)); have B10 := hid (B9.out.kept hk10 (fun _ _ => id)); have K10 := hid (K9.out.trans (hk10.mono (fun _ _ h => h.elim)))
  clear hk10 T9 A9 B9 K9
  have q4 := rel_x T10.out (0, 0, 1) (by decide)
  rw [aw4] at q4
  have Q4 := hid q4
  clear q4
  go_wp2_with fail
  refine (Q4.out).mono ?_
  rintro e w11 ⟨v7, rfl, ⟨a7, c7, rfl, ho7, hn7⟩, -, hk11⟩
  have A11 := hid (A10.out.kept hk11 (fun b hb h => h (.inr (.inl hb)))); have B11 := hid (B10.out.kept hk11 (fun b hb h => h (.inr (.inr hb)))); have C11 := hid ho7
  have K11 := hid (K10.out.trans (hk11.mono (fun i _ h => by omega)))
  clear ho7 hn7 hk11 T10 A10 B10 K10 Q4
  go_wp2_with fail
  refine (tx_any _ 1 (by decide) (by decide)).mono ?_
  rintro e w12 ⟨rfl, hk12⟩
  obtain ⟨zb12, hzb⟩ : ∃ zb, w12.heap.size = zb := ⟨_, rfl⟩
  obtain ⟨w13, hw13⟩ : ∃ w13, w12.alloc (.cells #[.int .u8 0, .int .u32 0, .int .u32 1] 32) = w13 := ⟨_, rfl⟩
  have k13 : Kept (fun _ => False) w11 w13 := by rw [← hw13]; exact hk12.alloc _
  have L13 := hid (show Lies (fun _ => False) w13 3 (.slice (some ⟨zb12, 0, none⟩) 1 1) 1 (List.flatMap encT [(0, 0, 1)]) from by rw [← hw13, ← hzb]; exact tlit w12 (0, 0, 1) id)
  have S13 := hid (((A11).out.kept k13 (fun _ _ => id)).lies (encT_one _) (F := fun _ => False) (fun _ _ => id))
  have KK13 := hid k13
  clear hk12 k13
  go_wp2_with fail
  try rw [hw13]
  try rw [hzb]
  clear hw13 hzb
  refine (same_txs (L := [(0, 0, 1)]) S13.out L13.out rfl (by decide)).mono ?_
  rintro e w14 ⟨rfl, hk14⟩
  have KK14 := hid (KK13.out.trans hk14)
  clear hk14 S13 L13 KK13
  have B14 := hid (B11.out.kept KK14.out (fun _ _ => id)); have C14 := hid (C11.out.kept KK14.out (fun _ _ => id)); have K14 := hid (K11.out.trans (KK14.out.mono (fun _ _ h => h.elim)))
  clear A11 B11 C11 K11 KK14
  go_wp2_with fail
  refine (tx_any _ 2 (by decide) (by decide)).mono ?_
  rintro e w15 ⟨rfl, hk15⟩
  obtain ⟨zb15, hzb⟩ : ∃ zb, w15.heap.size = zb := ⟨_, rfl⟩
  obtain ⟨w16, hw16⟩ : ∃ w16, w15.alloc (.cells #[.int .u8 0, .int .u32 0, .int .u32 2] 32) = w16 := ⟨_, rfl⟩
  have k16 : Kept (fun _ => False) w14 w16 := by rw [← hw16]; exact hk15.alloc _
  have L16 := hid (show Lies (fun _ => False) w16 3 (.slice (some ⟨zb15, 0, none⟩) 1 1) 1 (List.flatMap encT [(0, 0, 2)]) from by rw [← hw16, ← hzb]; exact tlit w15 (0, 0, 2) id)
  have S16 := hid (((B14).out.kept k16 (fun _ _ => id)).lies (encT_one _) (F := fun _ => False) (fun _ _ => id))
  have KK16 := hid k16
  clear hk15 k16
  go_wp2_with fail
  try rw [hw16]
  try rw [hzb]
  clear hw16 hzb
  refine (same_txs (L := [(0, 0, 2)]) S16.out L16.out rfl (by decide)).mono ?_
  rintro e w17 ⟨rfl, hk17⟩
  have KK17 := hid (KK16.out.trans hk17)
  clear hk17 S16 L16 KK16
  have C17 := hid (C14.out.kept KK17.out (fun _ _ => id)); have K17 := hid (K14.out.trans (KK17.out.mono (fun _ _ h => h.elim)))
  clear B14 C14 K14 KK17
  go_wp2_with fail
  refine (tx_any _ 3 (by decide) (by decide)).mono ?_
  rintro e w18 ⟨rfl, hk18⟩
  obtain ⟨zb18, hzb⟩ : ∃ zb, w18.heap.size = zb := ⟨_, rfl⟩
  obtain ⟨w19, hw19⟩ : ∃ w19, w18.alloc (.cells #[.int .u8 0, .int .u32 0, .int .u32 3] 32) = w19 := ⟨_, rfl⟩
  have k19 : Kept (fun _ => False) w17 w19 := by rw [← hw19]; exact hk18.alloc _
  have L19 := hid (show Lies (fun _ => False) w19 3 (.slice (some ⟨zb18, 0, none⟩) 1 1) 1 (List.flatMap encT [(0, 0, 3)]) from by rw [← hw19, ← hzb]; exact tlit w18 (0, 0, 3) id)
  have S19 := hid (((C17).out.kept k19 (fun _ _ => id)).lies (encT_one _) (F := fun _ => False) (fun _ _ => id))
  have KK19 := hid k19
  clear hk18 k19
  go_wp2_with fail
  try rw [hw19]
  try rw [hzb]
  clear hw19 hzb
  refine (same_txs (L := [(0, 0, 3)]) S19.out L19.out rfl (by decide)).mono ?_
  rintro e w20 ⟨rfl, hk20⟩
  have KK20 := hid (KK19.out.trans hk20)
  clear hk20 S19 L19 KK19
  have K20 := hid (K17.out.trans (KK20.out.mono (fun _ _ h => h.elim)))
  go_wp2
  go_ret
  exact ⟨rfl, K20.out.mono (fun i hi h => by omega)⟩
end Go.Proofs.Ytpjhdpfaogdboaa
/- A slice of an argument whose elements read as x's. -/
namespace Go.Proofs.Ytpjhdpfaogdboaa
set_option linter.unusedSimpArgs false
set_option linter.unusedVariables false
open Go.RowKit

theorem enc_len {α : Type} (enc : α → List Value) (n : Nat) (hn : ∀ x, (enc x).length = n) : ∀ l : List α, (l.flatMap enc).length = l.length * n
  | [] => by simp
  | x :: l => by rw [List.flatMap_cons, List.length_append, hn, enc_len enc n hn l, List.length_cons, Nat.succ_mul]; omega
theorem enc_at {α : Type} (enc : α → List Value) (n : Nat) (hn : ∀ x, (enc x).length = n) (h0 : 0 < n) : ∀ (l : List α) (j : Nat) (u : Value), (l.flatMap enc)[j]? = some u → ∃ i x r, l[i]? = some x ∧ r < n ∧ j = i * n + r ∧ (enc x)[r]? = some u
  | [], j, u, h => by simp at h
  | y :: l, j, u, h => by
    rw [List.flatMap_cons] at h
    by_cases hj : j < n
    · rw [List.getElem?_append_left (by rw [hn]; exact hj)] at h
      exact ⟨0, y, j, by simp, hj, by omega, h⟩
    · rw [List.getElem?_append_right (by rw [hn]; omega), hn] at h
      obtain ⟨i, x, r, h1, h2, h3, h4⟩ := enc_at enc n hn h0 l _ u h
      refine ⟨i + 1, x, r, by simpa using h1, h2, ?_, h4⟩
      rw [Nat.succ_mul]; omega

/-- A slice of an argument whose elements read as x's. -/
theorem lies_of {α : Type} (enc : α → List Value) (n : Nat) (hn : ∀ x, (enc x).length = n) (h0 : 0 < n) (h1 : ∀ x, ∀ u ∈ enc x, u.oneCell' = true) (x0 : α) {w : World} {t e : TypeId} (hu : Try.prog.underlying t = some (.slice e)) (hc : Try.prog.cellsOf e = n)
    (Q : α → Prop) (hread : ∀ es, es.length = n → Rd Try.prog w e es → ∃ x, es = enc x ∧ Q x) {a : Option Addr} {len cap : Nat} (h : Rd Try.prog w t [.slice a len cap]) :
    ∃ l : List α, l.length = len ∧ Lies (fun g => w.heap.size ≤ g) w n (.slice a len cap) len (l.flatMap enc) ∧ len * Try.prog.bytesOf e ≤ reachBytes ∧ ∀ x ∈ l, Q x := by
  obtain ⟨q1, q2, q3, q4, q5⟩ := h.row hu hc h0
  have hex : ∀ i, ∃ x : α, i < len → Q x ∧ ∃ b off, a = some ⟨b, off, none⟩ ∧ b < w.heap.size ∧ ∀ j u, (enc x)[j]? = some u → w.cell? ⟨b, off + (i * n + j), none⟩ = some u := by
    intro i
    by_cases hi : i < len
    · obtain ⟨b, off, es, e1, e2, e3, e4, e5⟩ := q5 i (by omega)
      obtain ⟨x, rfl, hQ⟩ := hread es e3 e5
      refine ⟨x, fun _ => ⟨hQ, b, off, e1, e2, fun j u hj => ?_⟩⟩
      have hjn : j < n := by have := (List.getElem?_eq_some_iff.1 hj).1; omega
      rw [← Nat.add_assoc, e4 j hjn, hj]
    · exact ⟨x0, fun h => absurd h hi⟩
  obtain ⟨g, hg⟩ : ∃ g : Nat → α, ∀ i, i < len → Q (g i) ∧ ∃ b off, a = some ⟨b, off, none⟩ ∧ b < w.heap.size ∧ ∀ j u, (enc (g i))[j]? = some u → w.cell? ⟨b, off + (i * n + j), none⟩ = some u := ⟨fun i => (hex i).choose, fun i => (hex i).choose_spec⟩
  refine ⟨(List.range len).map g, by simp, ⟨a, cap, rfl, q1, q2, ?_, q4, fun hm => ?_, fun u hu => ?_⟩, Nat.le_trans (Nat.mul_le_mul_right _ q1) q3, fun x hx => ?_⟩
  · rw [enc_len enc n hn]; simp
  · obtain ⟨_, b, off, e1, e2, _⟩ := hg 0 hm
    refine ⟨b, off, e1, by omega, e2, fun j u hj => ?_⟩
    obtain ⟨i, x, r, k1, k2, k3, k4⟩ := enc_at enc n hn h0 _ j u hj
    have hi : i < len := by have := (List.getElem?_eq_some_iff.1 k1).1; simpa using this
    rw [List.getElem?_map, List.getElem?_range hi] at k1
    simp only [Option.map_some, Option.some.injEq] at k1
    subst k1
    obtain ⟨_, b', off', e1', _, e3'⟩ := hg i hi
    rw [e1] at e1'
    simp only [Option.some.injEq, Addr.mk.injEq] at e1'
    obtain ⟨rfl, rfl, _⟩ := e1'
    rw [k3]
    exact e3' r u k4
  · rw [List.mem_flatMap] at hu
    obtain ⟨x, _, hx⟩ := hu
    exact h1 x u hx
  · rw [List.mem_map] at hx
    obtain ⟨i, hi, rfl⟩ := hx
    exact (hg i (by simpa using hi)).1

end Go.Proofs.Ytpjhdpfaogdboaa
/- Scripts as plain data; the plain laws of LockApart, LockMoves, LockFast, LockOldest; known. -/
namespace Go.Proofs.Ytpjhdpfaogdboaa
set_option linter.unusedSimpArgs false
set_option linter.unusedVariables false
open Go.RowKit
structure OpD where
  kd : Int
  t : Tx
  age : Int
  ws : List Wt
/-- an operation that reads so -/
structure OpOk (F : Nat → Prop) (w : World) (x : OpD) (bo : Option Addr) (bc : Nat) : Prop where
  b : Lies F w 2 (.slice bo x.ws.length bc) x.ws.length (wcells x.ws)
  k : 0 ≤ x.kd ∧ x.kd ≤ 255
  a : 0 ≤ x.age
  l : x.ws.length * 8 ≤ 140737488351232
  p : ∀ y ∈ x.ws, 0 ≤ y.1 ∧ 0 ≤ y.2
def opCells (x : OpD) (bo : Option Addr) (bc : Nat) : List Value := [.int .u8 x.kd, .int .u8 x.t.1, .int .u32 x.t.2.1, .int .u32 x.t.2.2, .int .u64 x.age, .slice bo x.ws.length bc]
/-- a slice of operations, outside F -/
def ScrAt (F : Nat → Prop) (w : World) (a : Option Addr) (n c : Nat) (ops : List OpD) : Prop :=
  ops.length = n ∧ n ≤ c ∧ c ≤ maxLen ∧ ∀ (k : Nat) (x : OpD), ops[k]? = some x → ∃ b off bo bc, a = some ⟨b, off, none⟩ ∧ ¬ F b ∧ (∀ j u, (opCells x bo bc)[j]? = some u → w.cell? ⟨b, off + k * 6 + j, none⟩ = some u) ∧ OpOk F w x bo bc
theorem OpOk.kept {F G : Nat → Prop} {w w' : World} {x : OpD} {bo : Option Addr} {bc : Nat} (h : OpOk F w x bo bc) (k : Kept G w w') (hg : ∀ g, g < w.heap.size → G g → F g) : OpOk F w' x bo bc := ⟨h.b.kept k hg, h.k, h.a, h.l, h.p⟩
theorem ScrAt.kept {F G : Nat → Prop} {w w' : World} {a : Option Addr} {n c : Nat} {ops : List OpD} (h : ScrAt F w a n c ops) (k : Kept G w w') (hg : ∀ g, g < w.heap.size → G g → F g) : ScrAt F w' a n c ops := by
  obtain ⟨h0, h1, h2, h3⟩ := h
  refine ⟨h0, h1, h2, fun j x hx => ?_⟩
  obtain ⟨b, off, bo, bc, q1, q2, q3, q4⟩ := h3 j x hx
  refine ⟨b, off, bo, bc, q1, q2, fun i u hu => ?_, q4.kept k hg⟩
  have hc := q3 i u hu
  exact k.cell hc (fun hG => q2 (hg b (World.block_lt_of_cell? _ _ hc) hG))
theorem cells8 : Try.prog.cellsOf 5 = 1 := by kernel_rfl
theorem cells32 : Try.prog.cellsOf 26 = 1 := by kernel_rfl
theorem cells64 : Try.prog.cellsOf 34 = 1 := by kernel_rfl
theorem cellsT : Try.prog.cellsOf 32 = 3 := by kernel_rfl
theorem cellsWs : Try.prog.cellsOf 37 = 1 := by kernel_rfl
theorem cellsW : Try.prog.cellsOf 36 = 2 := by kernel_rfl
theorem bytesW : Try.prog.bytesOf 36 = 8 := by kernel_rfl
theorem cellsOp : Try.prog.cellsOf 43 = 6 := by kernel_rfl
theorem wf8 {n : Int} (h : (Lit.int .u8 n).wf = true) : 0 ≤ n ∧ n ≤ 255 := by
  simp [Lit.wf, IntKind.min, IntKind.max, IntKind.signed, IntKind.bits] at h; omega
theorem wf32 {n : Int} (h : (Lit.int .u32 n).wf = true) : 0 ≤ n := by
  simp [Lit.wf, IntKind.min, IntKind.max, IntKind.signed, IntKind.bits] at h; omega
theorem wf64 {n : Int} (h : (Lit.int .u64 n).wf = true) : 0 ≤ n := by
  simp [Lit.wf, IntKind.min, IntKind.max, IntKind.signed, IntKind.bits] at h; omega
theorem want_read {w : World} {es : List Value} (hl : es.length = 2) (h : Rd Try.prog w 36 es) : ∃ x : Wt, es = wcell x ∧ (0 ≤ x.1 ∧ 0 ≤ x.2) := by
  match es, hl with
  | [x0, x1], _ =>
    have h0 : Rd Try.prog w 26 [x0] := h.field Try.underlying36 0 26 0 1 rfl cells32
    have h1 : Rd Try.prog w 5 [x1] := h.field Try.underlying36 1 5 1 1 rfl cells8
    obtain ⟨a, e0, w0⟩ := h0.int Try.underlying26
    obtain ⟨b, e1, w1⟩ := h1.int Try.underlying5
    simp only [List.cons.injEq, and_true] at e0 e1
    subst e0 e1
    exact ⟨(a, b), rfl, wf32 w0, (wf8 w1).1⟩
theorem wcell_one (x : Wt) : ∀ u ∈ wcell x, u.oneCell' = true := by
  intro u hu
  simp [wcell] at hu
  rcases hu with rfl | rfl <;> rfl
/-- wants as an argument -/
theorem wants_read {w : World} {a : Option Addr} {len cap : Nat} (h : Rd Try.prog w 37 [.slice a len cap]) : ∃ l : List Wt, l.length = len ∧ Lies (fun g => w.heap.size ≤ g) w 2 (.slice a len cap) len (wcells l) ∧ len * 8 ≤ 140737488351232 ∧ ∀ y ∈ l, 0 ≤ y.1 ∧ 0 ≤ y.2 := by
  obtain ⟨l, h1, h2, h3, h4⟩ := lies_of wcell 2 (fun _ => rfl) (by decide) wcell_one (0, 0) Try.underlying37 cellsW (fun y => 0 ≤ y.1 ∧ 0 ≤ y.2) (fun es h1 h2 => want_read h1 h2) h
  rw [bytesW] at h3
  exact ⟨l, h1, h2, by unfold reachBytes at h3; omega, h4⟩
theorem op_read {w : World} {es : List Value} (hl : es.length = 6) (h : Rd Try.prog w 43 es) : ∃ (x : OpD) (bo : Option Addr) (bc : Nat), es = opCells x bo bc ∧ OpOk (fun g => w.heap.size ≤ g) w x bo bc := by
  match es, hl with
  | [x0, x1, x2, x3, x4, x5], _ =>
    have h0 : Rd Try.prog w 5 [x0] := h.field Try.underlying43 0 5 0 1 rfl cells8
    have h1 : Rd Try.prog w 32 [x1, x2, x3] := h.field Try.underlying43 1 32 1 3 rfl cellsT
    have h2 : Rd Try.prog w 34 [x4] := h.field Try.underlying43 2 34 4 1 rfl cells64
    have h3 : Rd Try.prog w 37 [x5] := h.field Try.underlying43 3 37 5 1 rfl cellsWs
    have g0 : Rd Try.prog w 5 [x1] := h1.field Try.underlying32 0 5 0 1 rfl cells8
    have g1 : Rd Try.prog w 26 [x2] := h1.field Try.underlying32 1 26 1 1 rfl cells32
    have g2 : Rd Try.prog w 26 [x3] := h1.field Try.underlying32 2 26 2 1 rfl cells32
    obtain ⟨a, e0, w0⟩ := h0.int Try.underlying5
    obtain ⟨t1, e1, _⟩ := g0.int Try.underlying5
    obtain ⟨t2, e2, _⟩ := g1.int Try.underlying26
    obtain ⟨t3, e3, _⟩ := g2.int Try.underlying26
    obtain ⟨b, e4, w4⟩ := h2.int Try.underlying34
    obtain ⟨ao, n, c, e5⟩ := h3.isSlice Try.underlying37
    simp only [List.cons.injEq, and_true] at e0 e1 e2 e3 e4 e5
    subst e0 e1 e2 e3 e4 e5
    obtain ⟨l, rfl, q1, q2, q3⟩ := wants_read h3
    exact ⟨⟨a, (t1, t2, t3), b, l⟩, ao, c, rfl, q1, wf8 w0, wf64 w4, q2, q3⟩
theorem scr_read {w : World} {a : Option Addr} {len cap : Nat} (h : Rd Try.prog w 40 [.slice a len cap]) : ∃ ops : List OpD, ScrAt (fun g => w.heap.size ≤ g) w a len cap ops := by
  obtain ⟨q1, q2, q3, q4, q5⟩ := h.row Try.underlying40 cellsOp (by decide)
  have hex : ∀ i, ∃ x : OpD, i < len → ∃ b off bo bc, a = some ⟨b, off, none⟩ ∧ ¬ w.heap.size ≤ b ∧ (∀ j u, (opCells x bo bc)[j]? = some u → w.cell? ⟨b, off + i * 6 + j, none⟩ = some u) ∧ OpOk (fun g => w.heap.size ≤ g) w x bo bc := by
    intro i
    by_cases hi : i < len
    · obtain ⟨b, off, es, e1, e2, e3, e4, e5⟩ := q5 i (by omega)
      obtain ⟨x, bo, bc, rfl, hok⟩ := op_read e3 e5
      refine ⟨x, fun _ => ⟨b, off, bo, bc, e1, by omega, fun j u hu => ?_, hok⟩⟩
      have hj : j < 6 := by have := (List.getElem?_eq_some_iff.1 hu).1; simpa [opCells] using this
      rw [e4 j hj, hu]
    · exact ⟨⟨0, (0, 0, 0), 0, []⟩, fun h => absurd h hi⟩
  refine ⟨(List.range len).map fun i => (hex i).choose, by simp, by simpa using q1, q2, fun k x hx => ?_⟩
  rw [List.getElem?_map, Option.map_eq_some_iff] at hx
  obtain ⟨i, hi, rfl⟩ := hx
  obtain ⟨hk, e⟩ := List.getElem?_eq_some_iff.1 hi
  simp at hk e
  subst e
  exact (hex k).choose_spec hk
/-! ### plain: what a script does -/
def stepL (h : Bool) (L : List Ow) (x : OpD) : List Ow := if x.kd = 0 then askP L x.t x.age x.ws else if x.kd = 1 then (if h = true then holdP L x.t else L) else if x.kd = 2 then relP L x.t else L
def runL (h : Bool) (L : List Ow) (ops : List OpD) : List Ow := ops.foldl (stepL h) L
theorem runL_snoc (h : Bool) (L : List Ow) (ops : List OpD) (x : OpD) : runL h L (ops ++ [x]) = stepL h (runL h L ops) x := by unfold runL; rw [List.foldl_append]; rfl
theorem stepL_inv (h : Bool) {L : List Ow} (hL : Inv L) (x : OpD) : Inv (stepL h L x) := by
  unfold stepL
  split
  · exact askP_inv hL _ _ _
  · split
    · split
      · exact holdP_inv hL _
      · exact hL
    · split
      · exact relP_inv hL _
      · exact hL
theorem stepL_len (h : Bool) (L : List Ow) (x : OpD) : (stepL h L x).length ≤ L.length + 1 := by
  unfold stepL
  split
  · exact askP_len _ _ _ _
  · split
    · split
      · rw [holdP_len]; omega
      · omega
    · split
      · have := relP_len L x.t; omega
      · omega
theorem runL_inv (h : Bool) (ops : List OpD) : ∀ {L : List Ow}, Inv L → Inv (runL h L ops) := by
  induction ops with
  | nil => exact fun hL => hL
  | cons x ops ih => exact fun hL => ih (stepL_inv h hL x)
theorem runL_len (h : Bool) (ops : List OpD) : ∀ (L : List Ow), (runL h L ops).length ≤ L.length + ops.length := by
  induction ops with
  | nil => exact fun L => Nat.le_refl _
  | cons x ops ih =>
    intro L
    have h1 := ih (stepL h L x)
    have h2 := stepL_len h L x
    show (runL h (stepL h L x) ops).length ≤ _
    rw [List.length_cons]
    omega
theorem Inv.cnt {L : List Ow} (h : Inv L) : Go.Proofs.Ytpjhdpfaogdboaa.cnt L ≤ 40 * L.length := cnt_bound h.ok
/-! ### known -/
def knS (l : List Tx) (x : OpD) : List Tx := if x.t ∈ l then l else l ++ [x.t]
def knP (ops : List OpD) : List Tx := ops.foldl knS []
theorem knP_snoc (ops : List OpD) (x : OpD) : knP (ops ++ [x]) = knS (knP ops) x := by unfold knP; rw [List.foldl_append]; rfl
theorem knS_nodup {l : List Tx} (h : l.Nodup) (x : OpD) : (knS l x).Nodup := by
  unfold knS
  split
  · exact h
  · rename_i hn
    rw [List.nodup_append]
    exact ⟨h, by simp, fun a ha b hb e => by simp at hb; rw [e, hb] at ha; exact hn ha⟩
theorem knF_nodup (ops : List OpD) : ∀ l : List Tx, l.Nodup → (ops.foldl knS l).Nodup := by
  induction ops with
  | nil => exact fun l h => h
  | cons x ops ih => exact fun l h => ih _ (knS_nodup h x)
theorem knP_nodup (ops : List OpD) : (knP ops).Nodup := knF_nodup ops [] List.nodup_nil
theorem mem_knS {l : List Tx} {x : OpD} {t : Tx} : t ∈ knS l x ↔ t ∈ l ∨ t = x.t := by
  unfold knS
  split
  · rename_i h
    exact ⟨.inl, fun h2 => h2.elim id (fun e => e ▸ h)⟩
  · rw [List.mem_append, List.mem_singleton]
theorem mem_knF (ops : List OpD) : ∀ (l : List Tx) (t : Tx), t ∈ ops.foldl knS l ↔ t ∈ l ∨ ∃ x ∈ ops, x.t = t := by
  induction ops with
  | nil => intro l t; simp
  | cons x ops ih =>
    intro l t
    rw [List.foldl_cons, ih, mem_knS]
    constructor
    · rintro ((h | h) | ⟨y, hy, h⟩)
      · exact .inl h
      · exact .inr ⟨x, List.mem_cons_self, h.symm⟩
      · exact .inr ⟨y, List.mem_cons_of_mem _ hy, h⟩
    · rintro (h | ⟨y, hy, h⟩)
      · exact .inl (.inl h)
      · rcases List.mem_cons.1 hy with rfl | hy
        · exact .inl (.inr h.symm)
        · exact .inr ⟨y, hy, h⟩
theorem mem_knP {ops : List OpD} {t : Tx} : t ∈ knP ops ↔ ∃ x ∈ ops, x.t = t := by
  unfold knP
  rw [mem_knF]
  simp
/-! ### settle, by members -/
theorem mem_setAt {L : List Ow} {k : Nat} {o o' x : Ow} (hk : L[k]? = some o) (h : x ∈ L.set k o') : x = o' ∨ x ∈ L := by
  rcases List.mem_or_eq_of_mem_set h with h | h
  · exact .inr h
  · exact .inl h
theorem setK_mem (L : List Ow) : ∀ k, k ≤ L.length → (∀ x ∈ (setK L k).1, ∃ o ∈ L, x = o ∨ x = grant o ∧ 0 < o.ws.length) ∧ (∀ j, k ≤ j → (setK L k).1[j]? = L[j]?)
  | 0, _ => ⟨fun x hx => ⟨x, hx, .inl rfl⟩, fun _ _ => rfl⟩
  | k + 1, hk => by
    obtain ⟨h1, h2⟩ := setK_mem L k (by omega)
    have hs : setK L (k + 1) = stepS (setK L k) k := rfl
    have h3 := h2 k (Nat.le_refl _)
    obtain ⟨o, ho⟩ : ∃ o, L[k]? = some o := ⟨_, List.getElem?_eq_getElem (by omega)⟩
    rw [ho] at h3
    rw [hs]
    by_cases hg : goS (setK L k).1 k o = true
    · rw [stepS_eq h3 hg]
      refine ⟨fun x hx => ?_, fun j hj => ?_⟩
      · rcases mem_setAt h3 hx with rfl | hx
        · exact ⟨o, List.mem_of_getElem? ho, .inr ⟨rfl, (goS_iff.1 hg).1⟩⟩
        · exact h1 x hx
      · rw [List.getElem?_set_ne (by omega)]
        exact h2 j (by omega)
    · rw [stepS_id h3 (by simpa using hg)]
      exact ⟨h1, fun j hj => h2 j (by omega)⟩
where
  stepS_eq {S : List Ow × List Tx} {k : Nat} {o : Ow} (h : S.1[k]? = some o) (hg : goS S.1 k o = true) : stepS S k = (S.1.set k (grant o), S.2 ++ [o.tx]) := by
    unfold stepS
    rw [h]
    simp [hg]
  stepS_id {S : List Ow × List Tx} {k : Nat} {o : Ow} (h : S.1[k]? = some o) (hg : goS S.1 k o = false) : stepS S k = S := by
    unfold stepS
    rw [h]
    simp [hg]
theorem settled_mem {L : List Ow} {x : Ow} (h : x ∈ (settled L).1) : ∃ o ∈ L, x = o ∨ x = grant o ∧ 0 < o.ws.length := (setK_mem L L.length (Nat.le_refl _)).1 x h
/-- who doesn't wait stays as it is -/
theorem setK_stay {L : List Ow} {o : Ow} (ho : o ∈ L) (hw : o.ws = []) : ∀ k, o ∈ (setK L k).1
  | 0 => ho
  | k + 1 => by
    have ih := setK_stay ho hw k
    show o ∈ (stepS (setK L k) k).1
    unfold stepS
    split
    · rename_i y hy
      split
      · rename_i hg
        obtain ⟨j, hj⟩ := List.getElem?_of_mem ih
        have hne : k ≠ j := fun e => by
          subst e
          rw [hj] at hy
          obtain rfl := Option.some.inj hy
          have := (goS_iff.1 hg).1
          rw [hw] at this
          simp at this
        exact List.mem_of_getElem? (i := j) (by rw [List.getElem?_set_ne hne]; exact hj)
      · exact ih
    · exact ih
theorem settled_stay {L : List Ow} {o : Ow} (ho : o ∈ L) (hw : o.ws = []) : o ∈ (settled L).1 := setK_stay ho hw _
/-! ### whose owners there are -/
theorem askP_tx {L : List Ow} {t : Tx} {age : Int} {ws : List Wt} {x : Ow} (h : x ∈ askP L t age ws) : x.tx = t ∨ ∃ o ∈ L, o.tx = x.tx := by
  unfold askP at h
  split at h
  · have h1 : x.tx ∈ (settled (askL L (whoO L t age) ws)).1.map (·.tx) := List.mem_map.2 ⟨x, h, rfl⟩
    rw [settled_txs] at h1
    obtain ⟨y, hy, e⟩ := List.mem_map.1 h1
    rcases mem_askL.1 hy with rfl | ⟨hy, _, _⟩
    · exact .inl (e.symm.trans whoO_tx)
    · exact .inr ⟨y, hy, e⟩
  · exact .inr ⟨x, h, rfl⟩
theorem relP_txs (L : List Ow) (t : Tx) : (relP L t).map (·.tx) = (L.map (·.tx)).filter fun u => decide (u ≠ t) := by
  unfold relP
  cases hf : findO L t with
  | none =>
    simp only [Option.isSome_none, Bool.false_eq_true, if_false]
    rw [eq_comm, List.filter_eq_self]
    intro u hu
    obtain ⟨x, hx, rfl⟩ := List.mem_map.1 hu
    simpa using findO_none hf x hx
  | some o =>
    simp only [Option.isSome_some, if_true]
    rw [settled_txs]
    unfold dropO
    rw [List.filter_map]
    rfl
theorem relP_tx {L : List Ow} {t : Tx} {x : Ow} (h : x ∈ relP L t) : x.tx ≠ t ∧ ∃ o ∈ L, o.tx = x.tx := by
  have h1 : x.tx ∈ (relP L t).map (·.tx) := List.mem_map.2 ⟨x, h, rfl⟩
  rw [relP_txs, List.mem_filter, decide_eq_true_eq] at h1
  obtain ⟨y, hy, e⟩ := List.mem_map.1 h1.1
  exact ⟨h1.2, y, hy, e⟩
theorem holdP_tx {L : List Ow} {t : Tx} {x : Ow} (h : x ∈ holdP L t) : ∃ o ∈ L, o.tx = x.tx := by
  unfold holdP at h
  split at h
  · obtain ⟨y, hy, rfl⟩ := List.mem_map.1 h
    exact ⟨y, hy, (fastO_tx _ _).symm⟩
  · exact ⟨x, h, rfl⟩
theorem stepL_tx {h : Bool} {L : List Ow} {x : OpD} {o : Ow} (ho : o ∈ stepL h L x) : o.tx = x.t ∨ ∃ y ∈ L, y.tx = o.tx := by
  unfold stepL at ho
  split at ho
  · exact askP_tx ho
  · split at ho
    · split at ho
      · exact .inr (holdP_tx ho)
      · exact .inr ⟨o, ho, rfl⟩
    · split at ho
      · exact .inr (relP_tx ho).2
      · exact .inr ⟨o, ho, rfl⟩
theorem runL_tx (h : Bool) (ops : List OpD) : ∀ {L : List Ow} {o : Ow}, o ∈ runL h L ops → (∃ x ∈ ops, x.t = o.tx) ∨ ∃ y ∈ L, y.tx = o.tx := by
  induction ops with
  | nil => exact fun ho => .inr ⟨_, ho, rfl⟩
  | cons x ops ih =>
    intro L o ho
    rcases ih (L := stepL h L x) ho with ⟨y, hy, e⟩ | ⟨y, hy, e⟩
    · exact .inl ⟨y, List.mem_cons_of_mem _ hy, e⟩
    · rcases stepL_tx hy with e2 | ⟨z, hz, e2⟩
      · exact .inl ⟨x, List.mem_cons_self, e2.symm.trans e⟩
      · exact .inr ⟨z, hz, e2.trans e⟩
/-! ### LockApart -/
theorem locksP_apart {L : List Ow} (h : Inv L) {a b : Tx} (hab : a ≠ b) : clash (locksP L a) (locksP L b) = false := by
  unfold locksP
  cases ha : findO L a with
  | none => exact clash_nil' _
  | some x =>
    cases hb : findO L b with
    | none => exact clash_nil _
    | some y =>
      obtain ⟨x1, x2⟩ := findO_mem ha
      obtain ⟨y1, y2⟩ := findO_mem hb
      exact h.apart x x1 y y1 (by rw [x2, y2]; exact hab)
/-! ### LockMoves -/
theorem someone {L : List Ow} (h : Inv L) (hn : 0 < L.length) : ∃ o ∈ L, o.ws = [] := by
  refine Classical.byContradiction fun hc => ?_
  have hall : ∀ o ∈ L, 0 < o.ws.length := fun o ho => by
    rcases Nat.eq_zero_or_pos o.ws.length with h0 | h0
    · exact absurd ⟨o, ho, List.eq_nil_of_length_eq_zero h0⟩ hc
    · exact h0
  obtain ⟨a, ha⟩ : ∃ a, L[0]? = some a := ⟨_, List.getElem?_eq_getElem hn⟩
  have ham := List.mem_of_getElem? ha
  have hd := h.done 0 a hn ha
  have hg : goS L 0 a = true := goS_iff.2 ⟨hall a ham, fun x hx hne => by
    obtain ⟨j, hj⟩ := List.getElem?_of_mem hx
    have hj0 : 0 < j := by
      rcases Nat.eq_zero_or_pos j with e | e
      · rw [e, ha] at hj
        exact absurd (congrArg Ow.tx (Option.some.inj hj).symm) hne
      · exact e
    obtain ⟨l1, e1⟩ := List.getElem?_eq_some_iff.1 ha
    obtain ⟨l2, e2⟩ := List.getElem?_eq_some_iff.1 hj
    have hlt := List.pairwise_iff_getElem.1 h.srt 0 j l1 l2 hj0
    rw [e1, e2] at hlt
    have hnf : x.fast = false := by
      cases hf : x.fast with
      | false => rfl
      | true =>
        have := hall x hx
        rw [h.fst x hx hf] at this
        simp at this
    exact h.wait a ham x hx hlt hnf, fun x hx => by simp at hx⟩
  rw [hg] at hd
  cases hd
/-- one release of a round -/
def mvS (W : List Tx) (L : List Ow) (a : Tx) : List Ow := if (findO L a).isSome && !decide (a ∈ W) then relP L a else L
def roundP (names : List Tx) (L : List Ow) : List Ow := names.foldl (mvS (waitP L)) L
theorem mvS_inv {W : List Tx} {L : List Ow} (h : Inv L) (a : Tx) : Inv (mvS W L a) := by
  unfold mvS
  split
  · exact relP_inv h a
  · exact h
theorem mvS_tx {W : List Tx} {L : List Ow} {a : Tx} {o : Ow} (ho : o ∈ mvS W L a) : (o.tx = a → a ∈ W) ∧ ∃ y ∈ L, y.tx = o.tx := by
  unfold mvS at ho
  split at ho
  · obtain ⟨h1, h2⟩ := relP_tx ho
    exact ⟨fun e => absurd e h1, h2⟩
  · rename_i hc
    refine ⟨fun e => ?_, o, ho, rfl⟩
    have hs : (findO L a).isSome = true := by
      cases hf : findO L a with
      | some x => rfl
      | none => exact absurd e (findO_none hf o ho)
    rw [hs, Bool.true_and] at hc
    simpa using hc
theorem mvF (W : List Tx) (names : List Tx) : ∀ {L : List Ow}, Inv L → Inv (names.foldl (mvS W) L) ∧ ∀ o ∈ names.foldl (mvS W) L, (o.tx ∈ names → o.tx ∈ W) ∧ ∃ y ∈ L, y.tx = o.tx := by
  induction names with
  | nil => exact fun h => ⟨h, fun o ho => ⟨fun hm => (by cases hm), o, ho, rfl⟩⟩
  | cons a names ih =>
    intro L h
    obtain ⟨h1, h2⟩ := ih (mvS_inv (W := W) h a)
    refine ⟨h1, fun o ho => ?_⟩
    obtain ⟨h3, y, hy, e⟩ := h2 o ho
    obtain ⟨h4, z, hz, e2⟩ := mvS_tx hy
    refine ⟨fun hm => ?_, z, hz, e2.trans e⟩
    rcases List.mem_cons.1 hm with e3 | hm
    · rw [e3]; exact h4 (e.trans e3)
    · exact h3 hm
theorem mvS_len {W : List Tx} {L : List Ow} {a : Tx} : (mvS W L a).length ≤ L.length := by
  unfold mvS
  split
  · exact relP_len _ _
  · exact Nat.le_refl _
theorem waitP_lt {L : List Ow} (h : Inv L) (hn : 0 < L.length) : (waitP L).length < L.length := by
  obtain ⟨o, ho, hw⟩ := someone h hn
  unfold waitP
  rw [List.length_map]
  have h1 := (List.filter_append_perm (fun o : Ow => decide (0 < o.ws.length)) L).length_eq
  rw [List.length_append] at h1
  have h2 : 0 < (L.filter fun x => !decide (0 < x.ws.length)).length := List.length_pos_of_mem (List.mem_filter.2 ⟨ho, by simp [hw]⟩)
  omega
theorem roundP_ok {names : List Tx} {L : List Ow} (h : Inv L) (hn : ∀ o ∈ L, o.tx ∈ names) : Inv (roundP names L) ∧ (∀ o ∈ roundP names L, o.tx ∈ names) ∧ (roundP names L).length ≤ L.length - 1 := by
  obtain ⟨h1, h2⟩ := mvF (waitP L) names h
  have h3 : ∀ o ∈ roundP names L, o.tx ∈ names := fun o ho => by
    obtain ⟨_, y, hy, e⟩ := h2 o ho
    rw [← e]; exact hn y hy
  refine ⟨h1, h3, ?_⟩
  have hle : (roundP names L).length ≤ (waitP L).length := by
    have hnd : ((roundP names L).map (·.tx)).Nodup := h1.nod
    have hsub : ∀ t ∈ (roundP names L).map (·.tx), t ∈ waitP L := fun t ht => by
      obtain ⟨o, ho, rfl⟩ := List.mem_map.1 ht
      exact (h2 o ho).1 (h3 o ho)
    have := nodup_len hnd hsub
    rwa [List.length_map] at this
  rcases Nat.eq_zero_or_pos L.length with h0 | h0
  · have := waitP_le L
    omega
  · have := waitP_lt h h0
    omega
where
  nodup_len : ∀ {a b : List Tx}, a.Nodup → (∀ t ∈ a, t ∈ b) → a.length ≤ b.length := fun {a} => by
    induction a with
    | nil => intro b _ _; simp
    | cons x a ih =>
      intro b hn hs
      rw [List.nodup_cons] at hn
      have hx := hs x List.mem_cons_self
      have h1 := ih (b := b.erase x) hn.2 fun t ht => by
        have hne : t ≠ x := fun e => hn.1 (e ▸ ht)
        exact (List.mem_erase_of_ne hne).2 (hs t (List.mem_cons_of_mem _ ht))
      rw [List.length_erase_of_mem hx] at h1
      have := List.length_pos_of_mem hx
      rw [List.length_cons]
      omega
  waitP_le (L : List Ow) : (waitP L).length ≤ L.length := by
    unfold waitP
    rw [List.length_map]
    exact List.length_filter_le _ _
def roundsP (names : List Tx) (L : List Ow) : Nat → List Ow
  | 0 => L
  | k + 1 => roundP names (roundsP names L k)
theorem roundsP_ok {names : List Tx} {L : List Ow} (h : Inv L) (hn : ∀ o ∈ L, o.tx ∈ names) : ∀ k, Inv (roundsP names L k) ∧ (∀ o ∈ roundsP names L k, o.tx ∈ names) ∧ (roundsP names L k).length ≤ L.length - k
  | 0 => ⟨h, hn, Nat.le_refl _⟩
  | k + 1 => by
    obtain ⟨h1, h2, h3⟩ := roundsP_ok h hn k
    obtain ⟨g1, g2, g3⟩ := roundP_ok h1 h2
    exact ⟨g1, g2, by show (roundP names (roundsP names L k)).length ≤ _; omega⟩
theorem names_len {names : List Tx} {L : List Ow} (h : Inv L) (hn : ∀ o ∈ L, o.tx ∈ names) : L.length ≤ names.length := by
  have := roundP_ok.nodup_len h.nod (b := names) fun t ht => by
    obtain ⟨o, ho, rfl⟩ := List.mem_map.1 ht
    exact hn o ho
  rwa [List.length_map] at this
theorem moves_law {names : List Tx} {L : List Ow} (h : Inv L) (hn : ∀ o ∈ L, o.tx ∈ names) : roundsP names L (names.length + 1) = [] := by
  have h1 := (roundsP_ok h hn (names.length + 1)).2.2
  have h2 := names_len h hn
  exact List.eq_nil_of_length_eq_zero (by omega)
/-! ### LockFast -/
/-- t is held fast, with these locks -/
def Fst (L : List Ow) (t : Tx) (l : List Wt) : Prop := ∃ o ∈ L, o.tx = t ∧ o.fast = true ∧ o.ws = [] ∧ o.lk = l
theorem Fst.locks {L : List Ow} {t : Tx} {l : List Wt} (h : Inv L) (hf : Fst L t l) : locksP L t = l := by
  obtain ⟨o, ho, rfl, _, _, rfl⟩ := hf
  unfold locksP
  rw [findO_of h.nod ho]
  rfl
theorem Fst.step {L : List Ow} {t : Tx} {l : List Wt} (hf : Fst L t l) {x : OpD} (hx : x.t ≠ t) : Fst (stepL true L x) t l := by
  obtain ⟨o, ho, h1, h2, h3, h4⟩ := hf
  unfold stepL
  split
  · unfold askP
    split
    · refine ⟨o, settled_stay (mem_askL.2 (.inr ⟨ho, ?_, ?_⟩)) h3, h1, h2, h3, h4⟩
      · simp [hurt, h2]
      · rw [whoO_tx, h1]; exact Ne.symm hx
    · exact ⟨o, ho, h1, h2, h3, h4⟩
  · split
    · simp only [if_true]
      unfold holdP
      split
      · refine ⟨fastO x.t o, List.mem_map.2 ⟨o, ho, rfl⟩, (fastO_tx _ _).trans h1, ?_, (fastO_ws _ _).trans h3, (fastO_lk _ _).trans h4⟩
        unfold fastO
        split
        · rfl
        · exact h2
      · exact ⟨o, ho, h1, h2, h3, h4⟩
    · split
      · unfold relP
        split
        · exact ⟨o, settled_stay (mem_dropO.2 ⟨ho, by rw [h1]; exact Ne.symm hx⟩) h3, h1, h2, h3, h4⟩
        · exact ⟨o, ho, h1, h2, h3, h4⟩
      · exact ⟨o, ho, h1, h2, h3, h4⟩
theorem fast_begin {L : List Ow} (h : Inv L) {t : Tx} {age : Int} {ws : List Wt} (hs : stO L t age ws = 0) (he : holdE (askP L t age ws) t = 0) :
    ∃ l, Fst (holdP (askP L t age ws) t) t l ∧ locksP (holdP (askP L t age ws) t) t = l ∧ 0 < l.length := by
  have hi := askP_inv h t age ws
  have hst := stO_ok hs
  obtain ⟨c1, c2, c3, c4⟩ := chkW_ok hst.c
  obtain ⟨o, ho⟩ : ∃ o, findO (askP L t age ws) t = some o := by
    cases hf : findO (askP L t age ws) t with
    | some o => exact ⟨o, rfl⟩
    | none => unfold holdE at he; rw [hf] at he; cases he
  obtain ⟨hom, hot⟩ := findO_mem ho
  have how : o.ws = [] := by
    unfold holdE at he
    rw [ho] at he
    simp only at he
    split at he
    · cases he
    · exact List.eq_nil_of_length_eq_zero (by omega)
  have hlk : 0 < o.lk.length := by
    have hom2 := hom
    unfold askP at hom2
    rw [if_pos hs] at hom2
    obtain ⟨y, hy, hyo⟩ := settled_mem hom2
    have hyt : y.tx = t := by
      rcases hyo with rfl | ⟨rfl, _⟩
      · exact hot
      · exact hot
    rcases mem_askL.1 hy with rfl | ⟨_, _, hne⟩
    · rcases hyo with e | ⟨e, hw⟩
      · rw [e] at how
        simp only at how
        rw [how] at c3
        simp at c3
      · rw [e]
        exact grant_has hw
    · rw [whoO_tx] at hne
      exact absurd hyt hne
  have hF : Fst (holdP (askP L t age ws) t) t o.lk := by
    unfold holdP
    rw [if_pos he]
    refine ⟨fastO t o, List.mem_map.2 ⟨o, hom, rfl⟩, (fastO_tx _ _).trans hot, ?_, (fastO_ws _ _).trans how, fastO_lk _ _⟩
    unfold fastO
    rw [if_pos hot]
  exact ⟨o.lk, hF, hF.locks (holdP_inv hi t), hlk⟩
/-! ### LockOldest -/
structure Yng (L : List Ow) : Prop where
  f : ∀ o ∈ L, o.fast = false ∧ 0 < o.age
theorem settled_yng {L : List Ow} (h : Yng L) : Yng (settled L).1 := ⟨fun o ho => by
  obtain ⟨y, hy, e⟩ := settled_mem ho
  rcases e with rfl | ⟨rfl, _⟩
  · exact h.f _ hy
  · exact h.f y hy⟩
theorem Yng.step {L : List Ow} (h : Yng L) {x : OpD} (hx : 0 < x.age) : Yng (stepL false L x) := by
  unfold stepL
  split
  · unfold askP
    split
    · rename_i hs
      have hst := stO_ok hs
      refine settled_yng ⟨fun o ho => ?_⟩
      rcases mem_askL.1 ho with rfl | ⟨ho, _, _⟩
      · exact ⟨hst.f, by rw [hst.a]; exact hx⟩
      · exact h.f o ho
    · exact h
  · split
    · simp only [Bool.false_eq_true, if_false]
      exact h
    · split
      · unfold relP
        split
        · exact settled_yng ⟨fun o ho => h.f o (mem_dropO.1 ho).1⟩
        · exact h
      · exact h
theorem fold_len (ws : List Wt) : ∀ (l : List Wt), Ris l → (ws.map (·.1)).Nodup → (∀ x ∈ ws, ∀ y ∈ l, y.1 ≠ x.1) → (ws.foldl addW l).length = l.length + ws.length := by
  induction ws with
  | nil => intro l _ _ _; rfl
  | cons w ws ih =>
    intro l hr hn hd
    rw [List.map_cons, List.nodup_cons] at hn
    have h1 := addW_len w l hr
    rw [lkw_none (fun x hx => hd w List.mem_cons_self x hx)] at h1
    rw [List.foldl_cons, ih (addW l w) (addW_ris w l hr) hn.2, h1, List.length_cons]
    · simp; omega
    · intro x hx y hy
      rcases addW_key w l y hy with e | e
      · rw [e]
        exact fun e2 => hn.1 (List.mem_map.2 ⟨x, hx, e2.symm⟩)
      · exact hd x (List.mem_cons_of_mem _ hx) y e
theorem setK_head {M : List Ow} {o : Ow} (hi : M[0]? = some o) (hg : goS M 0 o = true) : ∀ k, 1 ≤ k → (setK M k).1[0]? = some (grant o) ∧ ∃ r, (setK M k).2 = o.tx :: r := by
  have hil := (List.getElem?_eq_some_iff.1 hi).1
  have h1 : setK M 1 = (M.set 0 (grant o), [o.tx]) := by
    show stepS (M, []) 0 = _
    unfold stepS
    simp only [hi, hg, if_true, List.nil_append]
  intro k
  induction k with
  | zero => exact fun h => absurd h (Nat.not_succ_le_zero _)
  | succ k ih =>
    intro hk
    rcases Nat.eq_zero_or_pos k with e | e
    · subst e
      rw [h1]
      exact ⟨by simp [hil], [], rfl⟩
    · obtain ⟨h2, r, h3⟩ := ih e
      show (stepS (setK M k) k).1[0]? = _ ∧ ∃ r, (stepS (setK M k) k).2 = _
      unfold stepS
      split
      · split
        · refine ⟨?_, r ++ [_], by rw [h3]; rfl⟩
          rw [List.getElem?_set_ne (by omega)]
          exact h2
        · exact ⟨h2, r, h3⟩
      · exact ⟨h2, r, h3⟩
theorem oldest_law {L : List Ow} (h : Inv L) (hy : Yng L) {t : Tx} (hn : ∀ o ∈ L, o.tx ≠ t) {ws : List Wt} (hs : stO L t 0 ws = 0) :
    (∃ r, askG L t 0 ws = t :: r) ∧ (locksP (askP L t 0 ws) t).length = ws.length := by
  have hst := stO_ok hs
  obtain ⟨c1, c2, c3, c4⟩ := chkW_ok hst.c
  have hw : whoO L t 0 = emptyO t 0 := by
    unfold whoO
    have : findO L t = none := by
      unfold findO
      rw [List.find?_eq_none]
      intro x hx
      simpa using hn x hx
    rw [this]; rfl
  have hK : ∀ x ∈ (L.filter fun x => !hurt (emptyO t 0) ws x), x ∈ L ∧ x.tx ≠ t ∧ ltO ((0 : Int), t) x.key ∧ clash x.lk ws = false := fun x hx => by
    obtain ⟨hx1, hx2⟩ := List.mem_filter.1 hx
    have h1 := hy.f x hx1
    have hlt : ltO (emptyO t 0).key x.key := .inl h1.2
    exact ⟨hx1, hn x hx1, hlt, not_hurt hx2 (hn x hx1) h1.1 hlt⟩
  have hA : askL L (emptyO t 0) ws = ⟨t, 0, [], ws, false⟩ :: dropO (L.filter fun x => !hurt (emptyO t 0) ws x) t := by
    unfold askL layO
    show insO ⟨t, 0, [], ws, false⟩ (dropO (L.filter fun x => !hurt (emptyO t 0) ws x) t) = _
    cases hd : dropO (L.filter fun x => !hurt (emptyO t 0) ws x) t with
    | nil => rfl
    | cons y K =>
      have hym : y ∈ dropO (L.filter fun x => !hurt (emptyO t 0) ws x) t := by rw [hd]; exact List.mem_cons_self
      have := (hK y (mem_dropO.1 hym).1).2.2.1
      show (if ltO ((0 : Int), t) y.key then _ else _) = _
      rw [if_pos this]
  have hgo : goS (askL L (emptyO t 0) ws) 0 ⟨t, 0, [], ws, false⟩ = true := by
    refine goS_iff.2 ⟨c3, fun x hx hne => ?_, fun x hx => by simp at hx⟩
    rw [hA] at hx
    rcases List.mem_cons.1 hx with rfl | hx
    · exact clash_nil' _
    · exact (hK x (mem_dropO.1 hx).1).2.2.2
  have h0 : (askL L (emptyO t 0) ws)[0]? = some ⟨t, 0, [], ws, false⟩ := by rw [hA]; rfl
  have hlen : 1 ≤ (askL L (emptyO t 0) ws).length := by rw [hA]; simp
  obtain ⟨h1, r, h2⟩ := setK_head h0 hgo _ hlen
  have hi := askP_inv h t 0 ws
  unfold askG
  rw [if_pos hs, hw]
  refine ⟨⟨r, h2⟩, ?_⟩
  have hm : grant ⟨t, 0, [], ws, false⟩ ∈ askP L t 0 ws := by
    unfold askP
    rw [if_pos hs, hw]
    exact List.mem_of_getElem? h1
  have hf := findO_of hi.nod hm
  unfold locksP
  rw [show (grant ⟨t, 0, [], ws, false⟩).tx = t from rfl] at hf
  rw [hf]
  show (ws.foldl addW []).length = ws.length
  rw [fold_len ws [] List.Pairwise.nil c4 (fun _ _ y hy => by cases hy)]
  simp
theorem findO_not {L : List Ow} {t : Tx} (h : ∀ x ∈ L, x.tx ≠ t) : findO L t = none := by
  unfold findO
  rw [List.find?_eq_none]
  intro x hx
  simpa using h x hx
theorem TabX.fresh1 {P : Nat → Prop} {w w' : World} {tb b : Nat} {L : List Ow} (h : TabX P w tb L) (k : Kept (fun _ => False) w w') (hb : w.heap.size ≤ b ∧ b < w'.heap.size) : TabX (fun i => P i ∨ i = b) w' tb L :=
  h.fresh k (fun _ _ h => h.elim) (fun i hi => hi.imp id (fun e => by rw [e]; exact hb))
theorem op_cells {F : Nat → Prop} {w : World} {a : Option Addr} {n c : Nat} {ops : List OpD} (h : ScrAt F w a n c ops) {k : Nat} {x : OpD} (hx : ops[k]? = some x) :
    ∃ b off bo bc, a = some ⟨b, off, none⟩ ∧ w.cell? ⟨b, off + k * 6, none⟩ = some (.int .u8 x.kd) ∧ w.cell? ⟨b, off + k * 6 + 1, none⟩ = some (.int .u8 x.t.1) ∧ w.cell? ⟨b, off + k * 6 + 2, none⟩ = some (.int .u32 x.t.2.1) ∧ w.cell? ⟨b, off + k * 6 + 3, none⟩ = some (.int .u32 x.t.2.2) ∧ w.cell? ⟨b, off + k * 6 + 4, none⟩ = some (.int .u64 x.age) ∧ w.cell? ⟨b, off + k * 6 + 5, none⟩ = some (.slice bo x.ws.length bc) ∧ OpOk F w x bo bc := by
  obtain ⟨_, _, _, h3⟩ := h
  obtain ⟨b, off, bo, bc, e, _, hc, ho⟩ := h3 k x hx
  exact ⟨b, off, bo, bc, e, hc 0 _ rfl, hc 1 _ rfl, hc 2 _ rfl, hc 3 _ rfl, hc 4 _ rfl, hc 5 _ rfl, ho⟩
theorem ScrAt.mono {F G : Nat → Prop} {w : World} {a : Option Addr} {n c : Nat} {ops : List OpD} (h : ScrAt F w a n c ops) (hg : ∀ g, G g → F g) : ScrAt G w a n c ops := by
  obtain ⟨h0, h1, h2, h3⟩ := h
  refine ⟨h0, h1, h2, fun j x hx => ?_⟩
  obtain ⟨b, off, bo, bc, q1, q2, q3, q4⟩ := h3 j x hx
  exact ⟨b, off, bo, bc, q1, fun h => q2 (hg b h), q3, ⟨q4.b.mono (fun g _ h => hg g h), q4.k, q4.a, q4.l, q4.p⟩⟩
theorem cells6 {w : World} {b T : Nat} {x0 x1 x2 x3 x4 x5 : Value} (h : w.heap[b]? = some (.cells #[x0, x1, x2, x3, x4, x5] T (0, 0))) : w.cell? ⟨b, 0, none⟩ = some x0 ∧ w.cell? ⟨b, 1, none⟩ = some x1 ∧ w.cell? ⟨b, 2, none⟩ = some x2 ∧ w.cell? ⟨b, 3, none⟩ = some x3 ∧ w.cell? ⟨b, 4, none⟩ = some x4 ∧ w.cell? ⟨b, 5, none⟩ = some x5 :=
  ⟨by rw [row_cell h]; rfl, by rw [row_cell h]; rfl, by rw [row_cell h]; rfl, by rw [row_cell h]; rfl, by rw [row_cell h]; rfl, by rw [row_cell h]; rfl⟩
/-- an operation's own block -/
abbrev opRow (kd t1 t2 t3 age : Int) (bo : Option Addr) (n bc : Nat) : Obj := .cells #[.int .u8 kd, .int .u8 t1, .int .u32 t2, .int .u32 t3, .int .u64 age, .slice bo n bc] 43 (0, 0)
theorem sop_kept {w w' : World} {ob : Nat} {t1 t2 t3 age : Int} {v : Value} (k : Kept (fun _ => False) w w') (h : w.cell? ⟨ob, 1, none⟩ = some (.int .u8 t1) ∧ w.cell? ⟨ob, 2, none⟩ = some (.int .u32 t2) ∧ w.cell? ⟨ob, 3, none⟩ = some (.int .u32 t3) ∧ w.cell? ⟨ob, 4, none⟩ = some (.int .u64 age) ∧ w.cell? ⟨ob, 5, none⟩ = some v) :
    w'.cell? ⟨ob, 1, none⟩ = some (.int .u8 t1) ∧ w'.cell? ⟨ob, 2, none⟩ = some (.int .u32 t2) ∧ w'.cell? ⟨ob, 3, none⟩ = some (.int .u32 t3) ∧ w'.cell? ⟨ob, 4, none⟩ = some (.int .u64 age) ∧ w'.cell? ⟨ob, 5, none⟩ = some v :=
  ⟨k.cell h.1 id, k.cell h.2.1 id, k.cell h.2.2.1 id, k.cell h.2.2.2.1 id, k.cell h.2.2.2.2 id⟩
theorem tx_eq (a b : Tx) (w : World) : (binOp .eql 32 (txv a) (txv b)).run Try.prog w = .ok (.bool (decide (a = b))) w := by
  have h := tx_same a b w
  obtain ⟨a1, a2, a3⟩ := a
  obtain ⟨b1, b2, b3⟩ := b
  unfold txv at h ⊢
  unfold binOp
  show ((Op.equal 32 (.agg #[.int .u8 a1, .int .u32 a2, .int .u32 a3]) (.agg #[.int .u8 b1, .int .u32 b2, .int .u32 b3])) >>= fun r => pure (Value.bool r)).run Try.prog w = _
  rw [Sem.run_bind, h, Result.andThen_ok]
  rfl
def knK (ops : List OpD) (k : Nat) : List Tx := knP (ops.take (min k 80))
theorem knK_step {ops : List OpD} {k : Nat} {x : OpD} (hx : ops[k]? = some x) : knK ops (k + 1) = if k < 80 then knS (knK ops k) x else knK ops k := by
  unfold knK
  by_cases h : k < 80
  · rw [if_pos h, show min (k + 1) 80 = k + 1 by omega, show min k 80 = k by omega, List.take_add_one, hx]
    exact knP_snoc _ _
  · rw [if_neg h, show min (k + 1) 80 = 80 by omega, show min k 80 = 80 by omega]
theorem knP_len (ops : List OpD) : ∀ l : List Tx, (ops.foldl knS l).length ≤ l.length + ops.length := by
  induction ops with
  | nil => exact fun l => Nat.le_refl _
  | cons x ops ih =>
    intro l
    have h1 := ih (knS l x)
    have h2 : (knS l x).length ≤ l.length + 1 := by
      unfold knS
      split
      · omega
      · simp
    rw [List.foldl_cons, List.length_cons]
    omega
theorem knK_len (ops : List OpD) (k : Nat) : (knK ops k).length ≤ 80 := by
  unfold knK
  have := knP_len (ops.take (min k 80)) []
  have := List.length_take_le (min k 80) ops
  unfold knP
  simp at *
  omega
structure Kn (F : Nat → Prop) (w wr : World) (a : Option Addr) (N c : Nat) (ops : List OpD) (S : List Tx) (la : Option Addr) (lc : Nat) : Prop where
  s : ScrAt F wr a N c ops
  g : Own wr 32 3 (.slice la S.length lc) S.length (S.flatMap encT)
  n : ∀ b, (Value.slice la S.length lc).ownBlock = some b → w.heap.size ≤ b
  k : Kept (fun _ => False) w wr
theorem Kn.same {F : Nat → Prop} {w wr w' : World} {a : Option Addr} {N c : Nat} {ops : List OpD} {S : List Tx} {la : Option Addr} {lc : Nat} (h : Kn F w wr a N c ops S la lc) (k : Kept (fun _ => False) wr w') : Kn F w w' a N c ops S la lc :=
  ⟨h.s.kept k (fun _ _ h => h.elim), h.g.kept k (fun _ _ => id), h.n, h.k.trans k⟩
set_option maxRecDepth 100000 in
set_option maxHeartbeats 4000000 in
theorem known_any {F : Nat → Prop} {w : World} {a : Option Addr} {N c : Nat} {ops : List OpD} (h : ScrAt F w a N c ops) :
    Calls Try.prog 14 #[.slice a N c] w fun e w' => ∃ v, e = .returned v ∧ Txs w w' v (knP (ops.take 80)) ∧ Kept (fun _ => False) w w' := by
  have H0 := hid (show Kn F w w a N c ops (knK ops 0) none 0 from ⟨h, Own.nil _ _ _, fun b h => by simp [Value.ownBlock] at h, Kept.refl _ _⟩)
  have HNO := hid h.1
  have HSC := hid h
  have hNc := h.2.1
  have hcm := h.2.2.1
  unfold maxLen at hcm
  clear h
  go_enter Try.func14, Try.ntmps14
  go_wp2_with fail
  go_loopw [3, 11] (fun l i wr => ∃ (k : Nat) (S : List Tx) (la : Option Addr) (lc : Nat), l = .slice la S.length lc ∧ i = .int .i64 k ∧ k ≤ N ∧ knK ops k = S ∧ Kn F w wr a N c ops S la lc) (fun _ i _ => N - (RowKit.intOf i).toNat)
  case atStart => exact ⟨0, _, none, 0, rfl, rfl, Nat.zero_le _, rfl, H0.out⟩
  case round =>
    rename World => wr
    clear H0
    obtain ⟨k, S, la, lc, rfl, rfl, hk, hs, hkn⟩ := hrel
    have HS := hid hs; have HK := hid hkn
    clear hs hkn
    by_cases hlt : k < N
    · have hltI : (k : Int) < (N : Int) := by omega
      obtain ⟨x, hx⟩ : ∃ x, ops[k]? = some x := ⟨_, List.getElem?_eq_getElem (by rw [HNO.out]; exact hlt)⟩
      have HST := hid (knK_step hx)
      have hS80 := knK_len ops k
      rw [HS.out] at hS80
      obtain ⟨b, off, bo, bc, rfl, c0, c1, c2, c3, c4, c5, hok⟩ := op_cells HK.out.s hx
      obtain ⟨kd, ⟨t1, t2, t3⟩, age, ws⟩ := x
      simp only at c0 c1 c2 c3 c4 c5
      obtain ⟨ob, hob⟩ : ∃ ob, wr.heap.size = ob := ⟨_, rfl⟩
      obtain ⟨w2, hw2⟩ : ∃ w2, wr.alloc (opRow kd t1 t2 t3 age bo ws.length bc) = w2 := ⟨_, rfl⟩
      have k2 : Kept (fun _ => False) wr w2 := by rw [← hw2]; exact (Kept.refl _ _).alloc _
      have OB := hid (show w2.heap[ob]? = some (opRow kd t1 t2 t3 age bo ws.length bc) by rw [← hw2, ← hob]; exact row_new _ _)
      have OK2 := hid (hok.kept k2 (fun _ _ h => h.elim))
      obtain ⟨z0, z1, z2, z3, z4, z5⟩ := cells6 (row_new wr (opRow kd t1 t2 t3 age bo ws.length bc))
      unfold opRow at hw2 z0 z1 z2 z3 z4 z5
      have HW2 := hid hw2; have HOB := hid hob
      clear hw2 hob
      have HK2 := hid (HK.out.same k2)
      obtain ⟨m, hm⟩ : ∃ m, S.length = m := ⟨_, rfl⟩
      have HM := hid hm
      rw [hm] at hS80 ⊢
      clear hx hok k2 hm
      go_wp2_with fail
      try rw [HW2.out]
      try rw [HOB.out]
      clear HW2 HOB c0 c1 c2 c3 c4 c5 z0 z1 z2 z3 z4 z5
      by_cases h80 : k < 80
      · have h80D : decide ((k : Int) < 80) = true := by simp; omega
        have HSK := hid (show knK ops (k + 1) = knS S ⟨kd, (t1, t2, t3), age, ws⟩ by rw [HST.out, if_pos h80, HS.out])
        clear h80
        go_wp2_with fail
        rw [h80D]
        clear h80D
        go_loopw [6, 20] (fun f i wv => ∃ j : Nat, f = .bool (decide ((t1, t2, t3) ∉ S.take j)) ∧ i = .int .i64 j ∧ j ≤ m ∧ Kept (fun _ => False) w2 wv) (fun _ i _ => m - (RowKit.intOf i).toNat)
        case atStart => exact ⟨0, by simp, rfl, Nat.zero_le _, Kept.refl _ _⟩
        case round =>
          rename World => wv
          obtain ⟨j, rfl, rfl, hj, hkv⟩ := hrel
          have KV := hid hkv
          clear hkv
          obtain ⟨fb, hfb⟩ : ∃ fb, decide ((t1, t2, t3) ∉ S.take j) = fb := ⟨_, rfl⟩
          rw [hfb]
          have HFB := hid hfb
          clear hfb
          by_cases hjm : j < m
          · have hjI : (j : Int) < (m : Int) := by omega
            obtain ⟨⟨y1, y2, y3⟩, hy⟩ : ∃ y, S[j]? = some y := ⟨_, List.getElem?_eq_getElem (by rw [HM.out]; exact hjm)⟩
            have hli := (HK2.out.g.lies (encT_one _) (F := fun _ => False) (fun _ _ => id))
            rw [HM.out] at hli
            have hcp := cap_of hli
            unfold maxLen at hcp
            obtain ⟨hcp1, hcp2⟩ := hcp
            obtain ⟨g, o, rfl, q0, q1, q2⟩ := tx_cells hli HM.out KV.out hy
            simp only at q0 q1 q2
            have HTK := hid (show S.take (j + 1) = S.take j ++ [(y1, y2, y3)] by rw [List.take_add_one, hy]; rfl)
            obtain ⟨yb, hyb⟩ : ∃ yb, wv.heap.size = yb := ⟨_, rfl⟩
            obtain ⟨w3, hw3⟩ : ∃ w3, wv.alloc (.cells #[.int .u8 y1, .int .u32 y2, .int .u32 y3] 32) = w3 := ⟨_, rfl⟩
            have k3 : Kept (fun _ => False) wv w3 := by rw [← hw3]; exact (Kept.refl _ _).alloc _
            obtain ⟨e0, e1, e2⟩ := cells3 (show w3.heap[yb]? = some (.cells #[.int .u8 y1, .int .u32 y2, .int .u32 y3] 32 (0, 0)) by rw [← hw3, ← hyb]; exact row_new _ _)
            obtain ⟨_, d1, d2, d3, _, _⟩ := cells6 (((KV.out.trans k3).block ob (row_lt OB.out) id).trans OB.out)
            have hne := fun W => tx_ne (y1, y2, y3) (t1, t2, t3) W
            unfold txv at hne
            have K3 := hid (KV.out.trans k3)
            clear hy hli k3
            cases fb with
            | false =>
              have HFN := hid (show decide ((t1, t2, t3) ∉ S.take (j + 1)) = false by
                have h1 := HFB.out
                rw [decide_eq_false_iff_not, Classical.not_not] at h1
                rw [HTK.out, decide_eq_false_iff_not, Classical.not_not]
                exact List.mem_append_left _ h1)
              go_wp2_with fail
              go_wp2
              go_roundw
              case rel => exact ⟨j + 1, by rw [HFN.out], by go_num, by omega, by first | exact K3.out | (rw [hw3]; exact K3.out)⟩
              case measure => (simp only [RowKit.intOf]; omega)
            | true =>
              by_cases e : ((y1, y2, y3) : Tx) = (t1, t2, t3)
              · have HFN := hid (show decide ((t1, t2, t3) ∉ S.take (j + 1)) = false by
                  rw [HTK.out, decide_eq_false_iff_not, Classical.not_not, e]
                  exact List.mem_append_right _ (List.mem_singleton.2 rfl))
                simp only [e, decide_true, Bool.not_true] at hne
                clear e
                go_wp2
                go_roundw
                case rel => exact ⟨j + 1, by rw [HFN.out], by go_num, by omega, by first | exact K3.out | (rw [hw3]; exact K3.out)⟩
                case measure => (simp only [RowKit.intOf]; omega)
              · have HFN := hid (show decide ((t1, t2, t3) ∉ S.take (j + 1)) = true by
                  have h1 := HFB.out
                  rw [decide_eq_true_eq] at h1 ⊢
                  rw [HTK.out, List.mem_append, List.mem_singleton]
                  exact fun h => h.elim h1 (fun h => e h.symm))
                simp only [e, decide_false, Bool.not_false] at hne
                clear e
                go_wp2
                go_roundw
                case rel => exact ⟨j + 1, by rw [HFN.out], by go_num, by omega, by first | exact K3.out | (rw [hw3]; exact K3.out)⟩
                case measure => (simp only [RowKit.intOf]; omega)
          · obtain rfl : j = m := by omega
            have hta : S.take j = S := by rw [← HM.out]; exact List.take_length
            rw [hta] at HFB
            have HKV := hid (HK2.out.same KV.out)
            clear hta
            cases fb with
            | false =>
              have HSN := hid (show knK ops (k + 1) = S by
                have h1 := HFB.out
                rw [decide_eq_false_iff_not, Classical.not_not] at h1
                rw [HSK.out]
                exact if_pos h1)
              go_wp2
              go_roundw
              case rel => exact ⟨k + 1, S, la, lc, by rw [HM.out], by go_num, by omega, HSN.out, HKV.out⟩
              case measure => (simp only [RowKit.intOf]; omega)
            | true =>
              have HSN := hid (show knK ops (k + 1) = S ++ [(t1, t2, t3)] by
                have h1 := HFB.out
                rw [decide_eq_true_eq] at h1
                rw [HSK.out]
                exact if_neg h1)
              obtain ⟨_, d1, d2, d3, _, _⟩ := cells6 ((KV.out.block ob (row_lt OB.out) id).trans OB.out)
              have hg := HKV.out.g
              rw [HM.out] at hg
              have HG := hid hg
              have HFM := hid (show (S ++ [(t1, t2, t3)]).flatMap encT = S.flatMap encT ++ encT (t1, t2, t3) by simp)
              clear hg
              go_wp2_with (at_builtin; refine wpList_app rfl _ _ 27 rfl 32 (txv (0, 0, 0)) 3 12 Try.underlying27 infoT rfl (by decide) (.slice la j lc) j _ rfl (by exact HG.out.alloc _) _ rfl 1 _ (tx_src _ t1 t2 t3 rfl) (by unfold maxLen; omega) (by omega) ?_; intro la2 lc2 w8 ho3 hk3 hf3 _; have HA8 := hid ho3; have HK8 := hid hk3; have HF8 := hid hf3; clear ho3 hk3 hf3)
              have k8 : Kept (fun i => (Value.slice la j lc).ownBlock = some i) wv w8 := ((Kept.refl _ wv).alloc _).trans HK8.out
              have hgn : ∀ i, (Value.slice la j lc).ownBlock = some i → w.heap.size ≤ i := fun i h => HK.out.n i (by rw [HM.out]; exact h)
              have HX := hid (show Kn F w w8 (some ⟨b, off, none⟩) N c ops (S ++ [(t1, t2, t3)]) la2 lc2 from by
                have hln : (S ++ [(t1, t2, t3)]).length = j + 1 := by rw [List.length_append, HM.out]; rfl
                have kw8 : Kept (fun _ => False) w w8 := HKV.out.k.trans' k8 (fun i h => .inr (hgn i h))
                refine ⟨HSC.out.kept kw8 (fun _ _ h => h.elim), ?_, fun b hb => ?_, kw8⟩
                · rw [hln, HFM.out]
                  exact HA8.out
                · have hb' : (Value.slice la2 (j + 1) lc2).ownBlock = some b := by rwa [hln] at hb
                  rcases HF8.out b hb' with h | h
                  · exact hgn b h
                  · have := HKV.out.k.size
                    simp at h
                    omega)
              clear k8 hgn
              go_roundw
              case rel => exact ⟨k + 1, _, la2, lc2, by rw [List.length_append, HM.out]; rfl, by go_num, by omega, HSN.out, HX.out⟩
              case measure => (simp only [RowKit.intOf]; omega)
      · have h80D : decide ((k : Int) < 80) = false := by simp; omega
        have HSN := hid (show knK ops (k + 1) = S by rw [HST.out, if_neg h80, HS.out])
        clear h80
        go_wp2_with fail
        rw [h80D]
        clear h80D
        go_loopw [6, 20] (fun f i wv => ∃ j : Nat, f = .bool false ∧ i = .int .i64 j ∧ j ≤ m ∧ Kept (fun _ => False) w2 wv) (fun _ i _ => m - (RowKit.intOf i).toNat)
        case atStart => exact ⟨0, rfl, rfl, Nat.zero_le _, Kept.refl _ _⟩
        case round =>
          rename World => wv
          obtain ⟨j, rfl, rfl, hj, hkv⟩ := hrel
          have KV := hid hkv
          clear hkv
          by_cases hjm : j < m
          · have hjI : (j : Int) < (m : Int) := by omega
            obtain ⟨⟨y1, y2, y3⟩, hy⟩ : ∃ y, S[j]? = some y := ⟨_, List.getElem?_eq_getElem (by rw [HM.out]; exact hjm)⟩
            have hli := (HK2.out.g.lies (encT_one _) (F := fun _ => False) (fun _ _ => id))
            rw [HM.out] at hli
            have hcp := cap_of hli
            unfold maxLen at hcp
            obtain ⟨hcp1, hcp2⟩ := hcp
            obtain ⟨g, o, rfl, q0, q1, q2⟩ := tx_cells hli HM.out KV.out hy
            simp only at q0 q1 q2
            have K3 := hid (KV.out.alloc (.cells #[.int .u8 y1, .int .u32 y2, .int .u32 y3] 32))
            clear hy hli
            go_wp2
            go_roundw
            case rel => exact ⟨j + 1, rfl, by go_num, by omega, K3.out⟩
            case measure => (simp only [RowKit.intOf]; omega)
          · obtain rfl : j = m := by omega
            have HKV := hid (HK2.out.same KV.out)
            go_wp2
            go_roundw
            case rel => exact ⟨k + 1, S, la, lc, by rw [HM.out], by go_num, by omega, HSN.out, HKV.out⟩
            case measure => (simp only [RowKit.intOf]; omega)
    · obtain rfl : k = N := by omega
      have hse : knP (ops.take 80) = S := by
        rw [← HS.out]
        unfold knK
        rcases Nat.le_total k 80 with h | h
        · rw [show min k 80 = k by omega, ← HNO.out, List.take_length, List.take_of_length_le (by rw [HNO.out]; exact h)]
        · rw [show min k 80 = 80 by omega]
      have HSE := hid hse
      clear hse
      go_wp2
      go_ret
      rw [HSE.out]
      exact ⟨_, rfl, ⟨la, lc, rfl, HK.out.g, HK.out.n⟩, HK.out.k⟩
end Go.Proofs.Ytpjhdpfaogdboaa
/- The document: Clash (of two that don't), SameWants, Check. -/
namespace Go.Proofs.Ytpjhdpfaogdboaa
set_option linter.unusedSimpArgs false
set_option linter.unusedVariables false
open Go.RowKit
theorem w_cells {F : Nat → Prop} {w w' : World} {a : Option Addr} {N c : Nat} {l : List Wt} (h : Lies F w 2 (.slice a N c) N (wcells l)) (k : Kept (fun _ => False) w w') {j : Nat} {x : Wt} (hx : l[j]? = some x) :
    ∃ g o, a = some ⟨g, o, none⟩ ∧ w'.cell? ⟨g, o + j * 2, none⟩ = some (.int .u32 x.1) ∧ w'.cell? ⟨g, o + j * 2 + 1, none⟩ = some (.int .u8 x.2) := by
  obtain ⟨_, _, _, g, o, e, c0, c1⟩ := lies_w (h.same k) hx
  exact ⟨g, o, e, c0, c1⟩
set_option maxRecDepth 100000 in
set_option maxHeartbeats 2000000 in
theorem clash_no {F G : Nat → Prop} {w : World} {a b : Option Addr} {N M c d : Nat} {A B : List Wt} (ha : Lies F w 2 (.slice a N c) N (wcells A)) (hb : Lies G w 2 (.slice b M d) M (wcells B)) (hN : A.length = N) (hM : B.length = M) (hc : clash A B = false) :
    Calls Try.prog 21 #[.slice a N c, .slice b M d] w fun e w' => e = .returned (.bool false) ∧ Kept (fun _ => False) w w' := by
  obtain ⟨m1, m2⟩ := cap_of ha
  obtain ⟨m3, m4⟩ := cap_of hb
  unfold maxLen at m2 m4
  have HA := hid ha; have HB := hid hb; have HN := hid hN; have HM := hid hM
  have HC := hid (show ∀ x ∈ A, ∀ y ∈ B, ¬ (x.1 = y.1 ∧ (x.2 = 2 ∨ y.2 = 2)) from fun x hx y hy h => by
    rw [clash_iff.2 ⟨x, hx, y, hy, h⟩] at hc; cases hc)
  clear ha hb hN hM hc
  go_enter Try.func21, Try.ntmps21
  go_wp2_with fail
  go_loopw [11] (fun i wr => ∃ k : Nat, k ≤ N ∧ i = .int .i64 k ∧ Kept (fun _ => False) w wr) (fun i _ => N - (RowKit.intOf i).toNat)
  case atStart => exact ⟨0, Nat.zero_le _, rfl, Kept.refl _ _⟩
  case round =>
    rename World => wr
    obtain ⟨k, hk, rfl, hkp⟩ := hrel
    have K := hid hkp
    clear hkp
    by_cases hlt : k < N
    · have hkI : (k : Int) < (N : Int) := by omega
      obtain ⟨⟨x0, x1⟩, hx⟩ : ∃ x, A[k]? = some x := ⟨_, List.getElem?_eq_getElem (by rw [HN.out]; exact hlt)⟩
      obtain ⟨g1, o1, rfl, q0, q1⟩ := w_cells HA.out K.out hx
      simp only at q0 q1
      have HXM := hid (List.mem_of_getElem? hx)
      obtain ⟨xb, hxb⟩ : ∃ xb, wr.heap.size = xb := ⟨_, rfl⟩
      obtain ⟨w2, hw2⟩ : ∃ w2, wr.alloc (.cells #[.int .u32 x0, .int .u8 x1] 36) = w2 := ⟨_, rfl⟩
      have k2 : Kept (fun _ => False) wr w2 := by rw [← hw2]; exact (Kept.refl _ _).alloc _
      obtain ⟨y0, y1⟩ := want_new wr x0 x1
      rw [hw2, hxb] at y0 y1
      have Y0 := hid y0; have Y1 := hid y1
      have K2 := hid (K.out.trans k2)
      clear hx k2 y0 y1
      go_wp2_with fail
      try rw [hw2]
      try rw [hxb]
      clear hw2 hxb q0 q1
      go_loopw [17] (fun i wv => ∃ j : Nat, j ≤ M ∧ i = .int .i64 j ∧ Kept (fun _ => False) w2 wv) (fun i _ => M - (RowKit.intOf i).toNat)
      case atStart => exact ⟨0, Nat.zero_le _, rfl, Kept.refl _ _⟩
      case round =>
        rename World => wv
        obtain ⟨j, hj, rfl, hkv⟩ := hrel
        have KV := hid hkv
        clear hkv
        by_cases hjt : j < M
        · have hjI : (j : Int) < (M : Int) := by omega
          obtain ⟨⟨z0, z1⟩, hz⟩ : ∃ x, B[j]? = some x := ⟨_, List.getElem?_eq_getElem (by rw [HM.out]; exact hjt)⟩
          obtain ⟨g2, o2, rfl, q0, q1⟩ := w_cells HB.out (K2.out.trans KV.out) hz
          simp only at q0 q1
          have hn := HC.out _ HXM.out _ (List.mem_of_getElem? hz)
          simp only at hn
          have k3 : Kept (fun _ => False) wv (wv.alloc (.cells #[.int .u32 z0, .int .u8 z1] 36)) := (Kept.refl _ _).alloc _
          have y0 := k3.cell (KV.out.cell Y0.out id) id
          have y1 := k3.cell (KV.out.cell Y1.out id) id
          obtain ⟨e0, e1⟩ := want_new wv z0 z1
          have K3 := hid (KV.out.trans k3)
          clear hz k3
          by_cases h0 : x0 = z0
          · have h1 : (x1 == 2) = false := by rw [beq_eq_false_iff_ne]; exact fun h => hn ⟨h0, .inl h⟩
            have h2 : (z1 == 2) = false := by rw [beq_eq_false_iff_ne]; exact fun h => hn ⟨h0, .inr h⟩
            have h00 : (x0 == z0) = true := by simp [h0]
            clear hn h0
            go_wp2
            go_roundw
            case rel => exact ⟨j + 1, by omega, by go_num, K3.out⟩
            case measure => (simp only [RowKit.intOf]; omega)
          · have h00 : (x0 == z0) = false := by simpa using h0
            clear hn h0
            go_wp2
            go_roundw
            case rel => exact ⟨j + 1, by omega, by go_num, K3.out⟩
            case measure => (simp only [RowKit.intOf]; omega)
        · obtain rfl : j = M := by omega
          have KN := hid (K2.out.trans KV.out)
          go_wp2
          go_roundw
          case rel => exact ⟨k + 1, by omega, by go_num, KN.out⟩
          case measure => (simp only [RowKit.intOf]; omega)
    · go_wp2
      go_ret
      exact ⟨rfl, K.out⟩
set_option maxRecDepth 100000 in
set_option maxHeartbeats 1000000 in
theorem same_wants {F F' : Nat → Prop} {w : World} {a b : Option Addr} {N c d : Nat} {L : List Wt} (ha : Lies F w 2 (.slice a N c) N (wcells L)) (hb : Lies F' w 2 (.slice b N d) N (wcells L)) (hLN : L.length = N) :
    Calls Try.prog 22 #[.slice a N c, .slice b N d] w fun e w' => e = .returned (.bool true) ∧ Kept (fun _ => False) w w' := by
  obtain ⟨m1, m2⟩ := cap_of ha
  obtain ⟨m3, m4⟩ := cap_of hb
  unfold maxLen at m2 m4
  have HA := hid ha; have HB := hid hb; have HN := hid hLN
  clear ha hb hLN
  go_enter Try.func22, Try.ntmps22
  go_wp2_with fail
  go_loopw [13] (fun i wr => ∃ k : Nat, k ≤ N ∧ i = .int .i64 k ∧ Kept (fun _ => False) w wr) (fun i _ => N - (RowKit.intOf i).toNat)
  case atStart => exact ⟨0, Nat.zero_le _, rfl, Kept.refl _ _⟩
  case round =>
    rename World => wA
    obtain ⟨k, hk, rfl, hkp⟩ := hrel
    have K := hid hkp
    clear hkp
    by_cases hlt : k < N
    · have hkI : (k : Int) < (N : Int) := by omega
      obtain ⟨⟨x0, x1⟩, hx⟩ : ∃ x, L[k]? = some x := ⟨_, List.getElem?_eq_getElem (by rw [HN.out]; exact hlt)⟩
      obtain ⟨g1, o1, rfl, q0, q1⟩ := w_cells HA.out K.out hx
      obtain ⟨g2, o2, rfl, r0, r1⟩ := w_cells HB.out K.out hx
      simp only at q0 q1 r0 r1
      clear hx
      go_wp2_with fail
      go_quiet (fail)
      have K1 := hid (K.out.trans (kept_drewN (F := fun _ => False) wA nq))
      go_wp2
      go_roundw
      case rel => exact ⟨k + 1, by omega, by go_num, K1.out⟩
      case measure => (simp only [RowKit.intOf]; omega)
    · go_wp2
      go_ret
      exact ⟨rfl, K.out⟩
theorem anyb_take {ws : List Wt} {k : Nat} {x : Wt} (hx : ws[k]? = some x) : (ws.take (k + 1)).any badW = ((ws.take k).any badW || badW x) := by
  rw [List.take_add_one, hx, List.any_append]
  simp
theorem chk_one {ws : List Wt} {x : Wt} (hx : x ∈ ws) (hb : badW x = true) : chkW ws = 1 := by
  unfold chkW
  rw [if_pos (List.any_eq_true.2 ⟨x, hx, hb⟩)]
theorem keys_take {ws : List Wt} {k : Nat} {x : Wt} (hx : ws[k]? = some x) : (ws.take (k + 1)).map (·.1) = (ws.take k).map (·.1) ++ [x.1] := by
  rw [List.take_add_one, hx, List.map_append]
  rfl
set_option maxRecDepth 100000 in
set_option maxHeartbeats 4000000 in
theorem chkR_any {F : Nat → Prop} {w : World} {a : Option Addr} {N c : Nat} {ws : List Wt} (hl : Lies F w 2 (.slice a N c) N (wcells ws)) (hN : ws.length = N) :
    Calls Try.prog 19 #[.slice a N c] w fun e w' => e = .returned (.int .i64 (chkW ws)) ∧ Kept (fun _ => False) w w' := by
  obtain ⟨m1, m2⟩ := cap_of hl
  unfold maxLen at m2
  have HL := hid hl; have HN := hid hN
  clear hl hN
  go_enter Try.func19, Try.ntmps19
  go_wp2_with fail
  go_loopw [9] (fun i wr => ∃ k : Nat, k ≤ N ∧ i = .int .i64 k ∧ (ws.take k).any badW = false ∧ Kept (fun _ => False) w wr) (fun i _ => N - (RowKit.intOf i).toNat)
  case atStart => exact ⟨0, Nat.zero_le _, rfl, rfl, Kept.refl _ _⟩
  case round =>
    rename World => wr
    obtain ⟨k, hk, rfl, hb, hkp⟩ := hrel
    have K := hid hkp; have HB := hid hb
    clear hkp hb
    by_cases hlt : k < N
    · have hkI : (k : Int) < (N : Int) := by omega
      obtain ⟨⟨x0, x1⟩, hx⟩ : ∃ x, ws[k]? = some x := ⟨_, List.getElem?_eq_getElem (by rw [HN.out]; exact hlt)⟩
      obtain ⟨g1, o1, rfl, q0, q1⟩ := w_cells HL.out K.out hx
      simp only at q0 q1
      have HX := hid hx
      have K3 := hid (K.out.alloc (.cells #[.int .u32 x0, .int .u8 x1] 36))
      obtain ⟨y0, y1⟩ := want_new wr x0 x1
      clear hx
      have hone : badW (x0, x1) = true → chkW ws = 1 := chk_one (List.mem_of_getElem? HX.out)
      have HONE := hid hone
      clear hone
      by_cases h1 : x0 < 1
      · have HC := hid (HONE.out (by unfold badW; simp [h1]))
        go_wp2
        go_ret
        exact ⟨ret_int HC.out.symm, K3.out⟩
      · by_cases h2 : 40 < x0
        · have HC := hid (HONE.out (by unfold badW; simp [h2]))
          go_wp2
          go_ret
          exact ⟨ret_int HC.out.symm, K3.out⟩
        · by_cases h3 : x1 < 1
          · have HC := hid (HONE.out (by
              have e1 : x1 ≠ 1 := by omega
              have e2 : x1 ≠ 2 := by omega
              unfold badW; simp [e1, e2]))
            go_wp2
            go_ret
            exact ⟨ret_int HC.out.symm, K3.out⟩
          · by_cases h4 : 2 < x1
            · have HC := hid (HONE.out (by
                have e1 : x1 ≠ 1 := by omega
                have e2 : x1 ≠ 2 := by omega
                unfold badW; simp [e1, e2]))
              go_wp2
              go_ret
              exact ⟨ret_int HC.out.symm, K3.out⟩
            · have HBN := hid (show (ws.take (k + 1)).any badW = false by
                rw [anyb_take HX.out, HB.out, Bool.false_or]
                unfold badW
                simp only [Bool.or_eq_false_iff, Bool.and_eq_false_iff, decide_eq_false_iff_not]
                omega)
              go_wp2
              go_roundw
              case rel => exact ⟨k + 1, by omega, by go_num, HBN.out, K3.out⟩
              case measure => (simp only [RowKit.intOf]; omega)
    · obtain rfl : k = N := by omega
      have hb : ws.any badW = false := by
        have := HB.out
        rwa [← HN.out, List.take_length] at this
      have HA := hid hb
      clear hb HB
      by_cases h40 : 40 < k
      · have h40I : (40 : Int) < (k : Int) := by omega
        have HC := hid (show chkW ws = 2 by unfold chkW; rw [if_neg (by rw [HA.out]; decide), if_pos (by rw [HN.out]; exact h40)])
        go_wp2
        go_ret
        exact ⟨ret_int HC.out.symm, K.out⟩
      · have h40I : ¬ (40 : Int) < (k : Int) := by omega
        have HC3 := hid (show (ws.length = 0 ∨ ¬ (ws.map (·.1)).Nodup) → chkW ws = 3 from fun h => by
          unfold chkW
          rw [if_neg (by rw [HA.out]; decide), if_neg (by rw [HN.out]; exact h40), if_pos h])
        have HC0 := hid (show ¬ (ws.length = 0 ∨ ¬ (ws.map (·.1)).Nodup) → chkW ws = 0 from fun h => by
          unfold chkW
          rw [if_neg (by rw [HA.out]; decide), if_neg (by rw [HN.out]; exact h40), if_neg h])
        go_wp2_with fail
        go_loopw [37] (fun i wv => ∃ m : Nat, m ≤ k ∧ i = .int .i64 m ∧ ((ws.take m).map (·.1)).Nodup ∧ Kept (fun _ => False) w wv) (fun i _ => k - (RowKit.intOf i).toNat)
        case atStart => exact ⟨0, Nat.zero_le _, rfl, List.nodup_nil, K.out⟩
        case round =>
          rename World => wv
          obtain ⟨m, hm, rfl, hnd, hkv⟩ := hrel
          have KV := hid hkv; have HND := hid hnd
          clear hkv hnd
          by_cases hmk : m < k
          · have hmI : (m : Int) < (k : Int) := by omega
            obtain ⟨⟨x0, x1⟩, hx⟩ : ∃ x, ws[m]? = some x := ⟨_, List.getElem?_eq_getElem (by rw [HN.out]; exact hmk)⟩
            have HX := hid hx
            clear hx
            go_wp2_with fail
            go_loopw [41] (fun i wx => ∃ j : Nat, j ≤ m ∧ i = .int .i64 j ∧ x0 ∉ (ws.take j).map (·.1) ∧ Kept (fun _ => False) w wx) (fun i _ => m - (RowKit.intOf i).toNat)
            case atStart => exact ⟨0, Nat.zero_le _, rfl, by simp, KV.out⟩
            case round =>
              rename World => wx
              obtain ⟨j, hj, rfl, hni, hkx⟩ := hrel
              have KX := hid hkx; have HNI := hid hni
              clear hkx hni
              by_cases hjm : j < m
              · have hjI : (j : Int) < (m : Int) := by omega
                have hjkI : (j : Int) < (k : Int) := by omega
                obtain ⟨⟨z0, z1⟩, hz⟩ : ∃ x, ws[j]? = some x := ⟨_, List.getElem?_eq_getElem (by rw [HN.out]; omega)⟩
                obtain ⟨g1, o1, rfl, q0, q1⟩ := w_cells HL.out KX.out HX.out
                obtain ⟨g2, o2, e2, p0, p1⟩ := w_cells HL.out KX.out hz
                simp only [Option.some.injEq, Addr.mk.injEq, and_true] at e2
                obtain ⟨rfl, rfl⟩ := e2
                simp only at q0 q1 p0 p1
                have HZ := hid hz
                clear hz
                by_cases he : x0 = z0
                · have heB : (x0 == z0) = true := by simp [he]
                  have HC := hid (HC3.out (.inr (fun hn => by
                    have h1 : (ws.map (·.1))[m]? = some x0 := by rw [List.getElem?_map, HX.out]; rfl
                    have h2 : (ws.map (·.1))[j]? = some x0 := by rw [List.getElem?_map, HZ.out, he]; rfl
                    have := nodup_inj hn h1 h2
                    omega)))
                  clear he
                  go_wp2_with fail
                  go_quiet (fail)
                  have KQ := hid (KX.out.trans (kept_drewN (F := fun _ => False) wx nq))
                  go_wp2
                  go_ret
                  exact ⟨ret_int HC.out.symm, KQ.out⟩
                · have heB : (x0 == z0) = false := by simpa using he
                  have HNN := hid (show x0 ∉ (ws.take (j + 1)).map (·.1) by
                    rw [keys_take HZ.out, List.mem_append, List.mem_singleton]
                    exact fun h => h.elim HNI.out he)
                  clear he
                  go_wp2_with fail
                  go_quiet (fail)
                  have KQ := hid (KX.out.trans (kept_drewN (F := fun _ => False) wx nq))
                  go_wp2
                  go_roundw
                  case rel => exact ⟨j + 1, by omega, by go_num, HNN.out, KQ.out⟩
                  case measure => (simp only [RowKit.intOf]; omega)
              · obtain rfl : j = m := by omega
                have HNN := hid (show ((ws.take (j + 1)).map (·.1)).Nodup by
                  rw [keys_take HX.out, List.nodup_append]
                  exact ⟨HND.out, by simp, fun a ha b hb e => by simp at hb; rw [e, hb] at ha; exact HNI.out ha⟩)
                go_wp2
                go_roundw
                case rel => exact ⟨j + 1, by omega, by go_num, HNN.out, KX.out⟩
                case measure => (simp only [RowKit.intOf]; omega)
          · obtain rfl : m = k := by omega
            have hnd : (ws.map (·.1)).Nodup := by
              have := HND.out
              rwa [← HN.out, List.take_length] at this
            have HNF := hid hnd
            clear hnd
            by_cases h0 : m = 0
            · have HC := hid (HC3.out (.inl (by rw [HN.out]; exact h0)))
              have h0B : ((m : Int) == 0) = true := by simp [h0]
              clear h0
              go_wp2
              go_ret
              exact ⟨ret_int HC.out.symm, KV.out⟩
            · have HC := hid (HC0.out (fun h => h.elim (fun h => h0 (by rw [← HN.out]; exact h)) (fun h => h HNF.out)))
              have h0B : ((m : Int) == 0) = false := by simp; omega
              clear h0
              go_wp2
              go_ret
              exact ⟨ret_int HC.out.symm, KV.out⟩
end Go.Proofs.Ytpjhdpfaogdboaa
/- The document's table in memory; Older, Find, Count. -/
namespace Go.Proofs.Ytpjhdpfaogdboaa
set_option linter.unusedSimpArgs false
set_option linter.unusedVariables false
open Go.RowKit
/-- where an owner's lists lie -/
structure Rw where
  la : Option Addr
  lc : Nat
  wa : Option Addr
  wc : Nat
def dcell (o : Ow) (r : Rw) : List Value := [.int .u8 o.tx.1, .int .u32 o.tx.2.1, .int .u32 o.tx.2.2, .int .u64 o.age, .slice r.la o.lk.length r.lc, .slice r.wa o.ws.length r.wc, .bool o.fast]
def dcells (R : Tx → Rw) (L : List Ow) : List Value := L.flatMap fun o => dcell o (R o.tx)
theorem dcell_one (o : Ow) (r : Rw) : ∀ u ∈ dcell o r, u.oneCell' = true := by
  intro u hu
  simp only [dcell, List.mem_cons, List.not_mem_nil, or_false] at hu
  rcases hu with rfl | rfl | rfl | rfl | rfl | rfl | rfl <;> rfl
theorem dcells_one (R : Tx → Rw) (L : List Ow) : ∀ u ∈ dcells R L, u.oneCell' = true := by
  intro u hu
  obtain ⟨o, _, hu⟩ := List.mem_flatMap.1 hu
  exact dcell_one o _ u hu
/-- an owner's lists, in blocks of D -/
structure OwD (D : Nat → Prop) (w : World) (o : Ow) (r : Rw) : Prop where
  l : Lies (fun i => ¬ D i) w 2 (.slice r.la o.lk.length r.lc) o.lk.length (wcells o.lk)
  w : Lies (fun i => ¬ D i) w 2 (.slice r.wa o.ws.length r.wc) o.ws.length (wcells o.ws)
/-- the document's table; D: the blocks of its lists -/
structure DT (D : Nat → Prop) (w : World) (xb : Nat) (v : Value) (L : List Ow) (R : Tx → Rw) : Prop where
  obj : w.heap[xb]? = some (.cells #[v] 58 (0, 0))
  row : Own w 104 7 v L.length (dcells R L)
  lst : ∀ o ∈ L, OwD D w o (R o.tx)
  nx : ¬ D xb
  ng : ∀ b, v.ownBlock = some b → ¬ D b
  new : ∀ i, D i → i < w.heap.size
section
variable {D : Nat → Prop} {w w' : World} {xb : Nat} {v : Value} {L : List Ow} {R : Tx → Rw}
theorem OwD.kept {F : Nat → Prop} {o : Ow} {r : Rw} (h : OwD D w o r) (k : Kept F w w') (hF : ∀ i, F i → ¬ D i) : OwD D w' o r := ⟨h.l.kept k (fun g _ hf => hF g hf), h.w.kept k (fun g _ hf => hF g hf)⟩
theorem OwD.mono {E : Nat → Prop} {o : Ow} {r : Rw} (h : OwD D w o r) (hE : ∀ i, D i → E i) : OwD E w o r := ⟨h.l.mono (fun g _ hf hd => hf (hE g hd)), h.w.mono (fun g _ hf hd => hf (hE g hd))⟩
theorem DT.kept {F : Nat → Prop} (h : DT D w xb v L R) (k : Kept F w w') (hx : ¬ F xb) (hv : ∀ b, v.ownBlock = some b → ¬ F b) (hF : ∀ i, F i → ¬ D i) : DT D w' xb v L R :=
  ⟨(k.block _ (row_lt h.obj) hx).trans h.obj, h.row.kept k hv, fun o ho => (h.lst o ho).kept k hF, h.nx, h.ng, fun i hi => Nat.lt_of_lt_of_le (h.new i hi) k.size⟩
theorem DT.same (h : DT D w xb v L R) (k : Kept (fun _ => False) w w') : DT D w' xb v L R := h.kept k id (fun _ _ => id) (fun _ h => h.elim)
theorem DT.cell (h : DT D w xb v L R) : w.cell? ⟨xb, 0, none⟩ = some v := by rw [row_cell h.obj]; rfl
theorem DT.slice (h : DT D w xb v L R) : ∃ a c, v = .slice a L.length c ∧ L.length ≤ c ∧ c ≤ maxLen := by
  rcases h.row.shape with ⟨rfl, h0, _⟩ | ⟨g, cap, cur, rfl, h1, h2, h3, h4, h5⟩
  · exact ⟨none, 0, by rw [h0], by omega, by unfold maxLen; omega⟩
  · exact ⟨_, cap, rfl, by omega, by omega⟩
/-- an owner's cells -/
theorem DT.owner (h : DT D w xb v L R) {k : Nat} {o : Ow} (hk : L[k]? = some o) : ∃ g c, v = .slice (some ⟨g, 0, none⟩) L.length c ∧ w.cell? ⟨g, k * 7, none⟩ = some (.int .u8 o.tx.1) ∧ w.cell? ⟨g, k * 7 + 1, none⟩ = some (.int .u32 o.tx.2.1) ∧ w.cell? ⟨g, k * 7 + 2, none⟩ = some (.int .u32 o.tx.2.2) ∧ w.cell? ⟨g, k * 7 + 3, none⟩ = some (.int .u64 o.age)
    ∧ w.cell? ⟨g, k * 7 + 4, none⟩ = some (.slice (R o.tx).la o.lk.length (R o.tx).lc) ∧ w.cell? ⟨g, k * 7 + 5, none⟩ = some (.slice (R o.tx).wa o.ws.length (R o.tx).wc) ∧ w.cell? ⟨g, k * 7 + 6, none⟩ = some (.bool o.fast) := by
  have hkl := (List.getElem?_eq_some_iff.1 hk).1
  obtain ⟨g, c, hv, h1, h2⟩ := h.row.some_of_pos (by omega)
  subst hv
  refine ⟨g, c, rfl, ?_⟩
  have hlen := h.row.len
  have key : ∀ j u, (dcell o (R o.tx))[j]? = some u → j < 7 → w.cell? ⟨g, k * 7 + j, none⟩ = some u := fun j u hu hj => by
    have h1 := flat_at (f := fun o => dcell o (R o.tx)) (m := 7) (fun _ => rfl) L k j o hk hj
    rw [hu] at h1
    obtain ⟨hl, he⟩ := List.getElem?_eq_some_iff.1 h1
    have := h.row.cells (g := g) rfl (k * 7 + j) hl
    rw [this]
    exact congrArg some he
  exact ⟨key 0 _ rfl (by omega), key 1 _ rfl (by omega), key 2 _ rfl (by omega), key 3 _ rfl (by omega), key 4 _ rfl (by omega), key 5 _ rfl (by omega), key 6 _ rfl (by omega)⟩
end
set_option maxRecDepth 100000 in
set_option maxHeartbeats 1000000 in
theorem older_any (w : World) (x y : Ow) (r s : Rw) {b : Bool} (hb : decide (ltO x.key y.key) = b) :
    Calls Try.prog 56 #[.agg (dcell x r).toArray, .agg (dcell y s).toArray] w fun e w' => e = .returned (.bool b) ∧ Kept (fun _ => False) w w' := by
  obtain ⟨⟨x1, x2, x3⟩, xa, xl, xw, xf⟩ := x
  obtain ⟨⟨y1, y2, y3⟩, ya, yl, yw, yf⟩ := y
  obtain ⟨r1, r2, r3, r4⟩ := r
  obtain ⟨s1, s2, s3, s4⟩ := s
  have hlt : ltO (xa, (x1, x2, x3)) (ya, (y1, y2, y3)) ↔ xa < ya ∨ xa = ya ∧ (x1 < y1 ∨ x1 = y1 ∧ (x2 < y2 ∨ x2 = y2 ∧ x3 < y3)) := Iff.rfl
  simp only [Ow.key, hlt] at hb
  clear hlt
  simp only [dcell]
  obtain ⟨n1, hn1⟩ : ∃ n, xl.length = n := ⟨_, rfl⟩
  obtain ⟨n2, hn2⟩ : ∃ n, xw.length = n := ⟨_, rfl⟩
  obtain ⟨n3, hn3⟩ : ∃ n, yl.length = n := ⟨_, rfl⟩
  obtain ⟨n4, hn4⟩ : ∃ n, yw.length = n := ⟨_, rfl⟩
  rw [hn1, hn2, hn3, hn4]
  clear hn1 hn2 hn3 hn4
  have HK := hid ((((Kept.refl (fun _ => False) w).alloc (.cells #[.int .u8 x1, .int .u32 x2, .int .u32 x3, .int .u64 xa, .slice r1 n1 r2, .slice r3 n2 r4, .bool xf] 104)).alloc (.cells #[.int .u8 y1, .int .u32 y2, .int .u32 y3, .int .u64 ya, .slice s1 n3 s2, .slice s3 n4 s4, .bool yf] 104)))
  have HB := hid hb
  clear hb
  by_cases e0 : xa = ya
  · subst e0
    by_cases e1 : x1 = y1
    · subst e1
      by_cases e2 : x2 = y2
      · subst e2
        have hb := HB.out
        go_enter Try.func56, Try.ntmps56
        clear hb
        go_wp2
        go_ret
        exact ⟨ret_bool (by rw [← HB.out, Bool.eq_iff_iff]; simp), HK.out⟩
      · have h2 : (x2 != y2) = true := by simpa using e2
        go_enter Try.func56, Try.ntmps56
        go_wp2
        go_ret
        exact ⟨ret_bool (by rw [← HB.out, Bool.eq_iff_iff]; simp [e2]), HK.out⟩
    · have h1 : (x1 != y1) = true := by simpa using e1
      go_enter Try.func56, Try.ntmps56
      go_wp2
      go_ret
      exact ⟨ret_bool (by rw [← HB.out, Bool.eq_iff_iff]; simp [e1]), HK.out⟩
  · have h0 : (xa != ya) = true := by simpa using e0
    go_enter Try.func56, Try.ntmps56
    go_wp2
    go_ret
    exact ⟨ret_bool (by rw [← HB.out, Bool.eq_iff_iff]; simp [e0]), HK.out⟩
end Go.Proofs.Ytpjhdpfaogdboaa
/- The document: Find, Count, Waiting, Locks. -/
namespace Go.Proofs.Ytpjhdpfaogdboaa
set_option linter.unusedSimpArgs false
set_option linter.unusedVariables false
open Go.RowKit
/-- an owner's place -/
def fixO : List Ow → Tx → Int
  | [], _ => -1
  | o :: L, t => if o.tx = t then 0 else if fixO L t < 0 then -1 else fixO L t + 1
theorem fixO_some : ∀ {L : List Ow} {k : Nat} {o : Ow} {t : Tx}, L[k]? = some o → o.tx = t → (∀ x ∈ L.take k, x.tx ≠ t) → fixO L t = k
  | [], _, _, _, h, _, _ => by simp at h
  | x :: L, 0, o, t, h, e, _ => by simp at h; subst h; unfold fixO; rw [if_pos e]; rfl
  | x :: L, k + 1, o, t, h, e, hn => by
    have ih := fixO_some (L := L) (k := k) (by simpa using h) e (fun y hy => hn y (by rw [List.take_succ_cons]; exact List.mem_cons_of_mem _ hy))
    have hx := hn x (by rw [List.take_succ_cons]; exact List.mem_cons_self)
    unfold fixO
    rw [if_neg hx, ih, if_neg (by omega)]
    omega
theorem fixO_none : ∀ {L : List Ow} {t : Tx}, (∀ x ∈ L, x.tx ≠ t) → fixO L t = -1
  | [], _, _ => rfl
  | x :: L, t, h => by
    unfold fixO
    rw [if_neg (h x List.mem_cons_self), fixO_none (fun y hy => h y (List.mem_cons_of_mem _ hy)), if_pos (by decide)]
/-- its place tells who it is -/
theorem fixO_find {L : List Ow} (hn : (L.map (·.tx)).Nodup) (t : Tx) : (findO L t = none ∧ fixO L t = -1) ∨ ∃ k o, L[k]? = some o ∧ findO L t = some o ∧ o.tx = t ∧ fixO L t = (k : Nat) := by
  cases hf : findO L t with
  | none => exact .inl ⟨rfl, fixO_none (findO_none hf)⟩
  | some o =>
    obtain ⟨hm, ht⟩ := findO_mem hf
    obtain ⟨k, hk⟩ := List.getElem?_of_mem hm
    refine .inr ⟨k, o, hk, rfl, ht, fixO_some hk ht fun x hx e => ?_⟩
    obtain ⟨j, hj⟩ := List.getElem?_of_mem hx
    rw [List.getElem?_take] at hj
    split at hj
    · have := nodup_at hn hj hk (e.trans ht.symm)
      omega
    · cases hj
section
variable {D : Nat → Prop} {w w' : World} {xb : Nat} {v : Value} {L : List Ow} {R : Tx → Rw}
set_option maxRecDepth 100000 in
set_option maxHeartbeats 1000000 in
theorem find_any (h : DT D w xb v L R) (t1 t2 t3 : Int) :
    Calls Try.prog 39 #[.pointer (some ⟨xb, 0, none⟩), .agg #[.int .u8 t1, .int .u32 t2, .int .u32 t3]] w fun e w' => e = .returned (.int .i64 (fixO L (t1, t2, t3))) ∧ Kept (fun _ => False) w w' := by
  obtain ⟨a, c, rfl, hc1, hc2⟩ := h.slice
  unfold maxLen at hc2
  have hk1 := (Kept.refl (fun _ => False) w).alloc (.cells #[.int .u8 t1, .int .u32 t2, .int .u32 t3] 32)
  have hkb := row_new w (.cells #[.int .u8 t1, .int .u32 t2, .int .u32 t3] 32)
  obtain ⟨w1, hw1⟩ : ∃ w1, w.alloc (.cells #[.int .u8 t1, .int .u32 t2, .int .u32 t3] 32) = w1 := ⟨_, rfl⟩
  obtain ⟨kb, hkb'⟩ : ∃ kb, w.heap.size = kb := ⟨_, rfl⟩
  rw [hw1] at hk1 hkb
  rw [hkb'] at hkb
  have H1 := hid (h.same hk1); have KB := hid hkb; have K1 := hid hk1
  have HW1 := hid hw1; have HKB := hid hkb'
  obtain ⟨n, hn⟩ : ∃ n, L.length = n := ⟨_, rfl⟩
  have HN := hid hn
  rw [hn] at hc1
  clear h hk1 hkb hw1 hkb'
  go_enter Try.func39, Try.ntmps39
  go_wp2_with fail
  rw [HW1.out, HKB.out]
  clear HW1 HKB
  go_loopw [5] (fun i wr => ∃ k : Nat, i = .int .i64 k ∧ k ≤ n ∧ (∀ x ∈ L.take k, x.tx ≠ (t1, t2, t3)) ∧ Kept (fun _ => False) w1 wr) (fun i _ => n - (RowKit.intOf i).toNat)
  case atStart => exact ⟨0, rfl, Nat.zero_le _, fun x hx => by simp at hx, Kept.refl _ _⟩
  case round =>
    rename World => wr
    obtain ⟨k, rfl, hk, hno, hkr⟩ := hrel
    have KR := hid hkr; have HNO := hid hno
    have HR := hid (H1.out.same hkr)
    have x0 := HR.out.cell
    rw [HN.out] at x0
    obtain ⟨d0, d1, d2⟩ := cells3 ((hkr.block kb (row_lt KB.out) id).trans KB.out)
    clear hkr hno
    by_cases hlt : k < n
    · have hltI : (k : Int) < (n : Int) := by omega
      obtain ⟨o, ho⟩ : ∃ o, L[k]? = some o := ⟨_, List.getElem?_eq_getElem (by rw [HN.out]; exact hlt)⟩
      obtain ⟨g, c', hv, o0, o1, o2, _⟩ := HR.out.owner ho
      simp only [Value.slice.injEq] at hv
      obtain ⟨rfl, _, rfl⟩ := hv
      have HO := hid ho
      obtain ⟨⟨y1, y2, y3⟩, oa, ol, ow, of⟩ := o
      simp only at o0 o1 o2
      have heq := fun W => tx_eq (y1, y2, y3) (t1, t2, t3) W
      unfold txv at heq
      clear ho
      by_cases e : ((y1, y2, y3) : Tx) = (t1, t2, t3)
      · have HX := hid (show fixO L (t1, t2, t3) = (k : Nat) from fixO_some HO.out e HNO.out)
        simp only [e, decide_true] at heq
        clear e
        go_wp2_with fail
        go_quiet (fail)
        have KQ := hid (K1.out.trans (KR.out.trans (kept_drewN (F := fun _ => False) wr nq)))
        go_wp2
        go_ret
        exact ⟨ret_int HX.out.symm, KQ.out⟩
      · have HX := hid (show ∀ x ∈ L.take (k + 1), x.tx ≠ (t1, t2, t3) from fun x hx => by
          rw [List.take_add_one, HO.out] at hx
          rcases List.mem_append.1 hx with hx | hx
          · exact HNO.out x hx
          · simp at hx; subst hx; exact e)
        simp only [e, decide_false] at heq
        clear e
        go_wp2_with fail
        go_quiet (fail)
        have KQ := hid (KR.out.trans (kept_drewN (F := fun _ => False) wr nq))
        go_wp2
        go_roundw
        case rel => exact ⟨k + 1, by go_num, by omega, HX.out, KQ.out⟩
        case measure => (simp only [RowKit.intOf]; omega)
    · obtain rfl : k = n := by omega
      have HX := hid (show fixO L (t1, t2, t3) = -1 from fixO_none (fun x hx => HNO.out x (by rw [← HN.out, List.take_length]; exact hx)))
      have KQ := hid (K1.out.trans KR.out)
      go_wp2
      go_ret
      exact ⟨ret_int HX.out.symm, KQ.out⟩
set_option maxHeartbeats 1000000 in
theorem find_nil (w : World) (t1 t2 t3 : Int) :
    Calls Try.prog 39 #[.pointer none, .agg #[.int .u8 t1, .int .u32 t2, .int .u32 t3]] w fun e w' => e = .returned (.int .i64 (-1)) ∧ Kept (fun _ => False) w w' := by
  have HK := hid ((Kept.refl (fun _ => False) w).alloc (.cells #[.int .u8 t1, .int .u32 t2, .int .u32 t3] 32))
  obtain ⟨w1, hw1⟩ : ∃ w1, w.alloc (.cells #[.int .u8 t1, .int .u32 t2, .int .u32 t3] 32) = w1 := ⟨_, rfl⟩
  rw [hw1] at HK
  have HW1 := hid hw1
  clear hw1
  go_enter Try.func39, Try.ntmps39
  go_wp2_with fail
  rw [HW1.out]
  go_loopw [5] (fun i wr => i = .int .i64 0 ∧ Kept (fun _ => False) w wr) (fun i _ => 0)
  case atStart => exact ⟨rfl, HK.out⟩
  case round =>
    obtain ⟨rfl, hk⟩ := hrel
    have K := hid hk
    clear hk
    go_wp2
    go_ret
    exact ⟨rfl, K.out⟩
end
end Go.Proofs.Ytpjhdpfaogdboaa
/- The document: Count, Waiting, Locks. -/
namespace Go.Proofs.Ytpjhdpfaogdboaa
set_option linter.unusedSimpArgs false
set_option linter.unusedVariables false
open Go.RowKit
theorem cnt_take {L : List Ow} {k : Nat} {o : Ow} (h : L[k]? = some o) : cnt (L.take (k + 1)) = cnt (L.take k) + o.lk.length := by
  rw [List.take_add_one, h]
  unfold cnt
  rw [List.map_append, List.sum_append]
  simp
theorem cnt_take_le (L : List Ow) (k : Nat) : cnt (L.take k) ≤ cnt L := by
  have h : cnt L = cnt (L.take k) + cnt (L.drop k) := by
    conv => lhs; rw [← List.take_append_drop k L]
    unfold cnt
    rw [List.map_append, List.sum_append]
  omega
section
variable {D : Nat → Prop} {w w' : World} {xb : Nat} {v : Value} {L : List Ow} {R : Tx → Rw}
set_option maxRecDepth 100000 in
set_option maxHeartbeats 1000000 in
theorem dcount_any (h : DT D w xb v L R) (hc : cnt L ≤ 1000000) :
    Calls Try.prog 40 #[.pointer (some ⟨xb, 0, none⟩)] w fun e w' => e = .returned (.int .i64 (cnt L)) ∧ Kept (fun _ => False) w w' := by
  obtain ⟨a, c, rfl, hc1, hc2⟩ := h.slice
  unfold maxLen at hc2
  have H1 := hid h; have HC := hid hc
  obtain ⟨n, hn⟩ : ∃ n, L.length = n := ⟨_, rfl⟩
  have HN := hid hn
  rw [hn] at hc1
  clear h hc
  go_enter Try.func40, Try.ntmps40
  go_wp2_with fail
  go_loopw [3, 4] (fun s i wr => ∃ k m : Nat, s = .int .i64 m ∧ i = .int .i64 k ∧ k ≤ n ∧ cnt (L.take k) = m ∧ Kept (fun _ => False) w wr) (fun _ i _ => n - (RowKit.intOf i).toNat)
  case atStart => exact ⟨0, 0, rfl, rfl, Nat.zero_le _, rfl, Kept.refl _ _⟩
  case round =>
    rename World => wr
    obtain ⟨k, m, rfl, rfl, hk, hm, hkr⟩ := hrel
    have KR := hid hkr; have HM := hid hm
    have HR := hid (H1.out.same hkr)
    have x0 := HR.out.cell
    rw [HN.out] at x0
    clear hkr hm
    by_cases hlt : k < n
    · have hltI : (k : Int) < (n : Int) := by omega
      obtain ⟨o, ho⟩ : ∃ o, L[k]? = some o := ⟨_, List.getElem?_eq_getElem (by rw [HN.out]; exact hlt)⟩
      obtain ⟨g, c', hv, o0, o1, o2, o3, o4, o5, o6⟩ := HR.out.owner ho
      simp only [Value.slice.injEq] at hv
      obtain ⟨rfl, _, rfl⟩ := hv
      have HO := hid ho
      have hct := cnt_take ho
      rw [HM.out] at hct
      have hle := cnt_take_le L (k + 1)
      have hc9 := HC.out
      obtain ⟨q, hq⟩ : ∃ q, o.lk.length = q := ⟨_, rfl⟩
      rw [hq] at hct o4
      have hb : m + q ≤ 1000000 := by omega
      have HCT := hid hct
      clear ho hct hle hc9 hq o0 o1 o2 o3 o5 o6
      go_wp2
      go_roundw
      case rel => exact ⟨k + 1, m + q, by go_num, by go_num, by omega, HCT.out, KR.out⟩
      case measure => (simp only [RowKit.intOf]; omega)
    · obtain rfl : k = n := by omega
      have HX := hid (show cnt L = m by rw [← HM.out, ← HN.out, List.take_length])
      go_wp2
      go_ret
      exact ⟨ret_int (by rw [HX.out]), KR.out⟩
set_option maxHeartbeats 1000000 in
theorem dcount_nil (w : World) : Calls Try.prog 40 #[.pointer none] w fun e w' => e = .returned (.int .i64 0) ∧ Kept (fun _ => False) w w' := by
  go_enter Try.func40, Try.ntmps40
  go_wp2_with fail
  go_loopw [3, 4] (fun s i wr => s = .int .i64 0 ∧ i = .int .i64 0 ∧ Kept (fun _ => False) w wr) (fun _ i _ => 0)
  case atStart => exact ⟨rfl, rfl, Kept.refl _ _⟩
  case round =>
    obtain ⟨rfl, rfl, hk⟩ := hrel
    have K := hid hk
    clear hk
    go_wp2
    go_ret
    exact ⟨rfl, K.out⟩
set_option maxRecDepth 100000 in
set_option maxHeartbeats 2000000 in
theorem dwaiting_any (h : DT D w xb v L R) (hL : L.length ≤ 1000000) :
    Calls Try.prog 38 #[.pointer (some ⟨xb, 0, none⟩)] w fun e w' => ∃ u, e = .returned u ∧ Txs w w' u (waitP L) ∧ Kept (fun _ => False) w w' := by
  obtain ⟨a, c, rfl, hc1, hc2⟩ := h.slice
  unfold maxLen at hc2
  have H1 := hid h
  obtain ⟨n, hn⟩ : ∃ n, L.length = n := ⟨_, rfl⟩
  have HN := hid hn
  rw [hn] at hc1 hL
  clear h
  go_enter Try.func38, Try.ntmps38
  go_wp2_with fail
  go_loopw [3, 4] (fun l i wr => ∃ (k : Nat) (S : List Tx) (ga : Option Addr) (gc : Nat), l = .slice ga S.length gc ∧ i = .int .i64 k ∧ k ≤ n ∧ waitP (L.take k) = S ∧ Own wr 32 3 (.slice ga S.length gc) S.length (S.flatMap encT) ∧ (∀ b, (Value.slice ga S.length gc).ownBlock = some b → w.heap.size ≤ b) ∧ Kept (fun _ => False) w wr) (fun _ i _ => n - (RowKit.intOf i).toNat)
  case atStart => exact ⟨0, [], none, 0, rfl, rfl, Nat.zero_le _, rfl, Own.nil _ _ _, fun b h => by simp [Value.ownBlock] at h, Kept.refl _ _⟩
  case round =>
    rename World => wr
    obtain ⟨k, S, ga, gc, rfl, rfl, hk, hs, ho, hn9, hkr⟩ := hrel
    have KR := hid hkr; have HS := hid hs; have GO := hid ho; have GN := hid hn9
    have HR := hid (H1.out.same hkr)
    have x0 := HR.out.cell
    rw [HN.out] at x0
    have hsl : S.length ≤ n := by
      have h1 := waitP_len (L.take k)
      rw [hs, List.length_take] at h1
      omega
    clear hkr hs ho hn9
    by_cases hlt : k < n
    · have hltI : (k : Int) < (n : Int) := by omega
      obtain ⟨o, ho⟩ : ∃ o, L[k]? = some o := ⟨_, List.getElem?_eq_getElem (by rw [HN.out]; exact hlt)⟩
      obtain ⟨g, c', hv, o0, o1, o2, o3, o4, o5, o6⟩ := HR.out.owner ho
      simp only [Value.slice.injEq] at hv
      obtain ⟨rfl, _, rfl⟩ := hv
      have HO := hid ho
      have HNX := hid (waitP_take ho)
      obtain ⟨q, hq⟩ : ∃ q, o.ws.length = q := ⟨_, rfl⟩
      rw [hq] at o5 HNX
      clear ho hq o3 o4 o6
      by_cases hq0 : 0 < q
      · have hq0I : 0 < (q : Int) := by omega
        have HSN := hid (show waitP (L.take (k + 1)) = S ++ [o.tx] by rw [HNX.out, HS.out, if_pos hq0])
        obtain ⟨m, hm⟩ : ∃ m, S.length = m := ⟨_, rfl⟩
        have HMM := hid hm
        rw [hm] at GO GN hsl ⊢
        have HT := hid (show (S ++ [o.tx]).flatMap encT = S.flatMap encT ++ encT o.tx by simp)
        clear hq0 hm
        go_wp2_with (at_builtin; refine wpList_app rfl _ _ 27 rfl 32 (txv (0, 0, 0)) 3 12 Try.underlying27 infoT rfl (by decide) (.slice ga m gc) m _ rfl (by exact GO.out.alloc _) _ rfl 1 _ (tx_src _ o.tx.1 o.tx.2.1 o.tx.2.2 rfl) (by unfold maxLen; omega) (by omega) ?_; intro ga2 gc2 w8 ho3 hk3 hf3 _; have HA8 := hid ho3; have HK8 := hid hk3; have HF8 := hid hf3; clear ho3 hk3 hf3)
        have k8 := ((Kept.refl (fun i => (Value.slice ga m gc).ownBlock = some i) wr).alloc (.cells #[.int .u8 o.tx.1, .int .u32 o.tx.2.1, .int .u32 o.tx.2.2] 32)).trans HK8.out
        have KN := hid (KR.out.trans' k8 (fun i h => .inr (GN.out i h)))
        clear k8
        go_roundw
        case rel =>
          have hln : (S ++ [o.tx]).length = m + 1 := by rw [List.length_append, HMM.out]; rfl
          refine ⟨k + 1, _, ga2, gc2, by rw [hln], by go_num, by omega, HSN.out, by rw [hln, HT.out]; exact HA8.out, fun b hb => ?_, KN.out⟩
          rw [hln] at hb
          rcases HF8.out b hb with h | h
          · exact GN.out b h
          · have := KR.out.size
            simp at h
            omega
        case measure => (simp only [RowKit.intOf]; omega)
      · have HSN := hid (show waitP (L.take (k + 1)) = S by rw [HNX.out, HS.out, if_neg hq0, List.append_nil])
        have hq0I : ¬ 0 < (q : Int) := by omega
        go_wp2
        go_roundw
        case rel => exact ⟨k + 1, S, ga, gc, rfl, by go_num, by omega, HSN.out, GO.out, GN.out, KR.out⟩
        case measure => (simp only [RowKit.intOf]; omega)
    · obtain rfl : k = n := by omega
      have HX := hid (show waitP L = S by rw [← HS.out, ← HN.out, List.take_length])
      go_wp2
      go_ret
      rw [HX.out]
      exact ⟨_, rfl, ⟨ga, gc, rfl, GO.out, GN.out⟩, KR.out⟩
set_option maxHeartbeats 1000000 in
theorem dwaiting_nil (w : World) : Calls Try.prog 38 #[.pointer none] w fun e w' => e = .returned (.slice none 0 0) ∧ Kept (fun _ => False) w w' := by
  go_enter Try.func38, Try.ntmps38
  go_wp2_with fail
  go_loopw [3, 4] (fun s i wr => s = .slice none 0 0 ∧ i = .int .i64 0 ∧ Kept (fun _ => False) w wr) (fun _ i _ => 0)
  case atStart => exact ⟨rfl, rfl, Kept.refl _ _⟩
  case round =>
    obtain ⟨rfl, rfl, hk⟩ := hrel
    have K := hid hk
    clear hk
    go_wp2
    go_ret
    exact ⟨rfl, K.out⟩
/-- wants that are somebody's -/
def LWts (w : World) (v : Value) (l : List Wt) : Prop := ∃ a c, v = .slice a l.length c ∧ Lies (fun _ => False) w 2 (.slice a l.length c) l.length (wcells l)
set_option maxRecDepth 100000 in
set_option maxHeartbeats 1000000 in
theorem dlocks_any (h : DT D w xb v L R) (hn : (L.map (·.tx)).Nodup) (t1 t2 t3 : Int) :
    Calls Try.prog 37 #[.pointer (some ⟨xb, 0, none⟩), .agg #[.int .u8 t1, .int .u32 t2, .int .u32 t3]] w fun e w' => ∃ u, e = .returned u ∧ LWts w' u (locksP L (t1, t2, t3)) ∧ Kept (fun _ => False) w w' := by
  have HF := hid (fixO_find hn (t1, t2, t3))
  have hk1 := (Kept.refl (fun _ => False) w).alloc (.cells #[.int .u8 t1, .int .u32 t2, .int .u32 t3] 32)
  have hkb := row_new w (.cells #[.int .u8 t1, .int .u32 t2, .int .u32 t3] 32)
  obtain ⟨z0, z1, z2⟩ := cells3 hkb
  obtain ⟨w1, hw1⟩ : ∃ w1, w.alloc (.cells #[.int .u8 t1, .int .u32 t2, .int .u32 t3] 32) = w1 := ⟨_, rfl⟩
  obtain ⟨kb, hkb'⟩ : ∃ kb, w.heap.size = kb := ⟨_, rfl⟩
  rw [hw1] at hk1 hkb
  rw [hkb'] at hkb
  have KB := hid hkb; have K1 := hid hk1
  have HW1 := hid hw1; have HKB := hid hkb'
  clear hk1 hkb hw1 hkb'
  have H1 := hid (h.same K1.out)
  have HFA := hid (find_any H1.out t1 t2 t3)
  obtain ⟨a, c, rfl, hc1, hc2⟩ := h.slice
  unfold maxLen at hc2
  obtain ⟨n, hn⟩ : ∃ n, L.length = n := ⟨_, rfl⟩
  have HN := hid hn
  rw [hn] at hc1
  unfold locksP
  rcases HF.out with ⟨f1, f2⟩ | ⟨k, o, ho, f1, f2, f3⟩
  · rw [f1]
    rw [f2] at HFA
    clear h hn f1 f2
    go_enter Try.func37, Try.ntmps37
    go_wp2_with fail
    try rw [HW1.out]
    clear z0 z1 z2
    refine HFA.out.mono ?_
    rintro e w2 ⟨rfl, hk2⟩
    have K2 := hid (K1.out.trans hk2)
    clear hk2
    go_wp2
    go_ret
    exact ⟨_, rfl, ⟨none, 0, rfl, Lies.nil _ _ _⟩, K2.out⟩
  · rw [f1]
    rw [f3] at HFA
    have hlt : k < n := by rw [← hn]; exact (List.getElem?_eq_some_iff.1 ho).1
    have hltI : (k : Int) < (n : Int) := by omega
    have HO := hid ho
    clear h hn f1 f2 f3 ho
    go_enter Try.func37, Try.ntmps37
    go_wp2_with fail
    try rw [HW1.out]
    clear z0 z1 z2
    refine HFA.out.mono ?_
    rintro e w2 ⟨rfl, hk2⟩
    have K2 := hid (K1.out.trans hk2)
    have HR := hid (H1.out.same hk2)
    have x0 := HR.out.cell
    rw [HN.out] at x0
    obtain ⟨g, c', hv, o0, o1, o2, o3, o4, o5, o6⟩ := HR.out.owner HO.out
    simp only [Value.slice.injEq] at hv
    obtain ⟨rfl, _, rfl⟩ := hv
    have HLI := hid (HR.out.lst o (List.mem_of_getElem? HO.out)).l
    obtain ⟨q, hq⟩ : ∃ q, o.lk.length = q := ⟨_, rfl⟩
    rw [hq] at o4 HLI
    have HQ := hid hq
    clear hk2 o0 o1 o2 o3 o5 o6 hq
    go_wp2
    go_ret
    refine ⟨_, rfl, ⟨(R o.tx).la, (R o.tx).lc, ?_, ?_⟩, K2.out⟩
    · show Value.slice _ q _ = .slice _ o.lk.length _
      rw [HQ.out]
    · show Lies _ _ _ (.slice _ o.lk.length _) o.lk.length _
      rw [HQ.out]
      exact HLI.out.mono (fun _ _ h => h.elim)
set_option maxHeartbeats 1000000 in
theorem dlocks_nil (w : World) (t1 t2 t3 : Int) :
    Calls Try.prog 37 #[.pointer none, .agg #[.int .u8 t1, .int .u32 t2, .int .u32 t3]] w fun e w' => e = .returned (.slice none 0 0) ∧ Kept (fun _ => False) w w' := by
  have hk1 := (Kept.refl (fun _ => False) w).alloc (.cells #[.int .u8 t1, .int .u32 t2, .int .u32 t3] 32)
  have hkb := row_new w (.cells #[.int .u8 t1, .int .u32 t2, .int .u32 t3] 32)
  obtain ⟨z0, z1, z2⟩ := cells3 hkb
  obtain ⟨w1, hw1⟩ : ∃ w1, w.alloc (.cells #[.int .u8 t1, .int .u32 t2, .int .u32 t3] 32) = w1 := ⟨_, rfl⟩
  obtain ⟨kb, hkb'⟩ : ∃ kb, w.heap.size = kb := ⟨_, rfl⟩
  rw [hw1] at hk1 hkb
  rw [hkb'] at hkb
  have KB := hid hkb; have K1 := hid hk1
  have HW1 := hid hw1; have HKB := hid hkb'
  clear hk1 hkb hw1 hkb'
  go_enter Try.func37, Try.ntmps37
  go_wp2_with fail
  try rw [HW1.out]
  clear z0 z1 z2
  refine (find_nil _ t1 t2 t3).mono ?_
  rintro e w2 ⟨rfl, hk2⟩
  have K2 := hid (K1.out.trans hk2)
  clear hk2
  go_wp2
  go_ret
  exact ⟨rfl, K2.out⟩
end
end Go.Proofs.Ytpjhdpfaogdboaa
/- min(a, b) of two ints at an operation. -/
namespace Go.Proofs.Ytpjhdpfaogdboaa
set_option linter.unusedSimpArgs false
set_option linter.unusedVariables false
open Go.RowKit
theorem wpList_min {P : Program} {w : World} {ops : Array Oper} {rest : List Oper} {o : Oper} {a : Act} {Q : Exit → Act → World → Prop} (hgd : o.guard = none) (x y : Operand) (ts : Array TypeId)
    (ho : o.op = .call { callee := .builtin .min, args := #[x, y], argTypes := ts }) (m n r : Int) (hx : a.eval x = .int .i64 m) (hy : a.eval y = .int .i64 n) (hr : (if n < m then n else m) = r)
    (h : wpList P ops Q rest (a.put o.dst (.int .i64 r)) w) : wpList P ops Q (o :: rest) a w := by
  refine wpList_run (v := .int .i64 r) hgd ?_ h
  subst hr
  simp [execOp, ho, resolve, invoke, builtin, hx, hy, Builtin.min_, Builtin.min2, Result.andThen]
end Go.Proofs.Ytpjhdpfaogdboaa
