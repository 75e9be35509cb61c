/- maps.Clone, the closure, maps.DeleteFunc. -/
import Derived.Test.YtnfdkpjklenllaaDi
namespace Go.Proofs.Ytnfdkpjklenllaa
open Go.RowKit
set_option maxRecDepth 100000 in
set_option maxHeartbeats 2000000 in
theorem clone_any {w : World} {mb : Nat} {L : List (Int × Value)} (h : MapIs w mb .i64 L) : Calls Try.prog 42 #[.map (some mb)] w fun e w' => e = .returned (.map (some w.heap.size)) ∧ MapIs w' w.heap.size .i64 L ∧ Kept (fun _ => False) w w' := by
  obtain ⟨es, clock, hb, he, hn, hst⟩ := h
  have hfin : MapIs (w.alloc (.map es clock)) w.heap.size .i64 L := ⟨es, clock, (MapKept.heap_alloc w _).1, he, hn, hst⟩
  have HF := hid hfin
  clear hfin he hn hst
  have hq := fun w => run_eql_map_nil_sl (P := Try.prog) w 65 _ _ (some mb) Try.underlying65
  go_enter Try.func42, Try.ntmps42
  go_wp2
  rw [run_callFunc_extern Try.func47 (by kernel_rfl) (by kernel_rfl) (by kernel_rfl) (e := Extern.MapsClone.clone) (by kernel_rfl), run_maps_clone_sl w 65 hb]
  simp only [Result.andThen]
  rw [Oper.upon_value]
  go_wp2
  rw [run_typeAssert_map_sl _ 65 _ _ _ _ Try.underlying65]
  simp only [Result.andThen]
  rw [Oper.upon_value]
  go_wp2
  go_ret
  exact ⟨rfl, HF.out, (Kept.refl _ _).alloc _⟩
theorem u8s_inj {p q : List Int} (h : u8s p = u8s q) : p = q := by
  unfold u8s at h
  exact (List.map_inj_right (fun a b e => by simpa using e)).1 h
def pv (p : List Int) : Value := .agg (u8s p).toArray
theorem pv_inj {p q : List Int} (h : pv p = pv q) : p = q := by
  unfold pv at h
  simp only [Value.agg.injEq] at h
  exact u8s_inj (by simpa using congrArg Array.toList h)
set_option maxRecDepth 100000 in
set_option maxHeartbeats 2000000 in
theorem zero_fn {w : World} (k : Int) {p : List Int} (hp : p.length = 64) : Calls Try.prog 44 #[.int .i64 k, pv p] w fun e w' => e = .returned (.bool (decide (p = zpg))) ∧ Kept (fun _ => False) w w' := by
  unfold pv
  have HP := hid hp; clear hp
  have HN := hid (row_new w (.cells (u8s p).toArray 69))
  have HK := hid ((Kept.refl (fun _ => False) w).alloc (.cells (u8s p).toArray 69))
  go_enter Try.func44, Try.ntmps44
  obtain ⟨zb, hzb⟩ : ∃ zb, decide (p = zpg) = zb := ⟨_, rfl⟩
  have HZ := hid hzb
  rw [hzb]
  clear hzb
  go_wp2_with (first
    | (refine wpList_load_row rfl 69 (.tmp 3) rfl _ rfl HN.out Try.underlying69 rfl (by rw [infoPg]; simp [u8s_len, HP.out]) ?_)
    | (refine wpList_eqpage rfl 69 5 _ 64 (.tmp 5) (.tmp 6) rfl Try.underlying69 (by kernel_rfl) Try.underlying5 (by kernel_rfl) (by kernel_rfl) (by kernel_rfl) p zpg HP.out zpg_len rfl (by rw [← zpg_u8s]; rfl) zb HZ.out ?_))
  go_ret
  exact ⟨rfl, HK.out⟩
theorem MapIs.rng {w : World} {b it : Nat} {q : IntKind} {L : List (Int × Value)} {E R : List (Value × Value)} (h : MapIs w b q L) (hr : RngOf w b it E R) : E = L.map (fun p => (Value.int q p.1, p.2)) ∧ (R.map (·.1)).Nodup := by
  obtain ⟨es, clock, hb, he, hn, hst⟩ := h
  obtain ⟨es2, clock2, since, seen, c0, hb2, hst2, rfl, hit, hborn, hsc, hsk, rfl⟩ := hr
  have ee := hb.symm.trans hb2
  simp only [Option.some.injEq, Obj.map.injEq] at ee
  obtain ⟨rfl, rfl⟩ := ee
  refine ⟨he, ?_⟩
  rw [List.map_map]
  have : ((leftOf es seen).toList.map ((fun x => x.1) ∘ ent2)) = (leftOf es seen).toList.map (·.key) := rfl
  rw [this]
  refine hst.2.2.sublist (List.Sublist.map _ ?_)
  simp only [leftOf, Array.toList_filter]
  exact List.filter_sublist
theorem look_of_mem : ∀ {L : List (Int × Value)} {k : Int} {v : Value}, (L.map (·.1)).Nodup → (k, v) ∈ L → look L k = some v
  | (a, x) :: r, k, v, hn, hm => by
    simp only [List.map_cons, List.nodup_cons] at hn
    unfold look
    rcases List.mem_cons.1 hm with h | h
    · cases h; rw [if_pos rfl]
    · rw [if_neg]
      · exact look_of_mem hn.2 h
      · rintro rfl
        exact hn.1 (List.mem_map.2 ⟨_, h, rfl⟩)
theorem mem_of_look : ∀ {L : List (Int × Value)} {k : Int} {v : Value}, look L k = some v → (k, v) ∈ L
  | (a, x) :: r, k, v, h => by
    unfold look at h
    split at h
    · rename_i e; cases h; subst e; simp
    · exact List.mem_cons_of_mem _ (mem_of_look h)
theorem mem_erase' {α : Type} {l : List α} {i : Nat} {x y : α} (hi : l[i]? = some x) (hy : y ∈ l) : y = x ∨ y ∈ l.eraseIdx i := by
  obtain ⟨j, hj⟩ := List.mem_iff_getElem?.1 hy
  by_cases e : j = i
  · subst e; rw [hi] at hj; cases hj; exact .inl rfl
  · exact .inr (List.mem_eraseIdx_iff_getElem?.2 ⟨j, e, hj⟩)
theorem erase_key {R : List (Value × Value)} {i : Nat} {kv v : Value} (hn : (R.map (·.1)).Nodup) (hi : R[i]? = some (kv, v)) : ∀ p ∈ R.eraseIdx i, p.1 ≠ kv := fun p hp e => by
  obtain ⟨j, hj, hp⟩ := List.mem_eraseIdx_iff_getElem?.1 hp
  have h1 : (R.map (·.1))[i]? = some kv := by simp [hi]
  have h2 : (R.map (·.1))[j]? = some kv := by simp [hp, e]
  obtain ⟨a1, a2⟩ := List.getElem?_eq_some_iff.1 h1
  obtain ⟨b1, b2⟩ := List.getElem?_eq_some_iff.1 h2
  have hpw := List.pairwise_iff_getElem.1 hn
  rcases Nat.lt_or_gt_of_ne hj with h | h
  · exact hpw j i b1 a1 h (b2.trans a2.symm)
  · exact hpw i j a1 b1 h (a2.trans b2.symm)
/-- what is struck so far -/
structure Struck (L Lc : List (Int × Value)) (R : List (Value × Value)) : Prop where
  a : ∀ k v, look Lc k = some v → look L k = some v
  b : ∀ k v, look L k = some v → v ≠ pv zpg → look Lc k = some v
  c : ∀ k, look Lc k = some (pv zpg) → ((Value.int .i64 k, pv zpg) : Value × Value) ∈ R
theorem Struck.keep {L Lc : List (Int × Value)} {R : List (Value × Value)} (h : Struck L Lc R) {i : Nat} {k : Int} {v : Value} (hi : R[i]? = some (.int .i64 k, v)) (hv : v ≠ pv zpg) : Struck L Lc (R.eraseIdx i) :=
  ⟨h.a, h.b, fun k' hk => by
    rcases mem_erase' hi (h.c k' hk) with e | e
    · simp only [Prod.mk.injEq] at e
      exact absurd e.2.symm hv
    · exact e⟩
theorem Struck.strike {L Lc : List (Int × Value)} {R : List (Value × Value)} (h : Struck L Lc R) {i : Nat} {k : Int} (hi : R[i]? = some (.int .i64 k, pv zpg)) (hl : look Lc k = some (pv zpg)) : Struck L (wipe Lc k) (R.eraseIdx i) := by
  refine ⟨fun k' v hk => ?_, fun k' v hk hv => ?_, fun k' hk => ?_⟩
  · rw [look_wipe] at hk
    split at hk
    · cases hk
    · exact h.a k' v hk
  · rw [look_wipe]
    split
    · rename_i e
      subst e
      have := h.b k' v hk hv
      rw [hl] at this
      cases this
      exact absurd rfl hv
    · exact h.b k' v hk hv
  · rw [look_wipe] at hk
    split at hk
    · cases hk
    · rename_i e
      rcases mem_erase' hi (h.c k' hk) with e2 | e2
      · simp only [Prod.mk.injEq, Value.int.injEq, true_and, and_true] at e2
        exact absurd e2 e
      · exact e2
set_option maxRecDepth 100000 in
set_option maxHeartbeats 4000000 in
theorem delete_any {w : World} {b : Nat} {L : List (Int × Value)} (h : MapIs w b .i64 L) (hP : ∀ k v, look L k = some v → ∃ p, p.length = 64 ∧ v = pv p) :
    Calls Try.prog 43 #[.map (some b), .func (.func 44) #[] #[]] w fun e w' => e = .returned (.tuple #[]) ∧ (∃ L', MapIs w' b .i64 L' ∧ ∀ k v, look L' k = some v ↔ look L k = some v ∧ v ≠ pv zpg) ∧ Kept (fun g => g = b) w w' := by
  have HM := hid h; have HPP := hid hP
  clear h hP
  go_enter Try.func43, Try.ntmps43
  go_wp2_with (refine wpList_rng rfl _ 65 rfl 3 69 Try.underlying65 b _ rfl HM.out.mapOf ?_; intro w1 hrg hk1 hz1; have RG := hid hrg; have K1 := hid hk1; clear hrg hk1)
  obtain ⟨it, hit⟩ : ∃ it, w.heap.size = it := ⟨_, rfl⟩
  rw [hit] at RG ⊢
  have HIT := hid (Nat.le_of_eq hit)
  have HNE := hid (show it ≠ b by have := HM.out.lt; omega)
  have M1 := hid (HM.out.of_block (K1.out.block b HM.out.lt (fun h => h)))
  clear hit hz1
  go_frame
  go_loopw [8] (fun _ wr => ∃ Lc E R, MapIs wr b .i64 Lc ∧ RngOf wr b it E R ∧ Struck L Lc R ∧ Kept (fun g => g = b) w wr) (fun _ wr => rngLeft wr b it)
  case atStart => exact ⟨L, _, _, M1.out, RG.out, ⟨fun _ _ h => h, fun _ _ h _ => h, fun k hk => List.mem_map.2 ⟨(k, pv zpg), mem_of_look hk, rfl⟩⟩, K1.out.mono (fun _ _ h => h.elim)⟩
  case round =>
    rename World => wr
    obtain ⟨Lc, E, R, hml, hrg, hst, hkp⟩ := hrel
    have RR := hid hrg; have ML := hid hml; have ST := hid hst; have KR := hid hkp
    have MW := hid hrg.left
    have HRN := hid (hml.rng hrg)
    clear hrg hml hst hkp RG K1 M1
    go_wp2_with (refine wpList_nxt rfl _ rfl b it _ _ rfl RR.out ?_ ?_)
    · intro hR0
      have hfin : ∀ k v, look Lc k = some v ↔ look L k = some v ∧ v ≠ pv zpg := fun k v =>
        ⟨fun h => ⟨ST.out.a k v h, fun e => by subst e; have := ST.out.c k h; rw [hR0] at this; cases this⟩, fun h => ST.out.b k v h.1 h.2⟩
      have HFIN := hid hfin
      clear hfin hR0
      go_wp2
      go_end0
      exact ⟨rfl, ⟨Lc, ML.out, HFIN.out⟩, KR.out⟩
    · intro i kv v w2 hi hrg2 hk2 hz2 hen
      have hmem : ((kv, v) : Value × Value) ∈ Lc.map (fun p => (Value.int .i64 p.1, p.2)) := by rw [← HRN.out.1]; exact RR.out.sub _ (List.mem_of_getElem? hi)
      obtain ⟨⟨k, v2⟩, hkm, hke⟩ := List.mem_map.1 hmem
      simp only [Prod.mk.injEq] at hke
      obtain ⟨rfl, rfl⟩ := hke
      obtain ⟨esx, clx, _, _, hnd, _⟩ := ML.out
      have hlk := look_of_mem hnd hkm
      obtain ⟨p, hp, rfl⟩ := HPP.out k v2 (ST.out.a k v2 hlk)
      have hmz : rngLeft w2 b it < rngLeft wr b it := by
        rw [hrg2.left, MW.out, List.length_eraseIdx]
        have := (List.getElem?_eq_some_iff.1 hi).1
        split <;> omega
      have HMZ := hid hmz
      have K2 := hid (KR.out.trans' hk2 (fun j e => .inr (by have := HIT.out; omega)))
      have M2 := hid (ML.out.of_block (hk2.block b ML.out.lt (fun e => HNE.out e.symm)))
      have HG2 := hid hrg2; have HI := hid hi; have HLK := hid hlk; have HP := hid hp
      have HN := hid (row_new w2 (.cells (u8s zpg).toArray 69))
      clear hmem hkm hnd hlk hmz hrg2 hk2 hz2 hi hp
      go_wp2_with (first
        | (refine wpList_store_row rfl 69 (.tmp 5) (.tmp 12) rfl (u8s p).toArray (u8s zpg).toArray (by rfl) (by rfl) (by exact HN.out) (by simp [u8s_len, zpg_len, HP.out]) (by rw [infoPg]; simp [u8s_len, HP.out]) (all_oneCell_toArray (u8s_one _)) ?_; intro w3 hb3 hk3; have HB3 := hid hb3; have HK3 := hid (((Kept.refl (fun _ => False) w2).alloc (.cells (u8s zpg).toArray 69)).trans' hk3 (fun g hg => .inr (by rw [hg]; exact Nat.le_refl _))); clear hb3 hk3)
        | (refine wpList_load_row rfl 69 (.tmp 5) rfl _ rfl HB3.out Try.underlying69 rfl (by rw [infoPg]; simp [u8s_len, HP.out]) ?_))
      refine (zero_fn k HP.out).mono ?_
      rintro e w4 ⟨rfl, hk4⟩
      have K24 := hid (HK3.out.trans hk4)
      have M4 := hid (M2.out.of_block (K24.out.block b M2.out.lt (fun h => h)))
      have G4 := hid (HG2.out.kept K24.out (fun h => h) (fun h => h))
      have K4 := hid (K2.out.trans (K24.out.mono (fun _ _ h => h.elim)))
      have HMZ4 := hid (show rngLeft w4 b it < rngLeft wr b it by rw [G4.out.left]; have := HMZ.out; rw [HG2.out.left] at this; exact this)
      clear hk4 hen
      by_cases hz : p = zpg
      · have hd : decide (p = zpg) = true := by simp [hz]
        rw [hd]
        have HSTR := hid (ST.out.strike (i := i) (k := k) (by rw [← hz]; exact HI.out) (by rw [← hz]; exact HLK.out))
        have HER := hid (erase_key HRN.out.2 HI.out)
        clear hz hd
        go_wp2_with (refine wpList_wipe_rng rfl 65 3 69 _ (.tmp 17) (.tmp 18) rfl rfl b it .i64 k rfl rfl Try.underlying65 Try.underlying3 Lc M4.out _ _ G4.out HER.out ?_; intro w5 E5 hM5 hG5 hk5; have M5 := hid hM5; have G5 := hid hG5; have K5 := hid (K4.out.trans hk5); clear hM5 hG5 hk5)
        go_roundw
        case rel => exact ⟨_, _, _, _, _, _, _, _, _, _, _, _, _, ⟨_, _, _, M5.out, G5.out, HSTR.out, K5.out⟩, rfl⟩
        case measure => (rw [G5.out.left]; have := HMZ4.out; rw [G4.out.left] at this; exact this)
      · have hd : decide (p = zpg) = false := by simp [hz]
        rw [hd]
        have HKP := hid (ST.out.keep HI.out (fun e => hz (pv_inj e)))
        clear hz hd
        go_wp2
        go_roundw
        case rel => exact ⟨_, _, _, M4.out, G4.out, HKP.out, K4.out⟩
        case measure => exact HMZ4.out
end Go.Proofs.Ytnfdkpjklenllaa
