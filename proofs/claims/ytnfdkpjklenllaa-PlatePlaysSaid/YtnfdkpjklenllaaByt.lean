/- Bytes in memory, and gussetref01's functions at them. -/
import Derived.Test.YtnfdkpjklenllaaOwn
import Derived.StillTailTactics
namespace Go.Proofs.Ytnfdkpjklenllaa
open Go.RowKit

def u8s (l : List Int) : List Value := l.map (Value.int .u8)
theorem u8s_len (l : List Int) : (u8s l).length = l.length := by simp [u8s]
theorem u8s_one (l : List Int) : ∀ u ∈ u8s l, u.oneCell' = true := by
  intro u hu; simp only [u8s, List.mem_map] at hu; obtain ⟨x, _, rfl⟩ := hu; rfl
/-- a slice that reads as these bytes -/
def Bts (w : World) (v : Value) (l : List Int) : Prop := Src w 1 v l.length (u8s l)
theorem Bts.kept {F : Nat → Prop} {w w' : World} {v : Value} {l : List Int} (h : Bts w v l) (k : Kept F w w') (hF : ∀ g, v.ownBlock = some g → ¬ F g) : Bts w' v l := by
  obtain ⟨ao, c, rfl, h1, h2, h3, h4⟩ := h
  refine ⟨ao, c, rfl, h1, h2, fun ad had j u hu => ?_, h4⟩
  subst had
  have e := h3 ad rfl j u hu
  refine k.cell e (hF _ ?_)
  simp only [Value.ownBlock, Option.some.injEq]
  unfold Addr.add
  split <;> rfl
theorem infoU8 : (Try.prog.info? 5).map (fun i => (i.zero, i.size, i.bytes)) = some (some (.int .u8 0), 1, 1) := by kernel_rfl
theorem infoBytes : (Try.prog.info? 23).map (fun i => (i.zero, i.size, i.bytes)) = some (some (.slice none 0 0), 1, 24) := by kernel_rfl

/-- .. with its places -/
def Byt (w : World) (v : Value) (l : List Int) : Prop :=
  ∃ ao c, v = .slice ao l.length c ∧ (l.length ≤ c ∧ c ≤ maxLen) ∧ (ao = none → l.length = 0 ∧ c = 0) ∧ ∀ (j : Nat) (x : Int), l[j]? = some x → ∃ b off, ao = some ⟨b, off, none⟩ ∧ w.cell? ⟨b, off + j, none⟩ = some (.int .u8 x)
theorem Byt.kept {F : Nat → Prop} {w w' : World} {v : Value} {l : List Int} (h : Byt w v l) (k : Kept F w w') (hF : ∀ g, v.ownBlock = some g → ¬ F g) : Byt w' v l := by
  obtain ⟨ao, c, rfl, h1, h2, h3⟩ := h
  refine ⟨ao, c, rfl, h1, h2, fun j x hj => ?_⟩
  obtain ⟨b, off, rfl, e⟩ := h3 j x hj
  exact ⟨b, off, rfl, k.cell e (hF _ rfl)⟩
theorem Byt.bts {w : World} {v : Value} {l : List Int} (h : Byt w v l) : Bts w v l := by
  obtain ⟨ao, c, rfl, h1, h2, h3⟩ := h
  refine ⟨ao, c, rfl, by simp [u8s], h2, fun ad had j u hu => ?_, u8s_one l⟩
  simp only [u8s, List.getElem?_map, Option.map_eq_some_iff] at hu
  obtain ⟨x, hx, rfl⟩ := hu
  obtain ⟨b, off, e, hc⟩ := h3 j x hx
  rw [had] at e
  cases e
  unfold Addr.add
  split
  · rename_i h0; subst h0; simpa using hc
  · exact hc
theorem Own.byt {w : World} {v : Value} {n : Nat} {l : List Int} (h : Own w 5 1 v n (u8s l)) : Byt w v l := by
  have hl : l.length = n := by simpa [u8s] using h.len
  subst hl
  rcases h.shape with ⟨rfl, h0, _⟩ | ⟨g, cap, cur, rfl, hg, hnc, hcm, hcs, htk⟩
  · refine ⟨none, 0, by rw [h0], by simp [h0, maxLen], fun _ => ⟨h0, rfl⟩, fun j x hj => ?_⟩
    have := (List.getElem?_eq_some_iff.1 hj).1
    omega
  · refine ⟨_, _, rfl, ⟨by omega, by omega⟩, (fun h => nomatch h), fun j x hj => ⟨g, 0, rfl, ?_⟩⟩
    obtain ⟨hlt, e⟩ := List.getElem?_eq_some_iff.1 hj
    have := h.cells (g := g) rfl j (by simpa [u8s] using hlt)
    rw [Nat.zero_add, this]
    simp [u8s, e]
theorem Rd.byt {w : World} {a : Option Addr} {len cap : Nat} (h : Rd Try.prog w 23 [.slice a len cap]) : ∃ l : List Int, l.length = len ∧ Byt w (.slice a len cap) l ∧ ∀ x ∈ l, 0 ≤ x ∧ x ≤ 255 := by
  obtain ⟨h1, h2, h3, h4, h5⟩ := h.row1 Try.underlying23 (by kernel_rfl)
  have hx : ∀ i : Fin len, ∃ x : Int, (0 ≤ x ∧ x ≤ 255) ∧ ∃ b off, a = some ⟨b, off, none⟩ ∧ w.cell? ⟨b, off + i, none⟩ = some (.int .u8 x) := fun i => by
    obtain ⟨b, off, v, e, _, hc, hr⟩ := h5 i (by omega)
    obtain ⟨z, hz, hwf⟩ := hr.int Try.underlying5
    simp only [List.cons.injEq, and_true] at hz
    subst hz
    refine ⟨z, ?_, b, off, e, hc⟩
    simp [Lit.wf, IntKind.min, IntKind.max, IntKind.signed, IntKind.bits] at hwf
    omega
  refine ⟨List.ofFn fun i => (hx i).choose, by simp, ⟨a, cap, by simp, ⟨by simp; omega, h2⟩, by simpa using h4, fun j x hj => ?_⟩, fun x hx' => ?_⟩
  · rw [List.getElem?_ofFn] at hj
    split at hj
    · rename_i hjl
      simp only [Option.some.injEq] at hj
      subst hj
      exact (hx ⟨j, hjl⟩).choose_spec.2
    · simp at hj
  · rw [List.mem_ofFn] at hx'
    obtain ⟨i, rfl⟩ := hx'
    exact (hx i).choose_spec.1

set_option maxRecDepth 100000 in
set_option maxHeartbeats 400000 in
theorem same_bytes {w : World} {va vb : Value} {la lb : List Int} (ha : Byt w va la) (hb : Byt w vb lb) :
    Calls Try.prog 17 #[va, vb] w fun e w' => e = .returned (.bool (decide (la = lb))) ∧ Kept (fun _ => False) w w' := by
  obtain ⟨a, ca, rfl, ⟨hac, hacm⟩, _, ha2⟩ := ha
  have ha1 := Nat.le_trans hac hacm; clear hac hacm
  obtain ⟨b, cb, rfl, _, _, hb2⟩ := hb
  have HA := hid ha2
  have HB := hid hb2
  clear ha2 hb2
  unfold maxLen at ha1
  by_cases hn : la.length = lb.length
  · have hn' : ((la.length : Int) != (lb.length : Int)) = false := by simp [hn]
    have HN := hid hn; clear hn
    go_enter Try.func17, Try.ntmps17
    go_wp2_with fail
    go_loopw [13] (fun i wr => ∃ k : Nat, k ≤ la.length ∧ i = .int .i64 k ∧ Kept (fun _ => False) w wr ∧ la.take k = lb.take k)
      (fun i _ => la.length - (intOf i).toNat)
    case atStart => exact ⟨0, Nat.zero_le _, rfl, Kept.refl _ _, by simp⟩
    case round =>
      obtain ⟨k, hk, rfl, hkp, hp⟩ := hrel
      have HP := hid hp; clear hp
      have HK := hid hkp; clear hkp
      by_cases hlt : k < la.length
      · obtain ⟨ba, oa, rfl, c1⟩ := HA.out k la[k] (by simp [hlt])
        obtain ⟨bb, ob, rfl, c2⟩ := HB.out k (lb[k]'(by have := HN.out; omega)) (by simp)
        have c1 := HK.out.cell c1 id
        have c2 := HK.out.cell c2 id
        have hlt' : (k : Int) < (lb.length : Int) := by have := HN.out; omega
        by_cases hx : la[k] = lb[k]'(by have := HN.out; omega)
        · have hx' : (la[k] != lb[k]'(by have := HN.out; omega)) = false := by simp [hx]
          go_wp2_with fail
          refine wp_region_still_lit (by kernel_rfl) (by kernel_rfl) ?_
          simp only [World.drew_eq]
          iterate 9 still_step
          refine wpStill_nil ?_
          go_wp2
          go_roundw
          case rel => exact ⟨k + 1, by omega, by simp, HK.out.drew, by rw [List.take_succ_eq_append_getElem hlt, List.take_succ_eq_append_getElem (by have := HN.out; omega : k < lb.length), HP.out, hx]⟩
          case measure => simp [intOf]; omega
        · have hx' : (la[k] != lb[k]'(by have := HN.out; omega)) = true := by simp [hx]
          have hd : (decide (la = lb)) = false := by simp; rintro rfl; exact hx rfl
          go_wp2_with fail
          refine wp_region_still_lit (by kernel_rfl) (by kernel_rfl) ?_
          simp only [World.drew_eq]
          iterate 9 still_step
          refine wpStill_nil ?_
          go_wp2
          go_ret
          exact ⟨ret_bool hd.symm, HK.out.drew⟩
      · obtain rfl : k = la.length := by omega
        have hd : (decide (la = lb)) = true := by
          have := HP.out
          rw [List.take_length, HN.out, List.take_length] at this
          simpa using this
        go_wp2
        go_ret
        exact ⟨ret_bool hd.symm, HK.out⟩
  · have hn' : ((la.length : Int) != (lb.length : Int)) = true := by simp; omega
    have hd : (decide (la = lb)) = false := by simp; rintro rfl; exact hn rfl
    go_enter Try.func17, Try.ntmps17
    go_wp2
    go_ret
    exact ⟨ret_bool hd.symm, Kept.refl _ _⟩
set_option maxHeartbeats 400000 in
theorem twin_any {w : World} {v : Value} {l : List Int} (h : Bts w v l) (hl : l.length ≤ 140737488351232) :
    Calls Try.prog 11 #[v] w fun e w' => ∃ pa pc, e = .returned (.slice pa l.length pc) ∧ Own w' 5 1 (.slice pa l.length pc) l.length (u8s l) ∧ (∀ g, (Value.slice pa l.length pc).ownBlock = some g → w.heap.size ≤ g) ∧ Kept (fun _ => False) w w' := by
  have H := hid h
  obtain ⟨ao, c, rfl, _⟩ := h
  have hl' := hid hl; clear hl
  go_enter Try.func11, Try.ntmps11
  go_wp2_with (at_builtin; refine wpList_app rfl _ _ 23 rfl 5 (.int .u8 0) 1 1 Try.underlying23 infoU8 rfl (by decide) _ 0 [] rfl (own_empty _ _ _) _ rfl l.length (u8s l) ?c1 ?c2 ?c3 ?_)
  case c1 => exact Bts.kept H.out ((Kept.refl (fun _ => False) _).alloc _) (fun _ _ => id)
  case c2 => have := hl'.out; simp only [maxLen]; omega
  case c3 => have := hl'.out; omega
  · intro a' c' w' hown hk hf _
    have HO := hid hown; clear hown
    have HK := hid hk; clear hk
    have HF := hid hf; clear hf
    go_wp2
    go_ret
    refine ⟨_, _, rfl, by simpa using HO.out, fun g hg => ?_, ?_⟩
    · rcases HF.out g (by simpa using hg) with h | h
      · simp [Value.ownBlock] at h; omega
      · (try simp at h); omega
    · refine ((Kept.refl (fun _ => False) w).alloc _).trans' HK.out (fun i hi => ?_)
      simp [Value.ownBlock] at hi
      right; omega

theorem Byt.head {w : World} {b off n c : Nat} {l m : List Int} (h : Byt w (.slice (some ⟨b, off, none⟩) n c) (l ++ m)) : Byt w (.slice (some ⟨b, off, none⟩) l.length c) l := by
  obtain ⟨ao, c', e, ⟨h1, h2⟩, h3, h4⟩ := h
  simp only [Value.slice.injEq] at e
  obtain ⟨rfl, _, rfl⟩ := e
  refine ⟨_, _, rfl, ⟨by simp at h1; omega, h2⟩, (fun h => nomatch h), fun j x hj => h4 j x ?_⟩
  rw [List.getElem?_append_left (List.getElem?_eq_some_iff.1 hj).1]; exact hj
def mark : List Int := [165, 90, 165]
theorem src_mark (w : World) : Src (w.alloc (.cells #[.int .u8 165, .int .u8 90, .int .u8 165] 5)) 1 (.slice (some ⟨w.heap.size, 0, none⟩) 3 3) 3 (u8s mark) :=
  src_row rfl (fun j u hu => by
    match j, hu with
    | 0, hu => simp [u8s, mark] at hu; subst hu; simp
    | 1, hu => simp [u8s, mark] at hu; subst hu; simp
    | 2, hu => simp [u8s, mark] at hu; subst hu; simp) (u8s_one _)
set_option maxHeartbeats 400000 in
theorem spare_any {w : World} {v : Value} {l : List Int} (h : Bts w v l) (hl : l.length ≤ 140737488351232) :
    Calls Try.prog 29 #[v] w fun e w' => ∃ g pc, e = .returned (.tuple #[.slice (some ⟨g, 0, none⟩) l.length pc, .slice (some ⟨g, 0, none⟩) (l.length + 3) pc]) ∧ Own w' 5 1 (.slice (some ⟨g, 0, none⟩) (l.length + 3) pc) (l.length + 3) (u8s (l ++ mark)) ∧ w.heap.size ≤ g ∧ Kept (fun _ => False) w w' := by
  have H := hid h
  obtain ⟨ao, c, rfl, _⟩ := h
  have hl' := hid hl; clear hl
  go_enter Try.func29, Try.ntmps29
  go_wp2_with (at_builtin; refine wpList_app rfl _ _ 23 rfl 5 (.int .u8 0) 1 1 Try.underlying23 infoU8 rfl (by decide) _ 0 [] rfl (own_empty _ _ _) _ rfl l.length (u8s l) ?c1 ?c2 ?c3 ?_)
  case c1 => exact Bts.kept H.out ((Kept.refl (fun _ => False) _).alloc _) (fun _ _ => id)
  case c2 => have := hl'.out; simp only [maxLen]; omega
  case c3 => have := hl'.out; omega
  · intro a' c' w' hown hk hf _
    have HO := hid hown; clear hown
    have HK := hid hk; clear hk
    have HF := hid hf; clear hf
    go_wp2_with (at_builtin; refine wpList_app rfl _ _ 23 rfl 5 (.int .u8 0) 1 1 Try.underlying23 infoU8 rfl (by decide) (.slice a' l.length c') l.length (u8s l) rfl (by exact HO.out.alloc _) _ rfl 3 (u8s mark) (by exact src_mark _) ?c2 ?c3 ?_)
    case c2 => have := hl'.out; simp only [maxLen]; omega
    case c3 => have := hl'.out; omega
    · intro a3 c3 w3 hown3 hk3 hf3 hn3
      have ha3 : ∃ ad, a3 = some ad := by
        cases a3 with
        | none => simp at hn3
        | some ad => exact ⟨ad, rfl⟩
      obtain ⟨ad, rfl⟩ := ha3
      have hm : Own w3 5 1 (.slice (some ad) (l.length + 3) c3) (l.length + 3) (u8s (l ++ mark)) := by
        have : u8s (l ++ mark) = u8s l ++ u8s mark := by simp [u8s]
        rw [this]; exact hown3
      obtain ⟨g, cap, e1, hn, hc⟩ := hm.some_of_pos (by omega)
      simp only [Value.slice.injEq, Option.some.injEq] at e1
      obtain ⟨rfl, _, rfl⟩ := e1
      unfold maxLen at hc
      have HM := hid hm; clear hm hown3
      have HK3 := hid hk3; clear hk3
      have HF3 := hid hf3; clear hf3 hn3
      go_wp2
      go_returns
      refine ⟨_, _, rfl, HM.out, ?_, ?_⟩
      · rcases HF3.out g rfl with h | h
        · rcases HF.out g (by simpa using h) with h | h
          · simp [Value.ownBlock] at h; omega
          · (try simp at h); omega
        · have := HK.out.size; simp at h this; omega
      · refine (((Kept.refl (fun _ => False) w).alloc _).trans' HK.out (fun i hi => ?_)).alloc _ |>.trans' HK3.out (fun i hi => ?_)
        · simp [Value.ownBlock] at hi
          right; omega
        · rcases HF.out i (by simpa using hi) with h | h
          · simp [Value.ownBlock] at h; right; omega
          · right; (try simp at h); omega

set_option maxHeartbeats 400000 in
theorem kept_yes {w : World} {vf va : Value} {l : List Int} (hf : Byt w vf (l ++ mark)) (ha : Byt w va l) :
    Calls Try.prog 35 #[vf, va] w fun e w' => e = .returned (.bool true) ∧ Kept (fun _ => False) w w' := by
  have HFF := hid hf
  have HAA := hid ha
  obtain ⟨fo, fc, rfl, ⟨hf1, hf3⟩, _, hf2⟩ := hf
  obtain ⟨ao, ac, rfl, _, _, ha2⟩ := ha
  have hm : ∀ j x, mark[j]? = some x → ∃ b off, fo = some ⟨b, off, none⟩ ∧ w.cell? ⟨b, off + (l.length + j), none⟩ = some (.int .u8 x) := fun j x hx => by
    refine hf2 (l.length + j) x ?_
    rw [List.getElem?_append_right (by omega)]
    simpa using hx
  obtain ⟨b, off, rfl, d0⟩ := hm 0 165 rfl
  obtain ⟨b1, off1, e1, d1⟩ := hm 1 90 rfl
  obtain ⟨b2, off2, e2, d2⟩ := hm 2 165 rfl
  cases e1; cases e2
  have hml : (l ++ mark).length = l.length + 3 := by simp [mark]
  rw [hml] at hf1 HFF ⊢
  clear hm hf2 ha2 hml
  unfold maxLen at hf3
  go_enter Try.func35, Try.ntmps35
  go_wp2_with fail
  refine (same_bytes (la := l) (lb := l) (by exact HFF.out.head) (by exact HAA.out)).mono ?_; rintro e w' ⟨rfl, hk⟩
  have d0 := hk.cell d0 id
  have d1 := hk.cell d1 id
  have d2 := hk.cell d2 id
  have HK := hid hk; clear hk
  have hd : decide (l = l) = true := by simp
  have e0 : off + (l.length + 0) = off + l.length := rfl
  rw [e0] at d0
  go_wp2
  go_ret
  exact ⟨rfl, HK.out⟩

end Go.Proofs.Ytnfdkpjklenllaa
