/- PlaceHome's walk. -/
import Derived.Test.YtekapdankpamiaaC
namespace Go.Proofs.Ytekapdankpamiaa
open Go.RowKit

/-- one vertex has moved -/
def single (v : Int) (p : Int × Int) : Int → Option (Int × Int) := fun x => if x = v then some p else none
theorem single_dom {v : Int} (hv : 1 ≤ v ∧ v ≤ 40) (p : Int × Int) : Dom (single v p) := fun x hx => by
  unfold single at hx
  split at hx
  · rename_i h; rw [h]; exact hv
  · simp at hx
theorem single_len {v : Int} (hv : 1 ≤ v ∧ v ≤ 40) (p : Int × Int) : (doms (single v p)).length = 1 := by
  have hp : (doms (single v p)).Perm [v] := (List.perm_ext_iff_of_nodup ((doms_up _).imp (fun h => by omega)) (by simp)).2 (fun x => by
    rw [mem_doms (single_dom hv p)]
    unfold single
    split
    · rename_i h; simp [h]
    · rename_i h; simp [h])
  simpa using hp.length_eq
theorem none_dom : Dom (fun _ => none) := fun v h => by simp at h
/-- where it has come to: k moves -/
def At (n v : Int) (k : Nat) (g : Int → Option (Int × Int)) : Prop := Dom g ∧ (own n g v).2 = k ∧ ∀ x, x ≠ v → g x = none
theorem At.move {n v tt : Int} {k : Nat} {g : Int → Option (Int × Int)} (h : At n v k g) (hv : num v = true) (ht : 0 ≤ tt ∧ tt < n) : mv n g v tt (k + 1) = (0, single v (tt, k + 1)) := by
  have h0 : thr n v tt = 0 := by unfold thr; rw [if_pos ⟨hv, ht.2⟩]
  unfold mv
  rw [if_neg (by simp [h0]), if_neg (by rw [h.2.1]; omega)]
  simp only [Prod.mk.injEq, true_and]
  funext x
  unfold single
  by_cases hx : x = v
  · simp [hx]
  · simp [hx, h.2.2 x hx]
theorem single_stale {n v tt t2 ep e : Int} (hv : num v = true) (ht : t2 < n) (he : ep ≤ e) : mv n (single v (tt, e)) v t2 ep = (15, single v (tt, e)) := by
  have h0 : thr n v t2 = 0 := by unfold thr; rw [if_pos ⟨hv, ht⟩]
  unfold mv
  rw [if_neg (by simp [h0]), if_pos (by simp [own, single]; exact he)]
theorem single_at {n v tt : Int} {k : Nat} (hv : 1 ≤ v ∧ v ≤ 40) : At n v k (single v (tt, k)) := ⟨single_dom hv _, by simp [own, single], fun x hx => by simp [single, hx]⟩
set_option maxRecDepth 100000 in
set_option maxHeartbeats 2000000 in
theorem home_walk (W : World) (args : Array Value) (h : RdAll Try.prog W Try.f6.params.toList args.toList) :
    Calls Try.prog 6 args W fun e W' => e = .returned (.bool true) ∧ Below W.heap.size W W' := by
  rw [Try.params6] at h
  obtain ⟨v0, v1, v2, rfl⟩ : ∃ v0 v1 v2, args = #[v0, v1, v2] := by
    rcases args with ⟨_ | ⟨v0, _ | ⟨v1, _ | ⟨v2, _ | ⟨v3, l⟩⟩⟩⟩⟩ <;> simp [RdAll] at h
    exact ⟨v0, v1, v2, rfl⟩
  obtain ⟨r0, r1, r2, _⟩ := h
  obtain ⟨nd, rfl, wf0⟩ := r0.int Try.underlying5
  obtain ⟨vv, rfl, wf1⟩ := r1.int Try.underlying23
  obtain ⟨a1, len1, cap1, rfl, h1⟩ := r2.slice Try.underlying48
  obtain ⟨l1, m1, _, _, c1⟩ := h1.row1 Try.underlying48 (by kernel_rfl)
  unfold maxLen at m1
  simp [Lit.wf, IntKind.min, IntKind.max, IntKind.signed, IntKind.bits] at wf0 wf1
  have C1 := hid c1; clear c1 h1 r0 r1 r2
  obtain ⟨n, hn⟩ : ∃ n : Nat, 1 + nd % 4 = (n : Int) := ⟨(1 + nd % 4).toNat, by omega⟩
  have hn1 : 1 ≤ n := by omega
  have hn5 : n ≤ 4 := by omega
  obtain ⟨y, hy⟩ : ∃ y : Int, 1 + vv % 40 = y := ⟨_, rfl⟩
  have hy1 : 1 ≤ y ∧ y ≤ 40 := by omega
  obtain ⟨nd0, nd1⟩ : 0 ≤ nd ∧ nd ≤ 255 := by omega
  obtain ⟨vv0, vv1⟩ : 0 ≤ vv ∧ vv ≤ 4294967295 := by omega
  have hny : num y = true := by simp [num]; omega
  obtain ⟨o, ho⟩ : ∃ o : Int, y % (n : Int) = o := ⟨_, rfl⟩
  have ho0 : 0 ≤ o := by rw [← ho]; exact Int.emod_nonneg _ (by omega)
  have ho1 : o < 4 := by have := Int.emod_lt_of_pos y (show (0 : Int) < n by omega); omega
  have HO := hid (show own n (fun _ => none) y = (o, 0) by simp [own, ho])
  have HNY := hid hny
  clear wf0 wf1 hny
  go_enter Try.func6, Try.ntmps6
  go_wp2_with fail
  refine (awake_any _).mono ?_; rintro e w1 ⟨rfl, hb1⟩
  have HB1 := hid hb1
  go_wp2_with fail
  refine (new_ok n _ (by omega)).mono ?_; rintro e w2 ⟨rfl, hd, hk⟩
  have HD := hid hd
  have K2 := hid ((Kept.of_below hb1 (fun _ => False)).trans hk)
  have hz1 := hb1.size
  obtain ⟨mb, hmb⟩ : ∃ mb, w1.heap.size = mb := ⟨_, rfl⟩
  rw [hmb] at HD hz1 ⊢
  clear hb1 hd hk hmb HB1
  go_wp2_with fail
  refine (owner_yes y _ HD.out (by omega) HNY.out HO.out).mono ?_; rintro e w3 ⟨rfl, hb⟩
  have HD3 := hid (HD.out.kept (F := fun _ => False) (Kept.of_below hb _) id id)
  have K3 := hid (K2.out.trans (Kept.of_below hb _))
  clear hb
  go_wp2_with fail
  have z0 := row_cell (row_new w3 (.cells #[.int .u32 y, .int .u8 o, .int .u32 0] 33)) 0
  have z1 := row_cell (row_new w3 (.cells #[.int .u32 y, .int .u8 o, .int .u32 0] 33)) 1
  have z2 := row_cell (row_new w3 (.cells #[.int .u32 y, .int .u8 o, .int .u32 0] 33)) 2
  simp only [List.getElem?_toArray, List.getElem?_cons_zero, List.getElem?_cons_succ] at z0 z1 z2
  have hk4 := (Kept.refl (fun _ => False) w3).alloc (.cells #[.int .u32 y, .int .u8 o, .int .u32 0] 33)
  have hx4 : ∃ cs, (w3.alloc (.cells #[.int .u32 y, .int .u8 o, .int .u32 0] 33)).heap[w3.heap.size]? = some (.cells cs 33 (0, 0)) ∧ cs.size = 3 := ⟨_, row_new w3 _, rfl⟩
  obtain ⟨xb, hxb⟩ : ∃ xb, w3.heap.size = xb := ⟨_, rfl⟩
  obtain ⟨w4, hw4⟩ : ∃ w4, w3.alloc (.cells #[.int .u32 y, .int .u8 o, .int .u32 0] 33) = w4 := ⟨_, rfl⟩
  rw [hw4] at z0 z1 z2 hk4 hx4 ⊢
  rw [hxb] at z0 z1 z2 hx4 ⊢
  have HD4 := hid (HD3.out.kept hk4 id id)
  have K4 := hid (K3.out.trans hk4)
  have hxz : mb < xb ∧ mb + 1 < xb ∧ W.heap.size ≤ xb := by
    have a := row_lt HD3.out.obj
    have b := K3.out.size
    omega
  have HX := hid hx4
  clear hw4 hxb hk4 hx4
  go_quiet (fail)
  have HD5 := hid (HD4.out.kept (kept_drewN (F := fun _ => False) w4 nq) id id)
  have K5 := hid (K4.out.trans (kept_drewN (F := fun _ => False) w4 nq))
  have HX5 := hid (show ∃ cs, (w4.drewN nq).heap[xb]? = some (.cells cs 33 (0, 0)) ∧ cs.size = 3 from HX.out)
  obtain ⟨w5, hw5⟩ : ∃ w5, w4.drewN nq = w5 := ⟨_, rfl⟩
  rw [hw5] at HD5 K5 HX5 ⊢
  have HA := hid (show At n y 0 (fun _ => none) from ⟨none_dom, by rw [HO.out]; rfl, fun _ _ => rfl⟩)
  obtain ⟨hxz1, hxz2, hxz3⟩ := hxz
  clear hw5 z0 z1 z2 HD HD3 HD4 K2 K3 K4 HX HO
  go_wp2_with fail
  clear ho
  go_loopw [51] (fun i wr => ∃ (k : Nat) (g : Int → Option (Int × Int)), i = .int .i64 k ∧ k ≤ len1 ∧ k ≤ 50 ∧ DirAt wr (mb + 1) mb n g ∧ At n y k g ∧ (∃ cs, wr.heap[xb]? = some (.cells cs 33 (0, 0)) ∧ cs.size = 3) ∧ Kept (fun _ => False) W wr)
    (fun i _ => len1 - (RowKit.intOf i).toNat)
  case atStart => exact ⟨0, fun _ => none, rfl, Nat.zero_le _, Nat.zero_le _, HD5.out, HA.out, HX5.out, K5.out⟩
  case round =>
    rename World => wA
    obtain ⟨k, g, rfl, hk, hk50, hd, hat, ⟨cs, hxb, hcs⟩, hkp⟩ := hrel
    have HD := hid hd; have HAT := hid hat; have HXB := hid hxb; have K := hid hkp
    clear hd hat hxb hkp HD5 HA HX5 K5
    by_cases hlt : k < len1
    · obtain ⟨b, off, v, rfl, hbl, hcv, hr⟩ := C1.out k (by omega)
      obtain ⟨t, hte, hwt⟩ := hr.int Try.underlying5
      simp only [List.cons.injEq, and_true] at hte
      subst hte
      have cc := K.out.cell hcv id
      have ht8 : 0 ≤ t ∧ t ≤ 255 := by
        simp [Lit.wf, IntKind.min, IntKind.max, IntKind.signed, IntKind.bits] at hwt
        omega
      obtain ⟨ht0, ht1⟩ := ht8
      have hkI : (k : Int) < (len1 : Int) := by omega
      clear hcv hr hwt
      by_cases h50 : k < 50
      · have h50I : (k : Int) < 50 := by omega
        obtain ⟨p, hp⟩ : ∃ p : Int, t % (n : Int) = p := ⟨_, rfl⟩
        have hp0 : 0 ≤ p := by rw [← hp]; exact Int.emod_nonneg _ (by omega)
        have hp1 : p < (n : Int) := by rw [← hp]; exact Int.emod_lt_of_pos t (show (0 : Int) < n by omega)
        have hmv := HAT.out.move HNY.out ⟨hp0, hp1⟩
        have M1 := hid hmv
        have M2 := hid (single_stale (tt := p) (e := (k : Int) + 1) (ep := (k : Int) + 1) HNY.out hp1 (Int.le_refl _))
        have M3 := hid (single_stale (tt := p) (e := (k : Int) + 1) (ep := (k : Int)) HNY.out (show (0 : Int) < n by omega) (by omega))
        have hkk : 0 ≤ (k : Int) + 1 ∧ (k : Int) + 1 ≤ 50 := by omega
        clear hmv
        go_wp2_with fail
        refine (move_any y p ((k : Int) + 1) _ HD.out (by omega) (by omega)).mono ?_
        rintro e w6 ⟨rfl, hd, hkp⟩
        rw [M1.out] at hd ⊢
        have HD6 := hid hd; have K6 := hid (K.out.trans' hkp (fun i e => .inr (by omega)))
        have HX6 := hid (show _ from (hkp.block xb (row_lt HXB.out) (by omega)).trans HXB.out)
        clear hd hkp
        go_wp2_with fail
        refine (move_any y p ((k : Int) + 1) _ HD6.out (by omega) (by omega)).mono ?_
        rintro e w7 ⟨rfl, hd, hkp⟩
        rw [M2.out] at hd ⊢
        have HD7 := hid hd; have K7 := hid (K6.out.trans' hkp (fun i e => .inr (by omega)))
        have HX7 := hid (show _ from (hkp.block xb (row_lt HX6.out) (by omega)).trans HX6.out)
        clear hd hkp
        go_wp2_with fail
        refine (move_any y 0 (k : Int) _ HD7.out (by omega) (by omega)).mono ?_
        rintro e w8 ⟨rfl, hd, hkp⟩
        rw [M3.out] at hd ⊢
        have HD8 := hid hd; have K8 := hid (K7.out.trans' hkp (fun i e => .inr (by omega)))
        have HX8 := hid (show _ from (hkp.block xb (row_lt HX7.out) (by omega)).trans HX7.out)
        clear hd hkp
        go_wp2_with fail
        refine (owner_yes (o := p) (ep := (k : Int) + 1) y _ HD8.out (by omega) HNY.out (by simp [own, single])).mono ?_
        rintro e w9 ⟨rfl, hb⟩
        have hk9 := Kept.of_below hb (fun _ => False)
        have HD9 := hid (HD8.out.kept hk9 id id)
        have K9 := hid (K8.out.trans hk9)
        obtain ⟨c0, c1, c2, hce⟩ : ∃ c0 c1 c2, cs = #[c0, c1, c2] := by
          rcases cs with ⟨_ | ⟨c0, _ | ⟨c1, _ | ⟨c2, _ | ⟨c3, l⟩⟩⟩⟩⟩ <;> simp at hcs
          exact ⟨c0, c1, c2, rfl⟩
        have hx9 : w9.heap[xb]? = some (.cells #[c0, c1, c2] 33 (0, 0)) := by rw [← hce]; exact (hk9.block xb (row_lt HX8.out) id).trans HX8.out
        have HX9 := hid hx9
        have q0 := row_cell hx9 0
        have q1 := row_cell hx9 1
        have q2 := row_cell hx9 2
        have f0 := row_free hx9 0
        have f1 := row_free hx9 1
        have f2 := row_free hx9 2
        simp only [List.getElem?_toArray, List.getElem?_cons_zero, List.getElem?_cons_succ] at q0 q1 q2
        clear hb hk9 hx9 hce
        go_wp2_with fail
        have hxn := row_set (row_set (row_set HX9.out 0 (.int .u32 y)) 1 (.int .u8 p)) 2 (.int .u32 ((k : Int) + 1))
        have hkn : Kept (fun i => i = xb) w9 (((w9.setCell ⟨xb, 0, none⟩ (.int .u32 y)).setCell ⟨xb, 1, none⟩ (.int .u8 p)).setCell ⟨xb, 2, none⟩ (.int .u32 ((k : Int) + 1))) :=
          (((Kept.refl (fun i => i = xb) w9).setCell (p := ⟨xb, 0, none⟩) (.inl rfl) _).setCell (p := ⟨xb, 1, none⟩) (.inl rfl) _).setCell (p := ⟨xb, 2, none⟩) (.inl rfl) _
        obtain ⟨w10, hw10⟩ : ∃ x, (((w9.setCell ⟨xb, 0, none⟩ (.int .u32 y)).setCell ⟨xb, 1, none⟩ (.int .u8 p)).setCell ⟨xb, 2, none⟩ (.int .u32 ((k : Int) + 1))) = x := ⟨_, rfl⟩
        rw [hw10] at hxn hkn ⊢
        have HXN := hid hxn
        have HDN := hid (HD9.out.kept hkn (by omega) (by omega))
        have KN := hid (K9.out.trans' hkn (fun i e => .inr (by omega)))
        clear hxn hkn hw10 q0 q1 q2 f0 f1 f2
        refine (list_any HDN.out (single_dom hy1 _)).mono ?_
        rintro e w11 ⟨la, lc, rfl, _, _, hk11⟩
        rw [single_len hy1]
        have HDE := hid (HDN.out.kept hk11 id id)
        have KE := hid (KN.out.trans hk11)
        have HXE := hid ((hk11.block xb (row_lt HXN.out) id).trans HXN.out)
        clear hk11
        go_wp2
        go_roundw
        case rel => exact ⟨k + 1, single y (p, ((k + 1 : Nat) : Int)), by go_num, by omega, by omega, HDE.out, single_at hy1, ⟨_, HXE.out, rfl⟩, KE.out⟩
        case measure => (simp only [RowKit.intOf]; omega)
      · go_wp2
        go_ret
        exact ⟨rfl, K.out.below (Nat.le_refl _) (fun _ h => h.elim)⟩
    · go_wp2
      go_ret
      exact ⟨rfl, K.out.below (Nat.le_refl _) (fun _ h => h.elim)⟩
end Go.Proofs.Ytekapdankpamiaa
