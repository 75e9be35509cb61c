/- Call exactly: free, busy, nil. -/
import Derived.Test.YtnlbdlbinoebgaaYt
namespace Go.Proofs.Ytnlbdlbinoebgaa
open Go.RowKit
/-- Call's error of a client that is there -/
noncomputable def callI (R : Rq) (n : Int) (busy : Bool) : Int := if R.kd = 3 ∧ n ≤ R.t then 1 else if chk R ≠ 0 then chk R else if busy then 9 else 0
noncomputable def callN (R : Rq) : Int := if chk R ≠ 0 then chk R else 6
theorem callI_free {R : Rq} {n er : Int} (h : chk R = er) (hn : ¬ (R.kd = 3 ∧ n ≤ R.t)) : callI R n false = er := by
  unfold callI
  rw [if_neg hn, h]
  by_cases h0 : er = 0
  · rw [if_neg (by simp [h0])]; simp [h0]
  · rw [if_pos h0]
theorem callI_busy {R : Rq} {n er : Int} (h : chk R = er) (hn : ¬ (R.kd = 3 ∧ n ≤ R.t)) : callI R n true = if er = 0 then 9 else er := by
  unfold callI
  rw [if_neg hn, h]
  by_cases h0 : er = 0
  · rw [if_neg (by simp [h0])]; simp [h0]
  · rw [if_pos h0, if_neg h0]
def CallX (w : World) (cb : Nat) (id n seq : Int) (R : Rq) (e : Ending) (w' : World) : Prop :=
  (callI R n false ≠ 0 ∧ e = .returned (.tuple #[.agg msgZero.toArray, .int .i64 (callI R n false)]) ∧ Kept (fun _ => False) w w') ∨
  (callI R n false = 0 ∧ ∃ m rb a c a2 c2, e = .returned (.tuple #[.agg (msgCells id (id % n) (seq + 1) R (.slice a R.ops.length c)).toArray, .int .i64 0]) ∧ ReqIn (fun g => g < m) w' (.slice a R.ops.length c) R ∧
    w'.heap[cb]? = some (cliRow id n (seq + 1) (some ⟨rb, 0, none⟩)) ∧ w'.heap[rb]? = some (reqRow R (.slice a2 R.ops.length c2)) ∧ ReqIn (fun g => g < w.heap.size ∨ m ≤ g) w' (.slice a2 R.ops.length c2) R ∧ w.heap.size ≤ rb ∧ rb < m ∧ w.heap.size ≤ m ∧ Thaw (fun g => g < m) w' a R.ops.length ∧ Kept (fun g => g = cb) w w')
/-- refused with an error, nothing turned -/
def CallE (c : Int) (w : World) (e : Ending) (w' : World) : Prop := e = .returned (.tuple #[.agg msgZero.toArray, .int .i64 c]) ∧ Kept (fun _ => False) w w'


set_option maxRecDepth 100000 in
set_option maxHeartbeats 8000000 in
theorem call_x {w : World} {cb : Nat} {id n seq : Int} {R : Rq} {v : Value} {F : Nat → Prop} (hc : w.heap[cb]? = some (cliRow id n seq none)) (hin : ReqIn F w v R)
    (h0 : 0 ≤ id) (h1 : id ≤ 3) (n1 : 1 ≤ n) (n4 : n ≤ 4) (q0 : 0 ≤ seq) (q1 : seq ≤ 1000) :
    Calls Try.prog 8 #[.pointer (some ⟨cb, 0, none⟩), .agg #[.int .u8 R.kd, v, .int .u32 R.v, .int .i64 R.k, .int .i64 R.t]] w (CallX w cb id n seq R) := by
  have H := hid hin
  obtain ⟨ao, c, rfl, m1, m2, _⟩ := hin.l
  clear hin m1 m2
  obtain ⟨kd, ops, vv, k, t⟩ := R
  have lc := row_lt hc
  have HC := hid hc
  have hn2 := two_new w (.cells #[.int .u8 kd, .slice ao ops.length c, .int .u32 vv, .int .i64 k, .int .i64 t] 31) (.cells msgZero.toArray 44)
  have N2 := hid hn2
  clear hc hn2
  go_enter Try.func8, Try.ntmps8
  go_wp2_with fail
  refine (check_is (R := ⟨kd, ops, vv, k, t⟩) (H.out.same (((Kept.refl _ _).alloc _).alloc _))).mono ?_
  rintro e w2 ⟨rfl, hk2⟩
  obtain ⟨er, hpe⟩ : ∃ er, chk ⟨kd, ops, vv, k, t⟩ = er := ⟨_, rfl⟩
  rw [hpe]
  have HPE := hid hpe; clear hpe
  have HK2 := hid (show Kept (fun _ => False) w w2 from (((Kept.refl _ _).alloc _).alloc _).trans hk2)
  have hB := (hk2.block _ (row_lt N2.out.1) (fun h => h)).trans N2.out.1
  have hZ := (hk2.block _ (row_lt N2.out.2) (fun h => h)).trans N2.out.2
  have hC := (HK2.out.block _ lc (fun h => h)).trans HC.out
  have HBx := hid hB; have HZ := hid hZ; have HCl := hid hC
  have HIN := hid ((H.out.same (((Kept.refl _ _).alloc (.cells #[.int .u8 kd, .slice ao ops.length c, .int .u32 vv, .int .i64 k, .int .i64 t] 31)).alloc (.cells msgZero.toArray 44))).same hk2)
  obtain ⟨b0, b1, b2, b3, b4, b5⟩ := cells5 hB
  obtain ⟨e0, e1, e2, e3, e4⟩ := cells4 hC
  clear hk2 hB hZ hC
  go_wp2_with fail
  have hS : w2.drew.cell? ⟨w.heap.size, 0, none⟩ = some (.int .u8 kd) ∧ w2.drew.cell? ⟨w.heap.size, 4, none⟩ = some (.int .i64 t) ∧ w2.drew.cell? ⟨cb, 1, none⟩ = some (.int .i64 n) := ⟨b0, b4, e1⟩
  have HS := hid hS; clear hS
  by_cases k3 : kd = 3
  · have k3' : (kd == 3) = true := by simp [k3]
    have K3 := hid k3
    clear k3
    by_cases hge : n ≤ t
    · have HCI := hid (show callI ⟨kd, ops, vv, k, t⟩ n false = 1 by unfold callI; rw [if_pos ⟨K3.out, hge⟩])
      refine wp_region_held_drew (S := fun w' => w'.cell? ⟨w.heap.size, 0, none⟩ = some (.int .u8 kd) ∧ w'.cell? ⟨w.heap.size, 4, none⟩ = some (.int .i64 t) ∧ w'.cell? ⟨cb, 1, none⟩ = some (.int .i64 n)) (by kernel_rfl) (by exact HS.out) (fun hHeld => ?_)
      refine wpAnyH_at 0 (some 10) (v := ?v100) (by decide) rfl (by kernel_rfl) (by kernel_rfl) (by kernel_rfl) (fun _ _ _ h => h) (Or.inl ⟨by rfl, ?y100⟩) (by assumption) ?r100
      case y100 => (intro w hSw; (try dsimp only at hSw); go_simp; (try with_reducible rfl))
      simp only [Act.put, List.setIfInBounds_toArray, List.set_cons_zero, List.set_cons_succ]
      refine wpAnyH_at 1 (some 11) (v := ?v101) (by decide) rfl (by kernel_rfl) (by kernel_rfl) (by kernel_rfl) (fun _ _ _ h => h) (Or.inl ⟨by rfl, ?y101⟩) (by assumption) ?r101
      case y101 => (intro w hSw; (try dsimp only at hSw); go_simp; (try with_reducible rfl))
      simp only [Act.put, List.setIfInBounds_toArray, List.set_cons_zero, List.set_cons_succ]
      refine wpAnyH_at 2 (some 12) (v := ?v102) (by decide) rfl (by kernel_rfl) (by kernel_rfl) (by kernel_rfl) (fun _ _ _ h => h) (Or.inl ⟨by rfl, ?y102⟩) (by assumption) ?r102
      case y102 => (intro w hSw; (try dsimp only at hSw); go_simp; (try with_reducible rfl))
      simp only [Act.put, List.setIfInBounds_toArray, List.set_cons_zero, List.set_cons_succ]
      refine wpAnyH_at 3 (some 13) (v := ?v103) (by decide) rfl (by kernel_rfl) (by kernel_rfl) (by kernel_rfl) (fun _ _ _ h => h) (Or.inl ⟨by rfl, ?y103⟩) (by assumption) ?r103
      case y103 => (intro w hSw; (try dsimp only at hSw); go_simp; (try with_reducible rfl))
      simp only [Act.put, List.setIfInBounds_toArray, List.set_cons_zero, List.set_cons_succ]
      refine wpAnyH_at 4 (some 14) (v := ?v104) (by decide) rfl (by kernel_rfl) (by kernel_rfl) (by kernel_rfl) (fun _ _ _ h => h) (Or.inl ⟨by rfl, ?y104⟩) (by assumption) ?r104
      case y104 => (intro w hSw; (try dsimp only at hSw); go_simp; (try with_reducible rfl))
      simp only [Act.put, List.setIfInBounds_toArray, List.set_cons_zero, List.set_cons_succ]
      refine wpAnyH_at 5 (some 15) (v := ?v105) (by decide) rfl (by kernel_rfl) (by kernel_rfl) (by kernel_rfl) (fun _ _ _ h => h) (Or.inl ⟨by rfl, ?y105⟩) (by assumption) ?r105
      case y105 => (intro w hSw; (try dsimp only at hSw); go_simp; (try with_reducible rfl))
      simp only [Act.put, List.setIfInBounds_toArray, List.set_cons_zero, List.set_cons_succ]
      refine wpAnyH_at 6 (some 16) (v := ?v106) (by decide) rfl (by kernel_rfl) (by kernel_rfl) (by kernel_rfl) (fun _ _ _ h => h) (Or.inl ⟨by rfl, ?y106⟩) (by assumption) ?r106
      case y106 => (intro w hSw; (try dsimp only at hSw); go_simp; (try with_reducible rfl))
      simp only [Act.put, List.setIfInBounds_toArray, List.set_cons_zero, List.set_cons_succ]
      refine wpAnyH_at 7 (some 17) (v := ?v107) (by decide) rfl (by kernel_rfl) (by kernel_rfl) (by kernel_rfl) (fun _ _ _ h => h) (Or.inl ⟨by rfl, ?y107⟩) (by assumption) ?r107
      case y107 => (intro w hSw; (try dsimp only at hSw); go_simp; (try with_reducible rfl))
      simp only [Act.put, List.setIfInBounds_toArray, List.set_cons_zero, List.set_cons_succ]
      refine wpAnyH_at 8 (some 18) (v := ?v108) (by decide) rfl (by kernel_rfl) (by kernel_rfl) (by kernel_rfl) (fun _ _ _ h => h) (Or.inl ⟨by rfl, ?y108⟩) (by assumption) ?r108
      case y108 => (intro w hSw; (try dsimp only at hSw); go_simp; (try with_reducible rfl))
      simp only [Act.put, List.setIfInBounds_toArray, List.set_cons_zero, List.set_cons_succ]
      refine wpAnyH_at 9 (some 19) (v := ?v109) (by decide) rfl (by kernel_rfl) (by kernel_rfl) (by kernel_rfl) (fun _ _ _ h => h) (Or.inl ⟨by rfl, ?y109⟩) (by assumption) ?r109
      case y109 => (intro w hSw; (try dsimp only at hSw); go_simp; (try with_reducible rfl))
      simp only [Act.put, List.setIfInBounds_toArray, List.set_cons_zero, List.set_cons_succ]
      refine wpAnyH_at 10 (some 20) (v := ?v110) (by decide) rfl (by kernel_rfl) (by kernel_rfl) (by kernel_rfl) (fun _ _ _ h => h) (Or.inl ⟨by rfl, ?y110⟩) (by assumption) ?r110
      case y110 => (intro w hSw; (try dsimp only at hSw); go_simp; (try with_reducible rfl))
      simp only [Act.put, List.setIfInBounds_toArray, List.set_cons_zero, List.set_cons_succ]
      refine wpAnyH_at 11 (some 21) (v := ?v111) (by decide) rfl (by kernel_rfl) (by kernel_rfl) (by kernel_rfl) (fun _ _ _ h => h) (Or.inl ⟨by rfl, ?y111⟩) (by assumption) ?r111
      case y111 => (intro w hSw; (try dsimp only at hSw); go_simp; (try with_reducible rfl))
      simp only [Act.put, List.setIfInBounds_toArray, List.set_cons_zero, List.set_cons_succ]
      refine wpAnyH_at 12 (some 22) (v := ?v112) (by decide) rfl (by kernel_rfl) (by kernel_rfl) (by kernel_rfl) (fun _ _ _ h => h) (Or.inl ⟨by rfl, ?y112⟩) (by assumption) ?r112
      case y112 => (intro w hSw; (try dsimp only at hSw); go_simp; (try with_reducible rfl))
      simp only [Act.put, List.setIfInBounds_toArray, List.set_cons_zero, List.set_cons_succ]
      refine wpAnyH_at 13 (some 23) (v := ?v113) (by decide) rfl (by kernel_rfl) (by kernel_rfl) (by kernel_rfl) (fun _ _ _ h => h) (Or.inl ⟨by rfl, ?y113⟩) (by assumption) ?r113
      case y113 => (intro w hSw; (try dsimp only at hSw); go_simp; (try with_reducible rfl))
      simp only [Act.put, List.setIfInBounds_toArray, List.set_cons_zero, List.set_cons_succ]
      refine wpAnyH_at 14 (some 24) (v := ?v114) (by decide) rfl (by kernel_rfl) (by kernel_rfl) (by kernel_rfl) (fun _ _ _ h => h) (Or.inl ⟨by rfl, ?y114⟩) (by assumption) ?r114
      case y114 => (intro w hSw; (try dsimp only at hSw); go_simp; (try with_reducible rfl))
      simp only [Act.put, List.setIfInBounds_toArray, List.set_cons_zero, List.set_cons_succ]
      refine wpAnyH_at 15 (some 25) (v := ?v115) (by decide) rfl (by kernel_rfl) (by kernel_rfl) (by kernel_rfl) (fun _ _ _ h => h) (Or.inl ⟨by rfl, ?y115⟩) (by assumption) ?r115
      case y115 => (intro w hSw; (try dsimp only at hSw); go_simp; (try with_reducible rfl))
      simp only [Act.put, List.setIfInBounds_toArray, List.set_cons_zero, List.set_cons_succ]
      refine wpAnyH_at 16 (some 9) (v := ?v116) (by decide) rfl (by kernel_rfl) (by kernel_rfl) (by kernel_rfl) (fun _ _ _ h => h) (Or.inl ⟨by rfl, ?y116⟩) (by assumption) ?r116
      case y116 => (intro w hSw; (try dsimp only at hSw); go_simp; (try with_reducible rfl))
      simp only [Act.put, List.setIfInBounds_toArray, List.set_cons_zero, List.set_cons_succ]
      refine wpAnyH_done (by kernel_rfl) ?_ _
      clear hHeld
      go_wp2_with (refine wpList_store_row rfl 44 (.tmp 4) (.tmp 26) rfl msgZero.toArray msgZero.toArray (by rfl) (by rfl) (by exact HZ.out) rfl infoM (by simp [msgZero, Value.oneCell']) ?_; intro w3 hb3 hk3)
      refine bodyPost_ret (results_row_tmp (fn := Try.f8) rfl (by rfl) rfl hb3 Try.underlying44 rfl (by exact infoM)) rfl (.inl ⟨by rw [HCI.out]; exact by decide, by rw [HCI.out] <;> rfl, HK2.out.drew.trans' hk3 fun g hg => .inr (by omega)⟩)
    · have HCI := hid (callI_free (n := n) (R := ⟨kd, ops, vv, k, t⟩) HPE.out (fun h => hge h.2))
      refine wp_region_held_drew (S := fun w' => w'.cell? ⟨w.heap.size, 0, none⟩ = some (.int .u8 kd) ∧ w'.cell? ⟨w.heap.size, 4, none⟩ = some (.int .i64 t) ∧ w'.cell? ⟨cb, 1, none⟩ = some (.int .i64 n)) (by kernel_rfl) (by exact HS.out) (fun hHeld => ?_)
      refine wpAnyH_at 0 (some 10) (v := ?v200) (by decide) rfl (by kernel_rfl) (by kernel_rfl) (by kernel_rfl) (fun _ _ _ h => h) (Or.inl ⟨by rfl, ?y200⟩) (by assumption) ?r200
      case y200 => (intro w hSw; (try dsimp only at hSw); go_simp; (try with_reducible rfl))
      simp only [Act.put, List.setIfInBounds_toArray, List.set_cons_zero, List.set_cons_succ]
      refine wpAnyH_at 1 (some 11) (v := ?v201) (by decide) rfl (by kernel_rfl) (by kernel_rfl) (by kernel_rfl) (fun _ _ _ h => h) (Or.inl ⟨by rfl, ?y201⟩) (by assumption) ?r201
      case y201 => (intro w hSw; (try dsimp only at hSw); go_simp; (try with_reducible rfl))
      simp only [Act.put, List.setIfInBounds_toArray, List.set_cons_zero, List.set_cons_succ]
      refine wpAnyH_at 2 (some 12) (v := ?v202) (by decide) rfl (by kernel_rfl) (by kernel_rfl) (by kernel_rfl) (fun _ _ _ h => h) (Or.inl ⟨by rfl, ?y202⟩) (by assumption) ?r202
      case y202 => (intro w hSw; (try dsimp only at hSw); go_simp; (try with_reducible rfl))
      simp only [Act.put, List.setIfInBounds_toArray, List.set_cons_zero, List.set_cons_succ]
      refine wpAnyH_at 3 (some 13) (v := ?v203) (by decide) rfl (by kernel_rfl) (by kernel_rfl) (by kernel_rfl) (fun _ _ _ h => h) (Or.inl ⟨by rfl, ?y203⟩) (by assumption) ?r203
      case y203 => (intro w hSw; (try dsimp only at hSw); go_simp; (try with_reducible rfl))
      simp only [Act.put, List.setIfInBounds_toArray, List.set_cons_zero, List.set_cons_succ]
      refine wpAnyH_at 4 (some 14) (v := ?v204) (by decide) rfl (by kernel_rfl) (by kernel_rfl) (by kernel_rfl) (fun _ _ _ h => h) (Or.inl ⟨by rfl, ?y204⟩) (by assumption) ?r204
      case y204 => (intro w hSw; (try dsimp only at hSw); go_simp; (try with_reducible rfl))
      simp only [Act.put, List.setIfInBounds_toArray, List.set_cons_zero, List.set_cons_succ]
      refine wpAnyH_at 5 (some 15) (v := ?v205) (by decide) rfl (by kernel_rfl) (by kernel_rfl) (by kernel_rfl) (fun _ _ _ h => h) (Or.inl ⟨by rfl, ?y205⟩) (by assumption) ?r205
      case y205 => (intro w hSw; (try dsimp only at hSw); go_simp; (try with_reducible rfl))
      simp only [Act.put, List.setIfInBounds_toArray, List.set_cons_zero, List.set_cons_succ]
      refine wpAnyH_at 6 (some 16) (v := ?v206) (by decide) rfl (by kernel_rfl) (by kernel_rfl) (by kernel_rfl) (fun _ _ _ h => h) (Or.inl ⟨by rfl, ?y206⟩) (by assumption) ?r206
      case y206 => (intro w hSw; (try dsimp only at hSw); go_simp; (try with_reducible rfl))
      simp only [Act.put, List.setIfInBounds_toArray, List.set_cons_zero, List.set_cons_succ]
      refine wpAnyH_at 7 (some 17) (v := ?v207) (by decide) rfl (by kernel_rfl) (by kernel_rfl) (by kernel_rfl) (fun _ _ _ h => h) (Or.inl ⟨by rfl, ?y207⟩) (by assumption) ?r207
      case y207 => (intro w hSw; (try dsimp only at hSw); go_simp; (try with_reducible rfl))
      simp only [Act.put, List.setIfInBounds_toArray, List.set_cons_zero, List.set_cons_succ]
      refine wpAnyH_at 8 (some 18) (v := ?v208) (by decide) rfl (by kernel_rfl) (by kernel_rfl) (by kernel_rfl) (fun _ _ _ h => h) (Or.inl ⟨by rfl, ?y208⟩) (by assumption) ?r208
      case y208 => (intro w hSw; (try dsimp only at hSw); go_simp; (try with_reducible rfl))
      simp only [Act.put, List.setIfInBounds_toArray, List.set_cons_zero, List.set_cons_succ]
      refine wpAnyH_at 9 (some 19) (v := ?v209) (by decide) rfl (by kernel_rfl) (by kernel_rfl) (by kernel_rfl) (fun _ _ _ h => h) (Or.inl ⟨by rfl, ?y209⟩) (by assumption) ?r209
      case y209 => (intro w hSw; (try dsimp only at hSw); go_simp; (try with_reducible rfl))
      simp only [Act.put, List.setIfInBounds_toArray, List.set_cons_zero, List.set_cons_succ]
      refine wpAnyH_at 10 (some 20) (v := ?v210) (by decide) rfl (by kernel_rfl) (by kernel_rfl) (by kernel_rfl) (fun _ _ _ h => h) (Or.inl ⟨by rfl, ?y210⟩) (by assumption) ?r210
      case y210 => (intro w hSw; (try dsimp only at hSw); go_simp; (try with_reducible rfl))
      simp only [Act.put, List.setIfInBounds_toArray, List.set_cons_zero, List.set_cons_succ]
      refine wpAnyH_at 11 (some 21) (v := ?v211) (by decide) rfl (by kernel_rfl) (by kernel_rfl) (by kernel_rfl) (fun _ _ _ h => h) (Or.inl ⟨by rfl, ?y211⟩) (by assumption) ?r211
      case y211 => (intro w hSw; (try dsimp only at hSw); go_simp; (try with_reducible rfl))
      simp only [Act.put, List.setIfInBounds_toArray, List.set_cons_zero, List.set_cons_succ]
      refine wpAnyH_at 12 (some 22) (v := ?v212) (by decide) rfl (by kernel_rfl) (by kernel_rfl) (by kernel_rfl) (fun _ _ _ h => h) (Or.inl ⟨by rfl, ?y212⟩) (by assumption) ?r212
      case y212 => (intro w hSw; (try dsimp only at hSw); go_simp; (try with_reducible rfl))
      simp only [Act.put, List.setIfInBounds_toArray, List.set_cons_zero, List.set_cons_succ]
      refine wpAnyH_at 13 (some 23) (v := ?v213) (by decide) rfl (by kernel_rfl) (by kernel_rfl) (by kernel_rfl) (fun _ _ _ h => h) (Or.inl ⟨by rfl, ?y213⟩) (by assumption) ?r213
      case y213 => (intro w hSw; (try dsimp only at hSw); go_simp; (try with_reducible rfl))
      simp only [Act.put, List.setIfInBounds_toArray, List.set_cons_zero, List.set_cons_succ]
      refine wpAnyH_at 14 (some 24) (v := ?v214) (by decide) rfl (by kernel_rfl) (by kernel_rfl) (by kernel_rfl) (fun _ _ _ h => h) (Or.inl ⟨by rfl, ?y214⟩) (by assumption) ?r214
      case y214 => (intro w hSw; (try dsimp only at hSw); go_simp; (try with_reducible rfl))
      simp only [Act.put, List.setIfInBounds_toArray, List.set_cons_zero, List.set_cons_succ]
      refine wpAnyH_at 15 (some 25) (v := ?v215) (by decide) rfl (by kernel_rfl) (by kernel_rfl) (by kernel_rfl) (fun _ _ _ h => h) (Or.inl ⟨by rfl, ?y215⟩) (by assumption) ?r215
      case y215 => (intro w hSw; (try dsimp only at hSw); go_simp; (try with_reducible rfl))
      simp only [Act.put, List.setIfInBounds_toArray, List.set_cons_zero, List.set_cons_succ]
      refine wpAnyH_at 16 (some 9) (v := ?v216) (by decide) rfl (by kernel_rfl) (by kernel_rfl) (by kernel_rfl) (fun _ _ _ h => h) (Or.inl ⟨by rfl, ?y216⟩) (by assumption) ?r216
      case y216 => (intro w hSw; (try dsimp only at hSw); go_simp; (try with_reducible rfl))
      simp only [Act.put, List.setIfInBounds_toArray, List.set_cons_zero, List.set_cons_succ]
      refine wpAnyH_done (by kernel_rfl) ?_ _
      clear hHeld
      by_cases her : er = 0
      · have her' : (er != 0) = false := by simp [her]
        have HC0 := hid (HCI.out.trans her)
        clear her
        go_wp2_with fail
        refine (copied_any (R := ⟨kd, ops, vv, k, t⟩) (by exact HIN.out.same (Kept.refl _ _).drew)).mono ?_
        rintro e w4 ⟨a2, c4, rfl, hv4, hk4⟩
        have HV4 := hid hv4; have HK4 := hid (HK2.out.drew.trans hk4)
        have hB4 := (hk4.block _ (row_lt HBx.out) (fun h => h)).trans HBx.out
        have HZ4 := hid ((hk4.block _ (row_lt HZ.out) (fun h => h)).trans HZ.out)
        have HC4 := hid ((hk4.block _ (row_lt HCl.out) (fun h => h)).trans HCl.out)
        have HB4 := hid hB4
        clear hv4 hk4 hB4 b0 b1 b2 b3 b4 b5 e0 e1 e2 e3 e4
        simp only []
        rename_i K1 aK1
        refine aK1 _ _ ?_
        try simp only [Act.put, List.setIfInBounds_toArray, List.set_cons_zero, List.set_cons_succ]
        refine wpList_store_row rfl 31 (.tmp 3) (.tmp 44) rfl #[.int .u8 kd, .slice a2 ops.length c4, .int .u32 vv, .int .i64 k, .int .i64 t] #[.int .u8 kd, .slice ao ops.length c, .int .u32 vv, .int .i64 k, .int .i64 t] (by rfl) (by rfl) (by exact HB4.out) rfl infoR (by simp [Value.oneCell']) ?_
        intro w5 hb5 hk5
        have HB5 := hid hb5; have HK5 := hid hk5
        have hc5 := (hk5.block _ (row_lt HC4.out) (by omega)).trans HC4.out
        have HC5 := hid hc5
        have HZ5 := hid ((hk5.block _ (row_lt HZ4.out) (by simp)).trans HZ4.out)
        obtain ⟨e0, e1, e2, e3, e4⟩ := cells4 hc5
        clear hb5 hk5 hc5
        have HD := hid (row_set (row_set HC5.out 3 (.pointer (some ⟨w.heap.size, 0, none⟩))) 2 (.int .u32 (seq + 1)))
        have hne : w.heap.size ≠ cb := by omega
        have HR := hid (row_other (row_other HB5.out (a := ⟨cb, 3, none⟩) hne (.pointer (some ⟨w.heap.size, 0, none⟩))) (a := ⟨cb, 2, none⟩) hne (.int .u32 (seq + 1)))
        have KC : Kept (fun g => g = cb ∨ g = w.heap.size) w4 ((w5.setCell ⟨cb, 3, none⟩ (.pointer (some ⟨w.heap.size, 0, none⟩))).setCell ⟨cb, 2, none⟩ (.int .u32 (seq + 1))) := ((HK5.out.mono (fun _ _ h => .inr h)).setCell (p := ⟨cb, 3, none⟩) (.inl (.inl rfl)) _).setCell (p := ⟨cb, 2, none⟩) (.inl (.inl rfl)) _
        have KC := hid KC
        have hz2 := HK2.out.size
        have HZ6 := hid ((KC.out.block _ (row_lt HZ4.out) (by omega)).trans HZ4.out)
        have HV6 := hid ((HV4.out.mono (G := fun g => g < w.heap.size + 2) (fun g _ hg => by have := row_lt HZ.out; simp; omega)).kept KC.out fun g _ hg => by omega)
        have szz := row_lt HBx.out
        go_wp2_with fail
        refine (message_t (R := ⟨kd, ops, vv, k, t⟩) (by exact HD.out) (by exact HR.out) (by exact HV6.out) h0 h1 n1 n4).mono ?_
        rintro e w7 ⟨a3, c7, rfl, hv7, hk7, ht7⟩
        have HT7 := hid ht7; clear ht7
        have HV7 := hid hv7; have HK7 := hid hk7
        have HZ7 := hid ((hk7.block _ (row_lt HZ6.out) (fun h => h)).trans HZ6.out)
        have HD7 := hid ((hk7.block _ (row_lt HD.out) (fun h => h)).trans HD.out)
        have HR7 := hid ((hk7.block _ (row_lt HR.out) (fun h => h)).trans HR.out)
        clear hv7 hk7 e0 e1 e2 e3 e4
        go_wp2_with (refine wpList_store_row rfl 44 (.tmp 4) (.tmp 56) rfl (msgCells id (id % n) (seq + 1) ⟨kd, ops, vv, k, t⟩ (.slice a3 ops.length c7)).toArray msgZero.toArray (by rfl) (by rfl) (by exact HZ7.out) rfl infoM (by simp [msgCells, Value.oneCell']) ?_; intro w8 hb8 hk8)
        have l6 := row_lt HZ6.out
        have HB8 := hid hb8; have HK8 := hid hk8
        clear hb8 hk8
        have hm := KC.out.size
        obtain ⟨m, hm5⟩ : ∃ m, m = w5.heap.size := ⟨_, rfl⟩
        have l5 := HK5.out.size
        have l55 := row_lt HB5.out
        refine bodyPost_ret (results_row_tmp (fn := Try.f8) rfl (by rfl) rfl HB8.out Try.underlying44 rfl (by exact infoM)) rfl (.inr ⟨HC0.out, m, w.heap.size, a3, c7, a2, c4, rfl, ?_, ?_, ?_, ?_, Nat.le_refl _, ?_, ?_, ?_, ?_⟩)
        · exact (HV7.out.kept HK8.out fun g _ hg => by subst hg; exact l6).mono fun g _ hg => by simp; omega
        · exact (HK8.out.block _ (row_lt HD7.out) (by omega)).trans HD7.out
        · exact (HK8.out.block _ (row_lt HR7.out) (by omega)).trans HR7.out
        · exact ((((HV6.out.mono (G := fun g => g < w.heap.size + 2 ∨ m ≤ g) (fun g hg h => by simp at hg; omega)).same HK7.out).kept HK8.out fun g _ hg => by omega).mono fun g _ hg => by omega)
        · omega
        · omega
        · exact (HT7.out.kept HK8.out fun g _ hg => by subst hg; exact l6).mono fun g _ hg => by simp; omega
        · exact (((HK4.out.mono (fun _ _ h => h.elim)).trans' KC.out (fun g hg => by rcases hg with h | h; exact .inl h; exact .inr (by omega))).trans' (HK7.out.mono (G := fun g => g = cb) (fun _ _ h => h.elim)) (fun g hg => .inl hg)).trans' HK8.out (fun g hg => .inr (by omega))
      · have her' : (er != 0) = true := by simpa using her
        have HER := hid her; clear her
        go_wp2_with (refine wpList_store_row rfl 44 (.tmp 4) (.tmp 30) rfl msgZero.toArray msgZero.toArray (by rfl) (by rfl) (by exact HZ.out) rfl infoM (by simp [msgZero, Value.oneCell']) ?_; intro w3 hb3 hk3)
        refine bodyPost_ret (results_row_tmp (fn := Try.f8) rfl (by rfl) rfl hb3 Try.underlying44 rfl (by exact infoM)) rfl (.inl ⟨by rw [HCI.out]; exact HER.out, by rw [HCI.out] <;> rfl, HK2.out.drew.trans' hk3 fun g hg => .inr (by omega)⟩)
  · have k3' : (kd == 3) = false := by simpa using k3
    have HCI := hid (callI_free (n := n) (R := ⟨kd, ops, vv, k, t⟩) HPE.out (fun h => k3 h.1))
    clear k3
    refine wp_region_held_drew (S := fun w' => w'.cell? ⟨w.heap.size, 0, none⟩ = some (.int .u8 kd) ∧ w'.cell? ⟨w.heap.size, 4, none⟩ = some (.int .i64 t) ∧ w'.cell? ⟨cb, 1, none⟩ = some (.int .i64 n)) (by kernel_rfl) (by exact HS.out) (fun hHeld => ?_)
    refine wpAnyH_at 0 (some 10) (v := ?v300) (by decide) rfl (by kernel_rfl) (by kernel_rfl) (by kernel_rfl) (fun _ _ _ h => h) (Or.inl ⟨by rfl, ?y300⟩) (by assumption) ?r300
    case y300 => (intro w hSw; (try dsimp only at hSw); go_simp; (try with_reducible rfl))
    simp only [Act.put, List.setIfInBounds_toArray, List.set_cons_zero, List.set_cons_succ]
    refine wpAnyH_at 1 (some 11) (v := ?v301) (by decide) rfl (by kernel_rfl) (by kernel_rfl) (by kernel_rfl) (fun _ _ _ h => h) (Or.inl ⟨by rfl, ?y301⟩) (by assumption) ?r301
    case y301 => (intro w hSw; (try dsimp only at hSw); go_simp; (try with_reducible rfl))
    simp only [Act.put, List.setIfInBounds_toArray, List.set_cons_zero, List.set_cons_succ]
    refine wpAnyH_at 2 (some 12) (v := ?v302) (by decide) rfl (by kernel_rfl) (by kernel_rfl) (by kernel_rfl) (fun _ _ _ h => h) (Or.inl ⟨by rfl, ?y302⟩) (by assumption) ?r302
    case y302 => (intro w hSw; (try dsimp only at hSw); go_simp; (try with_reducible rfl))
    simp only [Act.put, List.setIfInBounds_toArray, List.set_cons_zero, List.set_cons_succ]
    refine wpAnyH_at 3 (some 13) (v := ?v303) (by decide) rfl (by kernel_rfl) (by kernel_rfl) (by kernel_rfl) (fun _ _ _ h => h) (Or.inl ⟨by rfl, ?y303⟩) (by assumption) ?r303
    case y303 => (intro w hSw; (try dsimp only at hSw); go_simp; (try with_reducible rfl))
    simp only [Act.put, List.setIfInBounds_toArray, List.set_cons_zero, List.set_cons_succ]
    refine wpAnyH_at 4 (some 14) (v := undef) (by decide) rfl (by kernel_rfl) (by kernel_rfl) (by kernel_rfl) (fun _ _ _ h => h) (Or.inr ⟨by rfl, rfl⟩) (by assumption) ?_
    simp only [Act.put, List.setIfInBounds_toArray, List.set_cons_zero, List.set_cons_succ]
    refine wpAnyH_at 5 (some 15) (v := undef) (by decide) rfl (by kernel_rfl) (by kernel_rfl) (by kernel_rfl) (fun _ _ _ h => h) (Or.inr ⟨by rfl, rfl⟩) (by assumption) ?_
    simp only [Act.put, List.setIfInBounds_toArray, List.set_cons_zero, List.set_cons_succ]
    refine wpAnyH_at 6 (some 16) (v := ?v306) (by decide) rfl (by kernel_rfl) (by kernel_rfl) (by kernel_rfl) (fun _ _ _ h => h) (Or.inl ⟨by rfl, ?y306⟩) (by assumption) ?r306
    case y306 => (intro w hSw; (try dsimp only at hSw); go_simp; (try with_reducible rfl))
    simp only [Act.put, List.setIfInBounds_toArray, List.set_cons_zero, List.set_cons_succ]
    refine wpAnyH_at 7 (some 17) (v := ?v307) (by decide) rfl (by kernel_rfl) (by kernel_rfl) (by kernel_rfl) (fun _ _ _ h => h) (Or.inl ⟨by rfl, ?y307⟩) (by assumption) ?r307
    case y307 => (intro w hSw; (try dsimp only at hSw); go_simp; (try with_reducible rfl))
    simp only [Act.put, List.setIfInBounds_toArray, List.set_cons_zero, List.set_cons_succ]
    refine wpAnyH_at 8 (some 18) (v := undef) (by decide) rfl (by kernel_rfl) (by kernel_rfl) (by kernel_rfl) (fun _ _ _ h => h) (Or.inr ⟨by rfl, rfl⟩) (by assumption) ?_
    simp only [Act.put, List.setIfInBounds_toArray, List.set_cons_zero, List.set_cons_succ]
    refine wpAnyH_at 9 (some 19) (v := undef) (by decide) rfl (by kernel_rfl) (by kernel_rfl) (by kernel_rfl) (fun _ _ _ h => h) (Or.inr ⟨by rfl, rfl⟩) (by assumption) ?_
    simp only [Act.put, List.setIfInBounds_toArray, List.set_cons_zero, List.set_cons_succ]
    refine wpAnyH_at 10 (some 20) (v := undef) (by decide) rfl (by kernel_rfl) (by kernel_rfl) (by kernel_rfl) (fun _ _ _ h => h) (Or.inr ⟨by rfl, rfl⟩) (by assumption) ?_
    simp only [Act.put, List.setIfInBounds_toArray, List.set_cons_zero, List.set_cons_succ]
    refine wpAnyH_at 11 (some 21) (v := undef) (by decide) rfl (by kernel_rfl) (by kernel_rfl) (by kernel_rfl) (fun _ _ _ h => h) (Or.inr ⟨by rfl, rfl⟩) (by assumption) ?_
    simp only [Act.put, List.setIfInBounds_toArray, List.set_cons_zero, List.set_cons_succ]
    refine wpAnyH_at 12 (some 22) (v := undef) (by decide) rfl (by kernel_rfl) (by kernel_rfl) (by kernel_rfl) (fun _ _ _ h => h) (Or.inr ⟨by rfl, rfl⟩) (by assumption) ?_
    simp only [Act.put, List.setIfInBounds_toArray, List.set_cons_zero, List.set_cons_succ]
    refine wpAnyH_at 13 (some 23) (v := undef) (by decide) rfl (by kernel_rfl) (by kernel_rfl) (by kernel_rfl) (fun _ _ _ h => h) (Or.inr ⟨by rfl, rfl⟩) (by assumption) ?_
    simp only [Act.put, List.setIfInBounds_toArray, List.set_cons_zero, List.set_cons_succ]
    refine wpAnyH_at 14 (some 24) (v := undef) (by decide) rfl (by kernel_rfl) (by kernel_rfl) (by kernel_rfl) (fun _ _ _ h => h) (Or.inr ⟨by rfl, rfl⟩) (by assumption) ?_
    simp only [Act.put, List.setIfInBounds_toArray, List.set_cons_zero, List.set_cons_succ]
    refine wpAnyH_at 15 (some 25) (v := ?v315) (by decide) rfl (by kernel_rfl) (by kernel_rfl) (by kernel_rfl) (fun _ _ _ h => h) (Or.inl ⟨by rfl, ?y315⟩) (by assumption) ?r315
    case y315 => (intro w hSw; (try dsimp only at hSw); go_simp; (try with_reducible rfl))
    simp only [Act.put, List.setIfInBounds_toArray, List.set_cons_zero, List.set_cons_succ]
    refine wpAnyH_at 16 (some 9) (v := ?v316) (by decide) rfl (by kernel_rfl) (by kernel_rfl) (by kernel_rfl) (fun _ _ _ h => h) (Or.inl ⟨by rfl, ?y316⟩) (by assumption) ?r316
    case y316 => (intro w hSw; (try dsimp only at hSw); go_simp; (try with_reducible rfl))
    simp only [Act.put, List.setIfInBounds_toArray, List.set_cons_zero, List.set_cons_succ]
    refine wpAnyH_done (by kernel_rfl) ?_ _
    clear hHeld
    by_cases her : er = 0
    · have her' : (er != 0) = false := by simp [her]
      have HC0 := hid (HCI.out.trans her)
      clear her
      go_wp2_with fail
      refine (copied_any (R := ⟨kd, ops, vv, k, t⟩) (by exact HIN.out.same (Kept.refl _ _).drew)).mono ?_
      rintro e w4 ⟨a2, c4, rfl, hv4, hk4⟩
      have HV4 := hid hv4; have HK4 := hid (HK2.out.drew.trans hk4)
      have hB4 := (hk4.block _ (row_lt HBx.out) (fun h => h)).trans HBx.out
      have HZ4 := hid ((hk4.block _ (row_lt HZ.out) (fun h => h)).trans HZ.out)
      have HC4 := hid ((hk4.block _ (row_lt HCl.out) (fun h => h)).trans HCl.out)
      have HB4 := hid hB4
      clear hv4 hk4 hB4 b0 b1 b2 b3 b4 b5 e0 e1 e2 e3 e4
      simp only []
      rename_i K1 aK1
      refine aK1 _ _ ?_
      try simp only [Act.put, List.setIfInBounds_toArray, List.set_cons_zero, List.set_cons_succ]
      refine wpList_store_row rfl 31 (.tmp 3) (.tmp 44) rfl #[.int .u8 kd, .slice a2 ops.length c4, .int .u32 vv, .int .i64 k, .int .i64 t] #[.int .u8 kd, .slice ao ops.length c, .int .u32 vv, .int .i64 k, .int .i64 t] (by rfl) (by rfl) (by exact HB4.out) rfl infoR (by simp [Value.oneCell']) ?_
      intro w5 hb5 hk5
      have HB5 := hid hb5; have HK5 := hid hk5
      have hc5 := (hk5.block _ (row_lt HC4.out) (by omega)).trans HC4.out
      have HC5 := hid hc5
      have HZ5 := hid ((hk5.block _ (row_lt HZ4.out) (by simp)).trans HZ4.out)
      obtain ⟨e0, e1, e2, e3, e4⟩ := cells4 hc5
      clear hb5 hk5 hc5
      have HD := hid (row_set (row_set HC5.out 3 (.pointer (some ⟨w.heap.size, 0, none⟩))) 2 (.int .u32 (seq + 1)))
      have hne : w.heap.size ≠ cb := by omega
      have HR := hid (row_other (row_other HB5.out (a := ⟨cb, 3, none⟩) hne (.pointer (some ⟨w.heap.size, 0, none⟩))) (a := ⟨cb, 2, none⟩) hne (.int .u32 (seq + 1)))
      have KC : Kept (fun g => g = cb ∨ g = w.heap.size) w4 ((w5.setCell ⟨cb, 3, none⟩ (.pointer (some ⟨w.heap.size, 0, none⟩))).setCell ⟨cb, 2, none⟩ (.int .u32 (seq + 1))) := ((HK5.out.mono (fun _ _ h => .inr h)).setCell (p := ⟨cb, 3, none⟩) (.inl (.inl rfl)) _).setCell (p := ⟨cb, 2, none⟩) (.inl (.inl rfl)) _
      have KC := hid KC
      have hz2 := HK2.out.size
      have HZ6 := hid ((KC.out.block _ (row_lt HZ4.out) (by omega)).trans HZ4.out)
      have HV6 := hid ((HV4.out.mono (G := fun g => g < w.heap.size + 2) (fun g _ hg => by have := row_lt HZ.out; simp; omega)).kept KC.out fun g _ hg => by omega)
      have szz := row_lt HBx.out
      go_wp2_with fail
      refine (message_t (R := ⟨kd, ops, vv, k, t⟩) (by exact HD.out) (by exact HR.out) (by exact HV6.out) h0 h1 n1 n4).mono ?_
      rintro e w7 ⟨a3, c7, rfl, hv7, hk7, ht7⟩
      have HT7 := hid ht7; clear ht7
      have HV7 := hid hv7; have HK7 := hid hk7
      have HZ7 := hid ((hk7.block _ (row_lt HZ6.out) (fun h => h)).trans HZ6.out)
      have HD7 := hid ((hk7.block _ (row_lt HD.out) (fun h => h)).trans HD.out)
      have HR7 := hid ((hk7.block _ (row_lt HR.out) (fun h => h)).trans HR.out)
      clear hv7 hk7 e0 e1 e2 e3 e4
      go_wp2_with (refine wpList_store_row rfl 44 (.tmp 4) (.tmp 56) rfl (msgCells id (id % n) (seq + 1) ⟨kd, ops, vv, k, t⟩ (.slice a3 ops.length c7)).toArray msgZero.toArray (by rfl) (by rfl) (by exact HZ7.out) rfl infoM (by simp [msgCells, Value.oneCell']) ?_; intro w8 hb8 hk8)
      have l6 := row_lt HZ6.out
      have HB8 := hid hb8; have HK8 := hid hk8
      clear hb8 hk8
      have hm := KC.out.size
      obtain ⟨m, hm5⟩ : ∃ m, m = w5.heap.size := ⟨_, rfl⟩
      have l5 := HK5.out.size
      have l55 := row_lt HB5.out
      refine bodyPost_ret (results_row_tmp (fn := Try.f8) rfl (by rfl) rfl HB8.out Try.underlying44 rfl (by exact infoM)) rfl (.inr ⟨HC0.out, m, w.heap.size, a3, c7, a2, c4, rfl, ?_, ?_, ?_, ?_, Nat.le_refl _, ?_, ?_, ?_, ?_⟩)
      · exact (HV7.out.kept HK8.out fun g _ hg => by subst hg; exact l6).mono fun g _ hg => by simp; omega
      · exact (HK8.out.block _ (row_lt HD7.out) (by omega)).trans HD7.out
      · exact (HK8.out.block _ (row_lt HR7.out) (by omega)).trans HR7.out
      · exact ((((HV6.out.mono (G := fun g => g < w.heap.size + 2 ∨ m ≤ g) (fun g hg h => by simp at hg; omega)).same HK7.out).kept HK8.out fun g _ hg => by omega).mono fun g _ hg => by omega)
      · omega
      · omega
      · exact (HT7.out.kept HK8.out fun g _ hg => by subst hg; exact l6).mono fun g _ hg => by simp; omega
      · exact (((HK4.out.mono (fun _ _ h => h.elim)).trans' KC.out (fun g hg => by rcases hg with h | h; exact .inl h; exact .inr (by omega))).trans' (HK7.out.mono (G := fun g => g = cb) (fun _ _ h => h.elim)) (fun g hg => .inl hg)).trans' HK8.out (fun g hg => .inr (by omega))
    · have her' : (er != 0) = true := by simpa using her
      have HER := hid her; clear her
      go_wp2_with (refine wpList_store_row rfl 44 (.tmp 4) (.tmp 30) rfl msgZero.toArray msgZero.toArray (by rfl) (by rfl) (by exact HZ.out) rfl infoM (by simp [msgZero, Value.oneCell']) ?_; intro w3 hb3 hk3)
      refine bodyPost_ret (results_row_tmp (fn := Try.f8) rfl (by rfl) rfl hb3 Try.underlying44 rfl (by exact infoM)) rfl (.inl ⟨by rw [HCI.out]; exact HER.out, by rw [HCI.out] <;> rfl, HK2.out.drew.trans' hk3 fun g hg => .inr (by omega)⟩)

end Go.Proofs.Ytnlbdlbinoebgaa
