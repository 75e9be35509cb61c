/- message. -/
import Derived.Test.YtnlbdlbinoebgaaC
import Derived.Test.YtnlbdlbinoebgaaReg
import Derived.IntWalk
import Derived.Test.YtnlbdlbinoebgaaRow
namespace Go.Proofs.Ytnlbdlbinoebgaa
open Go.RowKit

theorem infoM : (Try.prog.info? 44).map (·.size) = some 26 := by kernel_rfl
set_option maxRecDepth 100000 in
set_option maxHeartbeats 4000000 in
theorem message_any {w : World} {cb rb : Nat} {id n seq : Int} {R : Rq} {v : Value} {F : Nat → Prop} (hc : w.heap[cb]? = some (cliRow id n seq (some ⟨rb, 0, none⟩))) (hr : w.heap[rb]? = some (.cells #[.int .u8 R.kd, v, .int .u32 R.v, .int .i64 R.k, .int .i64 R.t] 31 (0, 0))) (hin : ReqIn F w v R)
    (h0 : 0 ≤ id) (h1 : id ≤ 3) (n1 : 1 ≤ n) (n4 : n ≤ 4) :
    Calls Try.prog 19 #[.pointer (some ⟨cb, 0, none⟩)] w fun e w' => ∃ a c, e = .returned (.agg (msgCells id (id % n) seq R (.slice a R.ops.length c)).toArray) ∧ ReqIn (fun g => g < w.heap.size) w' (.slice a R.ops.length c) R ∧ Kept (fun _ => False) w w' := by
  have H := hid hin
  obtain ⟨ao, c, rfl, m1, m2, _⟩ := hin.l
  clear hin m1 m2
  obtain ⟨kd, ops, vv, k, t⟩ := R
  have lc := row_lt hc
  have lr := row_lt hr
  obtain ⟨c0, c1, c2, c3, c4⟩ := cells4 (w := (w.alloc (.cells msgZero.toArray 44)).drew) (row_old hc (.cells msgZero.toArray 44))
  obtain ⟨r0, r1, r2, r3, r4, r5⟩ := cells5 (w := (w.alloc (.cells msgZero.toArray 44)).drew) (row_old hr (.cells msgZero.toArray 44))
  have N0 := hid (row_new w (.cells msgZero.toArray 44))
  have m0 : 0 ≤ id % n := Int.emod_nonneg _ (by omega)
  have m1 : id % n < 4 := by have := Int.emod_lt_of_pos id (show 0 < n by omega); omega
  clear hc hr
  go_enter Try.func19, Try.ntmps19
  unfold msgZero at c0 c1 c2 c3 c4 r0 r1 r2 r3 r4 r5
  have hz1 : ¬ n = 0 := by omega
  have hz2 : (n == 0) = false := by simpa using hz1
  have hz3 : id.tmod n = id % n := Int.tmod_eq_emod_of_nonneg h0
  have hw1 : IntKind.i64.wrap id = id := IntWalk.i64_in _ (by omega)
  have hw2 : IntKind.u8.wrap (id % n) = id % n := by simp [IntKind.wrap, IntKind.bits, IntKind.signed]; omega
  have hne1 : ¬ cb = w.heap.size := by omega
  have hne2 : ¬ rb = w.heap.size := by omega
  go_wp2_with fail
  refine wp_region_held_drew (S := fun w' => w'.cell? ⟨cb, 0, none⟩ = some (.int .u8 id) ∧ w'.cell? ⟨cb, 1, none⟩ = some (.int .i64 n) ∧ w'.cell? ⟨cb, 2, none⟩ = some (.int .u32 seq) ∧ w'.cell? ⟨cb, 3, none⟩ = some (.pointer (some ⟨rb, 0, none⟩)) ∧ w'.cell? ⟨rb, 0, none⟩ = some (.int .u8 kd) ∧ w'.cell? ⟨rb, 1, none⟩ = some (.slice ao ops.length c) ∧ w'.cell? ⟨rb, 2, none⟩ = some (.int .u32 vv) ∧ w'.cell? ⟨rb, 3, none⟩ = some (.int .i64 k) ∧ w'.cell? ⟨rb, 4, none⟩ = some (.int .i64 t)) (by kernel_rfl) (by exact ⟨c0, c1, c2, c3, r0, r1, r2, r3, r4⟩) (fun hHeld => ?_)
  refine wpAnyH_at 0 (some 3) (v := ?v200) (by decide) rfl (by kernel_rfl) (by kernel_rfl) (by kernel_rfl) (fun _ _ _ h => h) (Or.inl ⟨by rfl, ?y200⟩) (by assumption) ?r200
  case y200 => (intro w hSw; (try dsimp only at hSw); go_simp; (try with_reducible rfl))
  simp only [Act.put, List.setIfInBounds_toArray, List.set_cons_zero, List.set_cons_succ]
  refine wpAnyH_at 1 (some 4) (v := ?v201) (by decide) rfl (by kernel_rfl) (by kernel_rfl) (by kernel_rfl) (fun _ _ _ h => h) (Or.inl ⟨by rfl, ?y201⟩) (by assumption) ?r201
  case y201 => (intro w hSw; (try dsimp only at hSw); go_simp; (try with_reducible rfl))
  simp only [Act.put, List.setIfInBounds_toArray, List.set_cons_zero, List.set_cons_succ]
  refine wpAnyH_at 2 (some 5) (v := ?v202) (by decide) rfl (by kernel_rfl) (by kernel_rfl) (by kernel_rfl) (fun _ _ _ h => h) (Or.inl ⟨by rfl, ?y202⟩) (by assumption) ?r202
  case y202 => (intro w hSw; (try dsimp only at hSw); go_simp; (try with_reducible rfl))
  simp only [Act.put, List.setIfInBounds_toArray, List.set_cons_zero, List.set_cons_succ]
  refine wpAnyH_at 3 (some 6) (v := ?v203) (by decide) rfl (by kernel_rfl) (by kernel_rfl) (by kernel_rfl) (fun _ _ _ h => h) (Or.inl ⟨by rfl, ?y203⟩) (by assumption) ?r203
  case y203 => (intro w hSw; (try dsimp only at hSw); go_simp; (try with_reducible rfl))
  simp only [Act.put, List.setIfInBounds_toArray, List.set_cons_zero, List.set_cons_succ]
  refine wpAnyH_at 4 (some 7) (v := ?v204) (by decide) rfl (by kernel_rfl) (by kernel_rfl) (by kernel_rfl) (fun _ _ _ h => h) (Or.inl ⟨by rfl, ?y204⟩) (by assumption) ?r204
  case y204 => (intro w hSw; (try dsimp only at hSw); go_simp; (try with_reducible rfl))
  simp only [Act.put, List.setIfInBounds_toArray, List.set_cons_zero, List.set_cons_succ]
  refine wpAnyH_at 5 (some 8) (v := ?v205) (by decide) rfl (by kernel_rfl) (by kernel_rfl) (by kernel_rfl) (fun _ _ _ h => h) (Or.inl ⟨by rfl, ?y205⟩) (by assumption) ?r205
  case y205 => (intro w hSw; (try dsimp only at hSw); go_simp; (try with_reducible rfl))
  simp only [Act.put, List.setIfInBounds_toArray, List.set_cons_zero, List.set_cons_succ]
  refine wpAnyH_at 6 (some 9) (v := ?v206) (by decide) rfl (by kernel_rfl) (by kernel_rfl) (by kernel_rfl) (fun _ _ _ h => h) (Or.inl ⟨by rfl, ?y206⟩) (by assumption) ?r206
  case y206 => (intro w hSw; (try dsimp only at hSw); go_simp; (try with_reducible rfl))
  simp only [Act.put, List.setIfInBounds_toArray, List.set_cons_zero, List.set_cons_succ]
  refine wpAnyH_at 7 (some 10) (v := ?v207) (by decide) rfl (by kernel_rfl) (by kernel_rfl) (by kernel_rfl) (fun _ _ _ h => h) (Or.inl ⟨by rfl, ?y207⟩) (by assumption) ?r207
  case y207 => (intro w hSw; (try dsimp only at hSw); go_simp; (try with_reducible rfl))
  simp only [Act.put, List.setIfInBounds_toArray, List.set_cons_zero, List.set_cons_succ]
  refine wpAnyH_at 8 (some 11) (v := ?v208) (by decide) rfl (by kernel_rfl) (by kernel_rfl) (by kernel_rfl) (fun _ _ _ h => h) (Or.inl ⟨by rfl, ?y208⟩) (by assumption) ?r208
  case y208 => (intro w hSw; (try dsimp only at hSw); go_simp; (try with_reducible rfl))
  simp only [Act.put, List.setIfInBounds_toArray, List.set_cons_zero, List.set_cons_succ]
  refine wpAnyH_at 9 (some 12) (v := ?v209) (by decide) rfl (by kernel_rfl) (by kernel_rfl) (by kernel_rfl) (fun _ _ _ h => h) (Or.inl ⟨by rfl, ?y209⟩) (by assumption) ?r209
  case y209 => (intro w hSw; (try dsimp only at hSw); go_simp; (try with_reducible rfl))
  simp only [Act.put, List.setIfInBounds_toArray, List.set_cons_zero, List.set_cons_succ]
  refine wpAnyH_at 10 (some 13) (v := ?v210) (by decide) rfl (by kernel_rfl) (by kernel_rfl) (by kernel_rfl) (fun _ _ _ h => h) (Or.inl ⟨by rfl, ?y210⟩) (by assumption) ?r210
  case y210 => (intro w hSw; (try dsimp only at hSw); go_simp; (try with_reducible rfl))
  simp only [Act.put, List.setIfInBounds_toArray, List.set_cons_zero, List.set_cons_succ]
  refine wpAnyH_at 11 (some 14) (v := ?v211) (by decide) rfl (by kernel_rfl) (by kernel_rfl) (by kernel_rfl) (fun _ _ _ h => h) (Or.inl ⟨by rfl, ?y211⟩) (by assumption) ?r211
  case y211 => (intro w hSw; (try dsimp only at hSw); go_simp; (try with_reducible rfl))
  simp only [Act.put, List.setIfInBounds_toArray, List.set_cons_zero, List.set_cons_succ]
  refine wpAnyH_at 12 (some 15) (v := ?v212) (by decide) rfl (by kernel_rfl) (by kernel_rfl) (by kernel_rfl) (fun _ _ _ h => h) (Or.inl ⟨by rfl, ?y212⟩) (by assumption) ?r212
  case y212 => (intro w hSw; (try dsimp only at hSw); go_simp; (try with_reducible rfl))
  simp only [Act.put, List.setIfInBounds_toArray, List.set_cons_zero, List.set_cons_succ]
  refine wpAnyH_at 13 (some 16) (v := ?v213) (by decide) rfl (by kernel_rfl) (by kernel_rfl) (by kernel_rfl) (fun _ _ _ h => h) (Or.inl ⟨by rfl, ?y213⟩) (by assumption) ?r213
  case y213 => (intro w hSw; (try dsimp only at hSw); go_simp; (try with_reducible rfl))
  simp only [Act.put, List.setIfInBounds_toArray, List.set_cons_zero, List.set_cons_succ]
  refine wpAnyH_at 14 (some 17) (v := ?v214) (by decide) rfl (by kernel_rfl) (by kernel_rfl) (by kernel_rfl) (fun _ _ _ h => h) (Or.inl ⟨by rfl, ?y214⟩) (by assumption) ?r214
  case y214 => (intro w hSw; (try dsimp only at hSw); go_simp; (try with_reducible rfl))
  simp only [Act.put, List.setIfInBounds_toArray, List.set_cons_zero, List.set_cons_succ]
  refine wpAnyH_at 15 (some 18) (v := ?v215) (by decide) rfl (by kernel_rfl) (by kernel_rfl) (by kernel_rfl) (fun _ _ _ h => h) (Or.inl ⟨by rfl, ?y215⟩) (by assumption) ?r215
  case y215 => (intro w hSw; (try dsimp only at hSw); go_simp; (try with_reducible rfl))
  simp only [Act.put, List.setIfInBounds_toArray, List.set_cons_zero, List.set_cons_succ]
  refine wpAnyH_at 16 (some 19) (v := ?v216) (by decide) rfl (by kernel_rfl) (by kernel_rfl) (by kernel_rfl) (fun _ _ _ h => h) (Or.inl ⟨by rfl, ?y216⟩) (by assumption) ?r216
  case y216 => (intro w hSw; (try dsimp only at hSw); go_simp; (try with_reducible rfl))
  simp only [Act.put, List.setIfInBounds_toArray, List.set_cons_zero, List.set_cons_succ]
  refine wpAnyH_at 17 (some 20) (v := ?v217) (by decide) rfl (by kernel_rfl) (by kernel_rfl) (by kernel_rfl) (fun _ _ _ h => h) (Or.inl ⟨by rfl, ?y217⟩) (by assumption) ?r217
  case y217 => (intro w hSw; (try dsimp only at hSw); go_simp; (try with_reducible rfl))
  simp only [Act.put, List.setIfInBounds_toArray, List.set_cons_zero, List.set_cons_succ]
  refine wpAnyH_at 18 (some 21) (v := ?v218) (by decide) rfl (by kernel_rfl) (by kernel_rfl) (by kernel_rfl) (fun _ _ _ h => h) (Or.inl ⟨by rfl, ?y218⟩) (by assumption) ?r218
  case y218 => (intro w hSw; (try dsimp only at hSw); go_simp; (try with_reducible rfl))
  simp only [Act.put, List.setIfInBounds_toArray, List.set_cons_zero, List.set_cons_succ]
  refine wpAnyH_at 19 (some 22) (v := ?v219) (by decide) rfl (by kernel_rfl) (by kernel_rfl) (by kernel_rfl) (fun _ _ _ h => h) (Or.inl ⟨by rfl, ?y219⟩) (by assumption) ?r219
  case y219 => (intro w hSw; (try dsimp only at hSw); go_simp; (try with_reducible rfl))
  simp only [Act.put, List.setIfInBounds_toArray, List.set_cons_zero, List.set_cons_succ]
  refine wpAnyH_at 20 (some 23) (v := ?v220) (by decide) rfl (by kernel_rfl) (by kernel_rfl) (by kernel_rfl) (fun _ _ _ h => h) (Or.inl ⟨by rfl, ?y220⟩) (by assumption) ?r220
  case y220 => (intro w hSw; (try dsimp only at hSw); go_simp; (try with_reducible rfl))
  simp only [Act.put, List.setIfInBounds_toArray, List.set_cons_zero, List.set_cons_succ]
  refine wpAnyH_at 21 (some 24) (v := ?v221) (by decide) rfl (by kernel_rfl) (by kernel_rfl) (by kernel_rfl) (fun _ _ _ h => h) (Or.inl ⟨by rfl, ?y221⟩) (by assumption) ?r221
  case y221 => (intro w hSw; (try dsimp only at hSw); go_simp; (try with_reducible rfl))
  simp only [Act.put, List.setIfInBounds_toArray, List.set_cons_zero, List.set_cons_succ]
  refine wpAnyH_at 22 (some 25) (v := ?v222) (by decide) rfl (by kernel_rfl) (by kernel_rfl) (by kernel_rfl) (fun _ _ _ h => h) (Or.inl ⟨by rfl, ?y222⟩) (by assumption) ?r222
  case y222 => (intro w hSw; (try dsimp only at hSw); go_simp; (try with_reducible rfl))
  simp only [Act.put, List.setIfInBounds_toArray, List.set_cons_zero, List.set_cons_succ]
  refine wpAnyH_at 23 (some 26) (v := ?v223) (by decide) rfl (by kernel_rfl) (by kernel_rfl) (by kernel_rfl) (fun _ _ _ h => h) (Or.inl ⟨by rfl, ?y223⟩) (by assumption) ?r223
  case y223 => (intro w hSw; (try dsimp only at hSw); go_simp; (try with_reducible rfl))
  simp only [Act.put, List.setIfInBounds_toArray, List.set_cons_zero, List.set_cons_succ]
  refine wpAnyH_at 24 (some 27) (v := ?v224) (by decide) rfl (by kernel_rfl) (by kernel_rfl) (by kernel_rfl) (fun _ _ _ h => h) (Or.inl ⟨by rfl, ?y224⟩) (by assumption) ?r224
  case y224 => (intro w hSw; (try dsimp only at hSw); go_simp; (try with_reducible rfl))
  simp only [Act.put, List.setIfInBounds_toArray, List.set_cons_zero, List.set_cons_succ]
  refine wpAnyH_at 25 (some 28) (v := ?v225) (by decide) rfl (by kernel_rfl) (by kernel_rfl) (by kernel_rfl) (fun _ _ _ h => h) (Or.inl ⟨by rfl, ?y225⟩) (by assumption) ?r225
  case y225 => (intro w hSw; (try dsimp only at hSw); go_simp; (try with_reducible rfl))
  simp only [Act.put, List.setIfInBounds_toArray, List.set_cons_zero, List.set_cons_succ]
  refine wpAnyH_at 26 (some 29) (v := ?v226) (by decide) rfl (by kernel_rfl) (by kernel_rfl) (by kernel_rfl) (fun _ _ _ h => h) (Or.inl ⟨by rfl, ?y226⟩) (by assumption) ?r226
  case y226 => (intro w hSw; (try dsimp only at hSw); go_simp; (try with_reducible rfl))
  simp only [Act.put, List.setIfInBounds_toArray, List.set_cons_zero, List.set_cons_succ]
  refine wpAnyH_at 27 (some 30) (v := ?v227) (by decide) rfl (by kernel_rfl) (by kernel_rfl) (by kernel_rfl) (fun _ _ _ h => h) (Or.inl ⟨by rfl, ?y227⟩) (by assumption) ?r227
  case y227 => (intro w hSw; (try dsimp only at hSw); go_simp; (try with_reducible rfl))
  simp only [Act.put, List.setIfInBounds_toArray, List.set_cons_zero, List.set_cons_succ]
  refine wpAnyH_at 28 (some 31) (v := ?v228) (by decide) rfl (by kernel_rfl) (by kernel_rfl) (by kernel_rfl) (fun _ _ _ h => h) (Or.inl ⟨by rfl, ?y228⟩) (by assumption) ?r228
  case y228 => (intro w hSw; (try dsimp only at hSw); go_simp; (try with_reducible rfl))
  simp only [Act.put, List.setIfInBounds_toArray, List.set_cons_zero, List.set_cons_succ]
  refine wpAnyH_ready (rs := [29]) (by kernel_rfl) (by simp) ?_
  refine AllReadyH.cons rfl (fun K hK => ?_) AllReadyH.nil
  go_simp
  refine (copied_any (R := ⟨kd, ops, vv, k, t⟩) (by exact H.out.same ((Kept.refl _ _).alloc _).drew)).mono ?_
  rintro e w2 ⟨a, c2', rfl, hv2, hk2⟩
  have HV2 := hid hv2; have HK2 := hid hk2
  have d0 := HK2.out.cell c0 (fun h => h); have d1 := HK2.out.cell c1 (fun h => h); have d2 := HK2.out.cell c2 (fun h => h); have d3 := HK2.out.cell c3 (fun h => h)
  have s0 := HK2.out.cell r0 (fun h => h); have s1 := HK2.out.cell r1 (fun h => h); have s2 := HK2.out.cell r2 (fun h => h); have s3 := HK2.out.cell r3 (fun h => h); have s4 := HK2.out.cell r4 (fun h => h)
  have HN := hid ((HK2.out.block _ (row_lt N0.out) (fun h => h)).trans N0.out)
  clear hv2 hk2 hHeld c0 c1 c2 c3 r0 r1 r2 r3 r4
  try dsimp only []
  refine hK.out _ _ (by exact ⟨d0, d1, d2, d3, s0, s1, s2, s3, s4⟩) (fun hHeld => ?_)
  clear hK K
  try simp only [Act.put, List.setIfInBounds_toArray, List.set_cons_zero, List.set_cons_succ]
  refine wpAnyH_at 30 (some 33) (v := ?v230) (by decide) rfl (by kernel_rfl) (by kernel_rfl) (by kernel_rfl) (fun _ _ _ h => h) (Or.inl ⟨by rfl, ?y230⟩) (by assumption) ?r230
  case y230 => (intro w hSw; (try dsimp only at hSw); go_simp; (try with_reducible rfl))
  simp only [Act.put, List.setIfInBounds_toArray, List.set_cons_zero, List.set_cons_succ]
  refine wpAnyH_ready (rs := [31]) (by kernel_rfl) (by simp) ?_
  refine AllReadyH.cons rfl (fun K hK => ?_) AllReadyH.nil
  refine step_store_row (by rfl) 44 (.tmp 2) (.tmp 33) rfl (msgCells id (id % n) seq ⟨kd, ops, vv, k, t⟩ (.slice a ops.length c2')).toArray msgZero.toArray rfl ?e1 HN.out rfl infoM ?e2 ?_
  case e1 => rfl
  case e2 => simp [msgCells, Value.oneCell']
  intro w3 hb3 hk3
  try dsimp only []
  refine hK.out _ _ (by exact ⟨hk3.cell d0 hne1, hk3.cell d1 hne1, hk3.cell d2 hne1, hk3.cell d3 hne1, hk3.cell s0 hne2, hk3.cell s1 hne2, hk3.cell s2 hne2, hk3.cell s3 hne2, hk3.cell s4 hne2⟩) (fun hHeld => ?_)
  clear hK K
  try simp only [Act.put, List.setIfInBounds_toArray, List.set_cons_zero, List.set_cons_succ]
  refine wpAnyH_done (by kernel_rfl) ?_ _
  have HB3 := hid hb3; have HK3 := hid hk3
  clear hb3 hk3 hHeld
  go_wp2_with fail
  refine bodyPost_ret (results_row (fn := Try.f19) rfl (by rfl) HB3.out Try.underlying44 rfl (by exact infoM)) rfl ⟨a, c2', rfl, ?_, ?_⟩
  · exact (HV2.out.kept HK3.out fun g _ hg => by subst hg; simp).mono fun g _ hg => by simp; omega
  · exact ((((Kept.refl _ _).alloc _).drew).trans HK2.out).trans' HK3.out fun g hg => .inr (by omega)
end Go.Proofs.Ytnlbdlbinoebgaa
