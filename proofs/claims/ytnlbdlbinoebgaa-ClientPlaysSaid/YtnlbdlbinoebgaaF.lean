/- Receive of the right answer. -/
import Derived.Test.YtnlbdlbinoebgaaE
import Derived.Deep.RegionLaw
namespace Go.Proofs.Ytnlbdlbinoebgaa
open Go.RowKit

/-- an answer's message, empty -/
def rmCells (id seq : Int) : List Value := [.int .u8 2, .int .u8 0, .int .u8 0, .int .u8 0, .int .u32 0, .int .u32 0, .int .u64 0, .int .u32 0, .int .u8 id, .int .u32 seq, .int .u8 0, .slice none 0 0, .int .u32 0, .int .i64 0, .int .i64 0, .int .i64 0, .int .i64 0, .slice none 0 0, .slice none 0 0, .slice none 0 0, .slice none 0 0, .slice none 0 0, .slice none 0 0, .int .u64 0, .int .u64 0, .int .i64 0]
theorem rm_cells {w : World} {b : Nat} {id seq : Int} (h : w.heap[b]? = some (.cells (rmCells id seq).toArray 44 (0, 0))) : w.cell? ⟨b, 0, none⟩ = some (.int .u8 2) ∧ w.cell? ⟨b, 8, none⟩ = some (.int .u8 id) ∧ w.cell? ⟨b, 9, none⟩ = some (.int .u32 seq) ∧
    w.cell? ⟨b, 15, none⟩ = some (.int .i64 0) ∧ w.cell? ⟨b, 16, none⟩ = some (.int .i64 0) ∧ w.cell? ⟨b, 17, none⟩ = some (.slice none 0 0) ∧ w.cell? ⟨b, 18, none⟩ = some (.slice none 0 0) :=
  ⟨row_cell h 0, row_cell h 8, row_cell h 9, row_cell h 15, row_cell h 16, row_cell h 17, row_cell h 18⟩
def RecvPost (w : World) (cb : Nat) (id n seq : Int) (e : Ending) (w' : World) : Prop :=
  ∃ a c a2 c2, e = .returned (.tuple #[.agg #[.int .i64 0, .int .i64 0, .slice a 0 c, .slice a2 0 c2], .bool true]) ∧ w'.heap[cb]? = some (cliRow id n seq none) ∧ Kept (fun g => g = cb) w w'

theorem infoA : (Try.prog.info? 38).map (·.size) = some 4 := by kernel_rfl
set_option maxRecDepth 100000 in
set_option maxHeartbeats 8000000 in
theorem recv_ok {w : World} {cb rb : Nat} {id n seq : Int} (hc : w.heap[cb]? = some (cliRow id n seq (some ⟨rb, 0, none⟩))) :
    Calls Try.prog 11 #[.pointer (some ⟨cb, 0, none⟩), .agg (rmCells id seq).toArray] w (RecvPost w cb id n seq) := by
  have lc := row_lt hc
  have HC := hid hc
  have q1 : (id != id) = false := by simp
  have q2 : (seq != seq) = false := by simp
  have hn2 := two_new w (.cells (rmCells id seq).toArray 44) (.cells #[.int .i64 0, .int .i64 0, .slice none 0 0, .slice none 0 0] 38)
  have N2 := hid hn2
  obtain ⟨c0, c1, c2, c3, c4⟩ := cells4 (w := ((w.alloc (.cells (rmCells id seq).toArray 44)).alloc (.cells #[.int .i64 0, .int .i64 0, .slice none 0 0, .slice none 0 0] 38)).drew) (row_old (row_old hc _) _)
  obtain ⟨m0, m8, m9, m15, m16, m17, m18⟩ := rm_cells (w := ((w.alloc (.cells (rmCells id seq).toArray 44)).alloc (.cells #[.int .i64 0, .int .i64 0, .slice none 0 0, .slice none 0 0] 38)).drew) hn2.1
  clear hc hn2
  unfold rmCells at c0 c1 c2 c3 c4 m0 m8 m9 m15 m16 m17 m18 ⊢
  go_enter Try.func11, Try.ntmps11
  go_wp2_with fail
  refine wp_region_held_drew (S := fun w' => w'.cell? ⟨cb, 0, none⟩ = some (.int .u8 id) ∧ w'.cell? ⟨cb, 2, none⟩ = some (.int .u32 seq) ∧ w'.cell? ⟨cb, 3, none⟩ = some (.pointer (some ⟨rb, 0, none⟩)) ∧ w'.cell? ⟨w.heap.size, 0, none⟩ = some (.int .u8 2) ∧ w'.cell? ⟨w.heap.size, 8, none⟩ = some (.int .u8 id) ∧ w'.cell? ⟨w.heap.size, 9, none⟩ = some (.int .u32 seq)) (by kernel_rfl) (by exact ⟨c0, c2, c3, m0, m8, m9⟩) (fun hHeld => ?_)
  refine wpAnyH_at 0 (some 7) (v := ?v100) (by decide) rfl (by kernel_rfl) (by kernel_rfl) (by kernel_rfl) (fun _ _ _ h => h) (Or.inl ⟨by rfl, ?y100⟩) (by assumption) ?r100
  case y100 => (intro w hSw; (try dsimp only at hSw); go_simp; (try with_reducible rfl))
  simp only [Act.put, List.setIfInBounds_toArray, List.set_cons_zero, List.set_cons_succ]
  refine wpAnyH_at 1 (some 8) (v := ?v101) (by decide) rfl (by kernel_rfl) (by kernel_rfl) (by kernel_rfl) (fun _ _ _ h => h) (Or.inl ⟨by rfl, ?y101⟩) (by assumption) ?r101
  case y101 => (intro w hSw; (try dsimp only at hSw); go_simp; (try with_reducible rfl))
  simp only [Act.put, List.setIfInBounds_toArray, List.set_cons_zero, List.set_cons_succ]
  refine wpAnyH_at 2 (some 9) (v := ?v102) (by decide) rfl (by kernel_rfl) (by kernel_rfl) (by kernel_rfl) (fun _ _ _ h => h) (Or.inl ⟨by rfl, ?y102⟩) (by assumption) ?r102
  case y102 => (intro w hSw; (try dsimp only at hSw); go_simp; (try with_reducible rfl))
  simp only [Act.put, List.setIfInBounds_toArray, List.set_cons_zero, List.set_cons_succ]
  refine wpAnyH_at 3 (some 10) (v := ?v103) (by decide) rfl (by kernel_rfl) (by kernel_rfl) (by kernel_rfl) (fun _ _ _ h => h) (Or.inl ⟨by rfl, ?y103⟩) (by assumption) ?r103
  case y103 => (intro w hSw; (try dsimp only at hSw); go_simp; (try with_reducible rfl))
  simp only [Act.put, List.setIfInBounds_toArray, List.set_cons_zero, List.set_cons_succ]
  refine wpAnyH_at 4 (some 11) (v := ?v104) (by decide) rfl (by kernel_rfl) (by kernel_rfl) (by kernel_rfl) (fun _ _ _ h => h) (Or.inl ⟨by rfl, ?y104⟩) (by assumption) ?r104
  case y104 => (intro w hSw; (try dsimp only at hSw); go_simp; (try with_reducible rfl))
  simp only [Act.put, List.setIfInBounds_toArray, List.set_cons_zero, List.set_cons_succ]
  refine wpAnyH_at 5 (some 12) (v := ?v105) (by decide) rfl (by kernel_rfl) (by kernel_rfl) (by kernel_rfl) (fun _ _ _ h => h) (Or.inl ⟨by rfl, ?y105⟩) (by assumption) ?r105
  case y105 => (intro w hSw; (try dsimp only at hSw); go_simp; (try with_reducible rfl))
  simp only [Act.put, List.setIfInBounds_toArray, List.set_cons_zero, List.set_cons_succ]
  refine wpAnyH_at 6 (some 13) (v := ?v106) (by decide) rfl (by kernel_rfl) (by kernel_rfl) (by kernel_rfl) (fun _ _ _ h => h) (Or.inl ⟨by rfl, ?y106⟩) (by assumption) ?r106
  case y106 => (intro w hSw; (try dsimp only at hSw); go_simp; (try with_reducible rfl))
  simp only [Act.put, List.setIfInBounds_toArray, List.set_cons_zero, List.set_cons_succ]
  refine wpAnyH_at 7 (some 14) (v := ?v107) (by decide) rfl (by kernel_rfl) (by kernel_rfl) (by kernel_rfl) (fun _ _ _ h => h) (Or.inl ⟨by rfl, ?y107⟩) (by assumption) ?r107
  case y107 => (intro w hSw; (try dsimp only at hSw); go_simp; (try with_reducible rfl))
  simp only [Act.put, List.setIfInBounds_toArray, List.set_cons_zero, List.set_cons_succ]
  refine wpAnyH_at 8 (some 15) (v := ?v108) (by decide) rfl (by kernel_rfl) (by kernel_rfl) (by kernel_rfl) (fun _ _ _ h => h) (Or.inl ⟨by rfl, ?y108⟩) (by assumption) ?r108
  case y108 => (intro w hSw; (try dsimp only at hSw); go_simp; (try with_reducible rfl))
  simp only [Act.put, List.setIfInBounds_toArray, List.set_cons_zero, List.set_cons_succ]
  refine wpAnyH_at 9 (some 16) (v := ?v109) (by decide) rfl (by kernel_rfl) (by kernel_rfl) (by kernel_rfl) (fun _ _ _ h => h) (Or.inl ⟨by rfl, ?y109⟩) (by assumption) ?r109
  case y109 => (intro w hSw; (try dsimp only at hSw); go_simp; (try with_reducible rfl))
  simp only [Act.put, List.setIfInBounds_toArray, List.set_cons_zero, List.set_cons_succ]
  refine wpAnyH_at 10 (some 17) (v := ?v110) (by decide) rfl (by kernel_rfl) (by kernel_rfl) (by kernel_rfl) (fun _ _ _ h => h) (Or.inl ⟨by rfl, ?y110⟩) (by assumption) ?r110
  case y110 => (intro w hSw; (try dsimp only at hSw); go_simp; (try with_reducible rfl))
  simp only [Act.put, List.setIfInBounds_toArray, List.set_cons_zero, List.set_cons_succ]
  refine wpAnyH_at 11 (some 18) (v := ?v111) (by decide) rfl (by kernel_rfl) (by kernel_rfl) (by kernel_rfl) (fun _ _ _ h => h) (Or.inl ⟨by rfl, ?y111⟩) (by assumption) ?r111
  case y111 => (intro w hSw; (try dsimp only at hSw); go_simp; (try with_reducible rfl))
  simp only [Act.put, List.setIfInBounds_toArray, List.set_cons_zero, List.set_cons_succ]
  refine wpAnyH_at 12 (some 19) (v := ?v112) (by decide) rfl (by kernel_rfl) (by kernel_rfl) (by kernel_rfl) (fun _ _ _ h => h) (Or.inl ⟨by rfl, ?y112⟩) (by assumption) ?r112
  case y112 => (intro w hSw; (try dsimp only at hSw); go_simp; (try with_reducible rfl))
  simp only [Act.put, List.setIfInBounds_toArray, List.set_cons_zero, List.set_cons_succ]
  refine wpAnyH_at 13 (some 20) (v := ?v113) (by decide) rfl (by kernel_rfl) (by kernel_rfl) (by kernel_rfl) (fun _ _ _ h => h) (Or.inl ⟨by rfl, ?y113⟩) (by assumption) ?r113
  case y113 => (intro w hSw; (try dsimp only at hSw); go_simp; (try with_reducible rfl))
  simp only [Act.put, List.setIfInBounds_toArray, List.set_cons_zero, List.set_cons_succ]
  refine wpAnyH_at 14 (some 21) (v := ?v114) (by decide) rfl (by kernel_rfl) (by kernel_rfl) (by kernel_rfl) (fun _ _ _ h => h) (Or.inl ⟨by rfl, ?y114⟩) (by assumption) ?r114
  case y114 => (intro w hSw; (try dsimp only at hSw); go_simp; (try with_reducible rfl))
  simp only [Act.put, List.setIfInBounds_toArray, List.set_cons_zero, List.set_cons_succ]
  refine wpAnyH_at 15 (some 22) (v := ?v115) (by decide) rfl (by kernel_rfl) (by kernel_rfl) (by kernel_rfl) (fun _ _ _ h => h) (Or.inl ⟨by rfl, ?y115⟩) (by assumption) ?r115
  case y115 => (intro w hSw; (try dsimp only at hSw); go_simp; (try with_reducible rfl))
  simp only [Act.put, List.setIfInBounds_toArray, List.set_cons_zero, List.set_cons_succ]
  refine wpAnyH_at 16 (some 23) (v := ?v116) (by decide) rfl (by kernel_rfl) (by kernel_rfl) (by kernel_rfl) (fun _ _ _ h => h) (Or.inl ⟨by rfl, ?y116⟩) (by assumption) ?r116
  case y116 => (intro w hSw; (try dsimp only at hSw); go_simp; (try with_reducible rfl))
  simp only [Act.put, List.setIfInBounds_toArray, List.set_cons_zero, List.set_cons_succ]
  refine wpAnyH_at 17 (some 24) (v := ?v117) (by decide) rfl (by kernel_rfl) (by kernel_rfl) (by kernel_rfl) (fun _ _ _ h => h) (Or.inl ⟨by rfl, ?y117⟩) (by assumption) ?r117
  case y117 => (intro w hSw; (try dsimp only at hSw); go_simp; (try with_reducible rfl))
  simp only [Act.put, List.setIfInBounds_toArray, List.set_cons_zero, List.set_cons_succ]
  refine wpAnyH_at 18 (some 25) (v := ?v118) (by decide) rfl (by kernel_rfl) (by kernel_rfl) (by kernel_rfl) (fun _ _ _ h => h) (Or.inl ⟨by rfl, ?y118⟩) (by assumption) ?r118
  case y118 => (intro w hSw; (try dsimp only at hSw); go_simp; (try with_reducible rfl))
  simp only [Act.put, List.setIfInBounds_toArray, List.set_cons_zero, List.set_cons_succ]
  refine wpAnyH_at 19 (some 26) (v := ?v119) (by decide) rfl (by kernel_rfl) (by kernel_rfl) (by kernel_rfl) (fun _ _ _ h => h) (Or.inl ⟨by rfl, ?y119⟩) (by assumption) ?r119
  case y119 => (intro w hSw; (try dsimp only at hSw); go_simp; (try with_reducible rfl))
  simp only [Act.put, List.setIfInBounds_toArray, List.set_cons_zero, List.set_cons_succ]
  refine wpAnyH_at 20 (some 27) (v := ?v120) (by decide) rfl (by kernel_rfl) (by kernel_rfl) (by kernel_rfl) (fun _ _ _ h => h) (Or.inl ⟨by rfl, ?y120⟩) (by assumption) ?r120
  case y120 => (intro w hSw; (try dsimp only at hSw); go_simp; (try with_reducible rfl))
  simp only [Act.put, List.setIfInBounds_toArray, List.set_cons_zero, List.set_cons_succ]
  refine wpAnyH_at 21 (some 28) (v := ?v121) (by decide) rfl (by kernel_rfl) (by kernel_rfl) (by kernel_rfl) (fun _ _ _ h => h) (Or.inl ⟨by rfl, ?y121⟩) (by assumption) ?r121
  case y121 => (intro w hSw; (try dsimp only at hSw); go_simp; (try with_reducible rfl))
  simp only [Act.put, List.setIfInBounds_toArray, List.set_cons_zero, List.set_cons_succ]
  refine wpAnyH_at 22 (some 29) (v := ?v122) (by decide) rfl (by kernel_rfl) (by kernel_rfl) (by kernel_rfl) (fun _ _ _ h => h) (Or.inl ⟨by rfl, ?y122⟩) (by assumption) ?r122
  case y122 => (intro w hSw; (try dsimp only at hSw); go_simp; (try with_reducible rfl))
  simp only [Act.put, List.setIfInBounds_toArray, List.set_cons_zero, List.set_cons_succ]
  refine wpAnyH_at 23 (some 30) (v := ?v123) (by decide) rfl (by kernel_rfl) (by kernel_rfl) (by kernel_rfl) (fun _ _ _ h => h) (Or.inl ⟨by rfl, ?y123⟩) (by assumption) ?r123
  case y123 => (intro w hSw; (try dsimp only at hSw); go_simp; (try with_reducible rfl))
  simp only [Act.put, List.setIfInBounds_toArray, List.set_cons_zero, List.set_cons_succ]
  refine wpAnyH_at 24 (some 31) (v := ?v124) (by decide) rfl (by kernel_rfl) (by kernel_rfl) (by kernel_rfl) (fun _ _ _ h => h) (Or.inl ⟨by rfl, ?y124⟩) (by assumption) ?r124
  case y124 => (intro w hSw; (try dsimp only at hSw); go_simp; (try with_reducible rfl))
  simp only [Act.put, List.setIfInBounds_toArray, List.set_cons_zero, List.set_cons_succ]
  refine wpAnyH_at 25 (some 32) (v := ?v125) (by decide) rfl (by kernel_rfl) (by kernel_rfl) (by kernel_rfl) (fun _ _ _ h => h) (Or.inl ⟨by rfl, ?y125⟩) (by assumption) ?r125
  case y125 => (intro w hSw; (try dsimp only at hSw); go_simp; (try with_reducible rfl))
  simp only [Act.put, List.setIfInBounds_toArray, List.set_cons_zero, List.set_cons_succ]
  refine wpAnyH_at 26 (some 33) (v := ?v126) (by decide) rfl (by kernel_rfl) (by kernel_rfl) (by kernel_rfl) (fun _ _ _ h => h) (Or.inl ⟨by rfl, ?y126⟩) (by assumption) ?r126
  case y126 => (intro w hSw; (try dsimp only at hSw); go_simp; (try with_reducible rfl))
  simp only [Act.put, List.setIfInBounds_toArray, List.set_cons_zero, List.set_cons_succ]
  refine wpAnyH_at 27 (some 34) (v := ?v127) (by decide) rfl (by kernel_rfl) (by kernel_rfl) (by kernel_rfl) (fun _ _ _ h => h) (Or.inl ⟨by rfl, ?y127⟩) (by assumption) ?r127
  case y127 => (intro w hSw; (try dsimp only at hSw); go_simp; (try with_reducible rfl))
  simp only [Act.put, List.setIfInBounds_toArray, List.set_cons_zero, List.set_cons_succ]
  refine wpAnyH_at 28 (some 35) (v := ?v128) (by decide) rfl (by kernel_rfl) (by kernel_rfl) (by kernel_rfl) (fun _ _ _ h => h) (Or.inl ⟨by rfl, ?y128⟩) (by assumption) ?r128
  case y128 => (intro w hSw; (try dsimp only at hSw); go_simp; (try with_reducible rfl))
  simp only [Act.put, List.setIfInBounds_toArray, List.set_cons_zero, List.set_cons_succ]
  refine wpAnyH_at 29 (some 36) (v := ?v129) (by decide) rfl (by kernel_rfl) (by kernel_rfl) (by kernel_rfl) (fun _ _ _ h => h) (Or.inl ⟨by rfl, ?y129⟩) (by assumption) ?r129
  case y129 => (intro w hSw; (try dsimp only at hSw); go_simp; (try with_reducible rfl))
  simp only [Act.put, List.setIfInBounds_toArray, List.set_cons_zero, List.set_cons_succ]
  refine wpAnyH_at 30 (some 37) (v := ?v130) (by decide) rfl (by kernel_rfl) (by kernel_rfl) (by kernel_rfl) (fun _ _ _ h => h) (Or.inl ⟨by rfl, ?y130⟩) (by assumption) ?r130
  case y130 => (intro w hSw; (try dsimp only at hSw); go_simp; (try with_reducible rfl))
  simp only [Act.put, List.setIfInBounds_toArray, List.set_cons_zero, List.set_cons_succ]
  refine wpAnyH_at 31 (some 38) (v := ?v131) (by decide) rfl (by kernel_rfl) (by kernel_rfl) (by kernel_rfl) (fun _ _ _ h => h) (Or.inl ⟨by rfl, ?y131⟩) (by assumption) ?r131
  case y131 => (intro w hSw; (try dsimp only at hSw); go_simp; (try with_reducible rfl))
  simp only [Act.put, List.setIfInBounds_toArray, List.set_cons_zero, List.set_cons_succ]
  refine wpAnyH_done (by kernel_rfl) ?_ _
  clear hHeld
  go_wp2_with fail
  have hb2 := two_new ((w.setCell ⟨cb, 3, none⟩ (.pointer none)).alloc (.cells #[.int .u8 2, .int .u8 0, .int .u8 0, .int .u8 0, .int .u32 0, .int .u32 0, .int .u64 0, .int .u32 0, .int .u8 id, .int .u32 seq, .int .u8 0, .slice none 0 0, .int .u32 0, .int .i64 0, .int .i64 0, .int .i64 0, .int .i64 0, .slice none 0 0, .slice none 0 0, .slice none 0 0, .slice none 0 0, .slice none 0 0, .slice none 0 0, .int .u64 0, .int .u64 0, .int .i64 0] 44)) (.cells #[.int .i64 0, .int .i64 0, .slice none 0 0, .slice none 0 0] 38) (.cells #[.int .i64 0, .int .i64 0, .slice none 0 0, .slice none 0 0] 38)
  have hd := (row_old (row_old (row_old (row_set HC.out 3 (.pointer none)) (.cells #[.int .u8 2, .int .u8 0, .int .u8 0, .int .u8 0, .int .u32 0, .int .u32 0, .int .u64 0, .int .u32 0, .int .u8 id, .int .u32 seq, .int .u8 0, .slice none 0 0, .int .u32 0, .int .i64 0, .int .i64 0, .int .i64 0, .int .i64 0, .slice none 0 0, .slice none 0 0, .slice none 0 0, .slice none 0 0, .slice none 0 0, .slice none 0 0, .int .u64 0, .int .u64 0, .int .i64 0] 44)) (.cells #[.int .i64 0, .int .i64 0, .slice none 0 0, .slice none 0 0] 38)) (.cells #[.int .i64 0, .int .i64 0, .slice none 0 0, .slice none 0 0] 38))
  have hkk : Kept (fun g => g = cb) w ((((w.setCell ⟨cb, 3, none⟩ (.pointer none)).alloc (.cells #[.int .u8 2, .int .u8 0, .int .u8 0, .int .u8 0, .int .u32 0, .int .u32 0, .int .u64 0, .int .u32 0, .int .u8 id, .int .u32 seq, .int .u8 0, .slice none 0 0, .int .u32 0, .int .i64 0, .int .i64 0, .int .i64 0, .int .i64 0, .slice none 0 0, .slice none 0 0, .slice none 0 0, .slice none 0 0, .slice none 0 0, .slice none 0 0, .int .u64 0, .int .u64 0, .int .i64 0] 44)).alloc (.cells #[.int .i64 0, .int .i64 0, .slice none 0 0, .slice none 0 0] 38)).alloc (.cells #[.int .i64 0, .int .i64 0, .slice none 0 0, .slice none 0 0] 38)).drew := ((((((Kept.refl (fun g => g = cb) w).setCell (p := ⟨cb, 3, none⟩) (.inl rfl) (.pointer none)).alloc _).alloc _).alloc _).drew)
  have hsz : (w.setCell ⟨cb, 3, none⟩ (.pointer none)).heap.size = w.heap.size := by simp
  have hz1 : ((w.setCell ⟨cb, 3, none⟩ (.pointer none)).alloc (.cells #[.int .u8 2, .int .u8 0, .int .u8 0, .int .u8 0, .int .u32 0, .int .u32 0, .int .u64 0, .int .u32 0, .int .u8 id, .int .u32 seq, .int .u8 0, .slice none 0 0, .int .u32 0, .int .i64 0, .int .i64 0, .int .i64 0, .int .i64 0, .slice none 0 0, .slice none 0 0, .slice none 0 0, .slice none 0 0, .slice none 0 0, .slice none 0 0, .int .u64 0, .int .u64 0, .int .i64 0] 44)).heap.size = w.heap.size + 1 := by simp
  rw [hz1] at hb2
  have HB1 := hid (show ((((w.setCell ⟨cb, 3, none⟩ (.pointer none)).alloc (.cells #[.int .u8 2, .int .u8 0, .int .u8 0, .int .u8 0, .int .u32 0, .int .u32 0, .int .u64 0, .int .u32 0, .int .u8 id, .int .u32 seq, .int .u8 0, .slice none 0 0, .int .u32 0, .int .i64 0, .int .i64 0, .int .i64 0, .int .i64 0, .slice none 0 0, .slice none 0 0, .slice none 0 0, .slice none 0 0, .slice none 0 0, .slice none 0 0, .int .u64 0, .int .u64 0, .int .i64 0] 44)).alloc (.cells #[.int .i64 0, .int .i64 0, .slice none 0 0, .slice none 0 0] 38)).alloc (.cells #[.int .i64 0, .int .i64 0, .slice none 0 0, .slice none 0 0] 38)).drew.heap[w.heap.size + 1]? = _ from hb2.1)
  have HB2 := hid (show ((((w.setCell ⟨cb, 3, none⟩ (.pointer none)).alloc (.cells #[.int .u8 2, .int .u8 0, .int .u8 0, .int .u8 0, .int .u32 0, .int .u32 0, .int .u64 0, .int .u32 0, .int .u8 id, .int .u32 seq, .int .u8 0, .slice none 0 0, .int .u32 0, .int .i64 0, .int .i64 0, .int .i64 0, .int .i64 0, .slice none 0 0, .slice none 0 0, .slice none 0 0, .slice none 0 0, .slice none 0 0, .slice none 0 0, .int .u64 0, .int .u64 0, .int .i64 0] 44)).alloc (.cells #[.int .i64 0, .int .i64 0, .slice none 0 0, .slice none 0 0] 38)).alloc (.cells #[.int .i64 0, .int .i64 0, .slice none 0 0, .slice none 0 0] 38)).drew.heap[w.heap.size + 1 + 1]? = _ from hb2.2)
  have HD := hid (show ((((w.setCell ⟨cb, 3, none⟩ (.pointer none)).alloc (.cells #[.int .u8 2, .int .u8 0, .int .u8 0, .int .u8 0, .int .u32 0, .int .u32 0, .int .u64 0, .int .u32 0, .int .u8 id, .int .u32 seq, .int .u8 0, .slice none 0 0, .int .u32 0, .int .i64 0, .int .i64 0, .int .i64 0, .int .i64 0, .slice none 0 0, .slice none 0 0, .slice none 0 0, .slice none 0 0, .slice none 0 0, .slice none 0 0, .int .u64 0, .int .u64 0, .int .i64 0] 44)).alloc (.cells #[.int .i64 0, .int .i64 0, .slice none 0 0, .slice none 0 0] 38)).alloc (.cells #[.int .i64 0, .int .i64 0, .slice none 0 0, .slice none 0 0] 38)).drew.heap[cb]? = _ from hd)
  have HKK := hid hkk
  clear hb2 hd hkk hsz hz1 c0 c1 c2 c3 c4 m0 m8 m9 m15 m16 m17 m18 N2
  generalize ((((w.setCell ⟨cb, 3, none⟩ (.pointer none)).alloc (.cells #[.int .u8 2, .int .u8 0, .int .u8 0, .int .u8 0, .int .u32 0, .int .u32 0, .int .u64 0, .int .u32 0, .int .u8 id, .int .u32 seq, .int .u8 0, .slice none 0 0, .int .u32 0, .int .i64 0, .int .i64 0, .int .i64 0, .int .i64 0, .slice none 0 0, .slice none 0 0, .slice none 0 0, .slice none 0 0, .slice none 0 0, .slice none 0 0, .int .u64 0, .int .u64 0, .int .i64 0] 44)).alloc (.cells #[.int .i64 0, .int .i64 0, .slice none 0 0, .slice none 0 0] 38)).alloc (.cells #[.int .i64 0, .int .i64 0, .slice none 0 0, .slice none 0 0] 38)).drew = W5 at HB1 HB2 HD HKK ⊢
  obtain ⟨x0, x1, x2, x3, x4⟩ := cells4 HB2.out
  go_region_law (first
    | (go_simp; go_at_call 20; refine (cloneV_in _ 0 [] _ (Lies.nil (fun _ => False) _ _) (by decide) (by simp)).mono ?_; rintro e w6 ⟨a1, d1, rfl, _, hk6⟩; have HK6 := hid hk6.of_drew; have hq := (HK6.out.block _ (row_lt HB2.out) (fun h => h)).trans HB2.out; obtain ⟨x0, x1, x2, x3, x4⟩ := cells4 hq; have HQ := hid hq; clear hk6 hq)
    | (go_simp; go_at_call 21; refine (cloneN_in _ 0 [] _ (Lies.nil (fun _ => False) _ _) (by decide) (by simp)).mono ?_; rintro e w7 ⟨a2, d2, rfl, _, hk7⟩; have HK7 := hid hk7; clear x0 x1 x2 x3 x4; have hq := (HK7.out.block _ (row_lt HQ.out) (fun h => h)).trans HQ.out; obtain ⟨x0, x1, x2, x3, x4⟩ := cells4 hq; have HQ7 := hid hq; clear hk7 hq))
  all_goals
    have HZ7 := hid ((HK7.out.block _ (Nat.lt_of_lt_of_le (row_lt HB1.out) HK6.out.size) (fun h => h)).trans ((HK6.out.block _ (row_lt HB1.out) (fun h => h)).trans HB1.out))
    have HD7 := hid ((HK7.out.block _ (Nat.lt_of_lt_of_le (row_lt HD.out) HK6.out.size) (fun h => h)).trans ((HK6.out.block _ (row_lt HD.out) (fun h => h)).trans HD.out))
    have hz := row_other (row_other HZ7.out (a := ⟨w.heap.size + 1 + 1, 2, none⟩) (by simp) (.slice a1 0 d1)) (a := ⟨w.heap.size + 1 + 1, 3, none⟩) (by simp) (.slice a2 0 d2)
    obtain ⟨z0, z1, z2, z3, z4⟩ := cells4 hz
    have HR := hid (set4 hz (.int .i64 0) (.int .i64 0) (.slice a1 0 d1) (.slice a2 0 d2))
    have HKc := hid (((((((HKK.out.trans' (HK6.out.mono (G := fun g => g = cb) (fun _ _ h => h.elim)) (fun g hg => .inl hg)).trans' (HK7.out.mono (G := fun g => g = cb) (fun _ _ h => h.elim)) (fun g hg => .inl hg)).setCell (p := ⟨w.heap.size + 1 + 1, 2, none⟩) (.inr (by simp; omega)) (.slice a1 0 d1)).setCell (p := ⟨w.heap.size + 1 + 1, 3, none⟩) (.inr (by simp; omega)) (.slice a2 0 d2)).setCell (p := ⟨w.heap.size + 1, 0, none⟩) (.inr (by simp)) (.int .i64 0)).setCell (p := ⟨w.heap.size + 1, 1, none⟩) (.inr (by simp)) (.int .i64 0)).setCell (p := ⟨w.heap.size + 1, 2, none⟩) (.inr (by simp)) (.slice a1 0 d1) |>.setCell (p := ⟨w.heap.size + 1, 3, none⟩) (.inr (by simp)) (.slice a2 0 d2))
    have HDc := hid (row_other (row_other (row_other (row_other (row_other (row_other HD7.out (a := ⟨w.heap.size + 1 + 1, 2, none⟩) (by simp; omega) (.slice a1 0 d1)) (a := ⟨w.heap.size + 1 + 1, 3, none⟩) (by simp; omega) (.slice a2 0 d2)) (a := ⟨w.heap.size + 1, 0, none⟩) (by simp; omega) (.int .i64 0)) (a := ⟨w.heap.size + 1, 1, none⟩) (by simp; omega) (.int .i64 0)) (a := ⟨w.heap.size + 1, 2, none⟩) (by simp; omega) (.slice a1 0 d1)) (a := ⟨w.heap.size + 1, 3, none⟩) (by simp; omega) (.slice a2 0 d2))
    clear hz
    go_wp2_with fail
    refine bodyPost_ret (results_row_tmp (fn := Try.f11) rfl (by rfl) rfl HR.out Try.underlying38 rfl (by exact infoA)) rfl ⟨a1, d1, a2, d2, rfl, HDc.out, HKc.out⟩
end Go.Proofs.Ytnlbdlbinoebgaa
