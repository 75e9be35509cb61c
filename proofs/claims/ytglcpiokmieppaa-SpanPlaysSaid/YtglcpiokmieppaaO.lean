/- Meet. -/
import Derived.Test.YtglcpiokmieppaaN
import Derived.Test.YtglcpiokmieppaaReg
namespace Go.Proofs.Ytglcpiokmieppaa
open Go.RowKit

theorem cell2' {w : World} {b : Nat} {x y : Value} {T : TypeId} (h : w.heap[b]? = some (.cells #[x, y] T (0, 0))) : w.cell? ⟨b, 0, none⟩ = some x ∧ w.cell? ⟨b, 1, none⟩ = some y ∧ ∀ i, w.frozen? ⟨b, i, none⟩ = false := by
  have h0 := row_cell h 0
  have h1 := row_cell h 1
  simp at h0 h1
  exact ⟨h0, h1, fun i => row_free h i⟩
theorem SetAt.facts {F : Nat → Prop} {W : World} {sb : Nat} {C : List Sp} (h : SetAt F W sb C) : ∃ ao cap, W.heap[sb]? = some (.cells #[.slice ao C.length cap] 66 (0, 0)) ∧ Own W 46 2 (.slice ao C.length cap) C.length (scells C) ∧ (∀ g, (Value.slice ao C.length cap).ownBlock = some g → F g) ∧
      W.cell? ⟨sb, 0, none⟩ = some (.slice ao C.length cap) ∧ W.frozen? ⟨sb, 0, none⟩ = false := by
  obtain ⟨ao, cap, g1, g2, g3⟩ := h.c
  exact ⟨ao, cap, g1, g2, g3, by have := row_cell g1 0; simpa using this, row_free g1 0⟩
def MeetPost (w : World) (S : List Sp) (e : Ending) (w' : World) : Prop := e = .returned (.tuple #[.pointer (some ⟨w.heap.size, 0, none⟩), .int .i64 0]) ∧ SetAt (fun g => w.heap.size ≤ g) w' w.heap.size S ∧ Kept (fun _ => False) w w'
set_option maxHeartbeats 1000000 in
theorem meet_none (sa : Nat) (w : World) : Calls Try.prog 23 #[.pointer (some ⟨sa, 0, none⟩), .pointer none] w fun e w' => e = .returned (.tuple #[.pointer none, .int .i64 6]) ∧ w = w' := by
  go_enter Try.func23, Try.ntmps23
  go_wp2
  go_ret2
  exact ⟨rfl, rfl⟩
set_option maxRecDepth 100000 in
set_option maxHeartbeats 4000000 in
theorem meet_any {F G : Nat → Prop} {w : World} {sa sb : Nat} {A B : List Sp} (h : SetAt F w sa A) (k : SetAt G w sb B) :
    Calls Try.prog 23 #[.pointer (some ⟨sa, 0, none⟩), .pointer (some ⟨sb, 0, none⟩)] w (MeetPost w (meet A B)) := by
  obtain ⟨aA, cA, a1, a2, a3, a4, a5⟩ := h.facts
  obtain ⟨aB, cB, b1, b2, b3, b4, b5⟩ := k.facts
  have HA := hid h; have HB := hid k; have A2 := hid a2; have B2 := hid b2
  have nA := h.n; have nB := k.n
  have hL := (meet_law h.g k.g).1
  have HL := hid hL
  clear h k a1 a2 a3 a5 b1 b2 b3 b5 hL
  go_enter Try.func23, Try.ntmps23
  go_wp2_with fail
  refine (new_any _).mono ?_
  rintro e w1 ⟨rfl, hs, hk⟩
  have HS := hid (hs.mono (G := fun g => w.heap.size ≤ g) (fun g h => by omega)); have HK := hid hk
  clear hs hk
  go_wp2_with fail
  go_loopw [7, 8] (fun x y wr => ∃ (i j : Nat) (out : List Sp), i ≤ A.length ∧ j ≤ B.length ∧ x = .int .i64 i ∧ y = .int .i64 j ∧ Kept (fun _ => False) w wr ∧ SetAt (fun g => w.heap.size ≤ g) wr w.heap.size out ∧ out ++ meet (A.drop i) (B.drop j) = meet A B) (fun x y _ => (A.length - (intOf x).toNat) + (B.length - (intOf y).toNat))
  case atStart => exact ⟨0, 0, [], Nat.zero_le _, Nat.zero_le _, rfl, rfl, HK.out, HS.out, by simp⟩
  case round =>
    clear HS HK
    obtain ⟨i, j, out, hi, hj, rfl, rfl, hk, hs, hm⟩ := hrel
    have HK := hid hk; have HS := hid hs; have HM := hid hm
    obtain ⟨_, _, hrw, _⟩ := hs.facts
    have HRW := hid hrw; clear hrw
    have cA0 := hk.cell a4 id
    have cB0 := hk.cell b4 id
    clear hk hs hm
    by_cases hiA : i < A.length
    · have hiI : (i : Int) < (A.length : Int) := by omega
      by_cases hjB : j < B.length
      · have hjI : (j : Int) < (B.length : Int) := by omega
        obtain ⟨ga, ca, e, l1, l2, y0, y1⟩ := own_at2 A2.out i hiA
        simp only [Value.slice.injEq] at e
        obtain ⟨rfl, _, rfl⟩ := e
        obtain ⟨gb, cb, e, l3, l4, y2, y3⟩ := own_at2 B2.out j hjB
        simp only [Value.slice.injEq] at e
        obtain ⟨rfl, _, rfl⟩ := e
        have z0 := HK.out.cell y0 id
        have z1 := HK.out.cell y1 id
        have z2 := HK.out.cell y2 id
        have z3 := HK.out.cell y3 id
        clear y0 y1 y2 y3
        go_wp2_with fail
        obtain ⟨⟨p, q⟩, hax⟩ : ∃ sx, A[i]'hiA = sx := ⟨_, rfl⟩
        obtain ⟨⟨u, v⟩, hbx⟩ : ∃ sx, B[j]'hjB = sx := ⟨_, rfl⟩
        rw [hax] at z0 z1
        rw [hbx] at z2 z3
        simp only at z0 z1 z2 z3
        have HAX := hid hax; have HBX := hid hbx; clear hax hbx
        have hss : ∀ W, Kept (fun _ => False) wr W → (fun w' : World => w'.cell? ⟨sa, 0, none⟩ = some (.slice (some ⟨ga, 0, none⟩) A.length cA) ∧ w'.cell? ⟨sb, 0, none⟩ = some (.slice (some ⟨gb, 0, none⟩) B.length cB) ∧ w'.cell? ⟨ga, i * 2, none⟩ = some (.int .u32 p) ∧ w'.cell? ⟨ga, i * 2 + 1, none⟩ = some (.int .u32 q) ∧ w'.cell? ⟨gb, j * 2, none⟩ = some (.int .u32 u) ∧ w'.cell? ⟨gb, j * 2 + 1, none⟩ = some (.int .u32 v)) W := fun W hk => ⟨hk.cell cA0 id, hk.cell cB0 id, hk.cell z0 id, hk.cell z1 id, hk.cell z2 id, hk.cell z3 id⟩
        have HSS := hid hss; clear hss
        refine wp_region_held_drew (S := fun w' => w'.cell? ⟨sa, 0, none⟩ = some (.slice (some ⟨ga, 0, none⟩) A.length cA) ∧ w'.cell? ⟨sb, 0, none⟩ = some (.slice (some ⟨gb, 0, none⟩) B.length cB) ∧ w'.cell? ⟨ga, i * 2, none⟩ = some (.int .u32 p) ∧ w'.cell? ⟨ga, i * 2 + 1, none⟩ = some (.int .u32 q) ∧ w'.cell? ⟨gb, j * 2, none⟩ = some (.int .u32 u) ∧ w'.cell? ⟨gb, j * 2 + 1, none⟩ = some (.int .u32 v)) (by kernel_rfl) (by exact ⟨cA0, cB0, z0, z1, z2, z3⟩) (fun hHeld => ?_)
        refine wpAnyH_at 0 (some 36) (v := ?v100) (by decide) rfl (by kernel_rfl) (by kernel_rfl) (by kernel_rfl) (fun _ _ _ h => h) (Or.inl ⟨by rfl, ?y100⟩) (by assumption) ?r100
        case y100 => (intro w hSw; (try dsimp only at hSw); go_simp; (try with_reducible rfl))
        simp only [Act.put, List.setIfInBounds_toArray, List.set_cons_zero, List.set_cons_succ]
        refine wpAnyH_at 1 (some 37) (v := ?v101) (by decide) rfl (by kernel_rfl) (by kernel_rfl) (by kernel_rfl) (fun _ _ _ h => h) (Or.inl ⟨by rfl, ?y101⟩) (by assumption) ?r101
        case y101 => (intro w hSw; (try dsimp only at hSw); go_simp; (try with_reducible rfl))
        simp only [Act.put, List.setIfInBounds_toArray, List.set_cons_zero, List.set_cons_succ]
        refine wpAnyH_at 2 (some 38) (v := ?v102) (by decide) rfl (by kernel_rfl) (by kernel_rfl) (by kernel_rfl) (fun _ _ _ h => h) (Or.inl ⟨by rfl, ?y102⟩) (by assumption) ?r102
        case y102 => (intro w hSw; (try dsimp only at hSw); go_simp; (try with_reducible rfl))
        simp only [Act.put, List.setIfInBounds_toArray, List.set_cons_zero, List.set_cons_succ]
        refine wpAnyH_at 3 (some 39) (v := ?v103) (by decide) rfl (by kernel_rfl) (by kernel_rfl) (by kernel_rfl) (fun _ _ _ h => h) (Or.inl ⟨by rfl, ?y103⟩) (by assumption) ?r103
        case y103 => (intro w hSw; (try dsimp only at hSw); go_simp; (try with_reducible rfl))
        simp only [Act.put, List.setIfInBounds_toArray, List.set_cons_zero, List.set_cons_succ]
        refine wpAnyH_at 4 (some 40) (v := ?v104) (by decide) rfl (by kernel_rfl) (by kernel_rfl) (by kernel_rfl) (fun _ _ _ h => h) (Or.inl ⟨by rfl, ?y104⟩) (by assumption) ?r104
        case y104 => (intro w hSw; (try dsimp only at hSw); go_simp; (try with_reducible rfl))
        simp only [Act.put, List.setIfInBounds_toArray, List.set_cons_zero, List.set_cons_succ]
        refine wpAnyH_at 5 (some 41) (v := ?v105) (by decide) rfl (by kernel_rfl) (by kernel_rfl) (by kernel_rfl) (fun _ _ _ h => h) (Or.inl ⟨by rfl, ?y105⟩) (by assumption) ?r105
        case y105 => (intro w hSw; (try dsimp only at hSw); go_simp; (try with_reducible rfl))
        simp only [Act.put, List.setIfInBounds_toArray, List.set_cons_zero, List.set_cons_succ]
        refine wpAnyH_at 6 (some 42) (v := ?v106) (by decide) rfl (by kernel_rfl) (by kernel_rfl) (by kernel_rfl) (fun _ _ _ h => h) (Or.inl ⟨by rfl, ?y106⟩) (by assumption) ?r106
        case y106 => (intro w hSw; (try dsimp only at hSw); go_simp; (try with_reducible rfl))
        simp only [Act.put, List.setIfInBounds_toArray, List.set_cons_zero, List.set_cons_succ]
        refine wpAnyH_at 7 (some 43) (v := ?v107) (by decide) rfl (by kernel_rfl) (by kernel_rfl) (by kernel_rfl) (fun _ _ _ h => h) (Or.inl ⟨by rfl, ?y107⟩) (by assumption) ?r107
        case y107 => (intro w hSw; (try dsimp only at hSw); go_simp; (try with_reducible rfl))
        simp only [Act.put, List.setIfInBounds_toArray, List.set_cons_zero, List.set_cons_succ]
        refine wpAnyH_at 8 (some 44) (v := ?v108) (by decide) rfl (by kernel_rfl) (by kernel_rfl) (by kernel_rfl) (fun _ _ _ h => h) (Or.inl ⟨by rfl, ?y108⟩) (by assumption) ?r108
        case y108 => (intro w hSw; (try dsimp only at hSw); go_simp; (try with_reducible rfl))
        simp only [Act.put, List.setIfInBounds_toArray, List.set_cons_zero, List.set_cons_succ]
        refine wpAnyH_at 9 (some 45) (v := ?v109) (by decide) rfl (by kernel_rfl) (by kernel_rfl) (by kernel_rfl) (fun _ _ _ h => h) (Or.inl ⟨by rfl, ?y109⟩) (by assumption) ?r109
        case y109 => (intro w hSw; (try dsimp only at hSw); go_simp; (try with_reducible rfl))
        simp only [Act.put, List.setIfInBounds_toArray, List.set_cons_zero, List.set_cons_succ]
        refine wpAnyH_at 10 (some 46) (v := ?v110) (by decide) rfl (by kernel_rfl) (by kernel_rfl) (by kernel_rfl) (fun _ _ _ h => h) (Or.inl ⟨by rfl, ?y110⟩) (by assumption) ?r110
        case y110 => (intro w hSw; (try dsimp only at hSw); go_simp; (try with_reducible rfl))
        simp only [Act.put, List.setIfInBounds_toArray, List.set_cons_zero, List.set_cons_succ]
        refine wpAnyH_at 11 (some 47) (v := ?v111) (by decide) rfl (by kernel_rfl) (by kernel_rfl) (by kernel_rfl) (fun _ _ _ h => h) (Or.inl ⟨by rfl, ?y111⟩) (by assumption) ?r111
        case y111 => (intro w hSw; (try dsimp only at hSw); go_simp; (try with_reducible rfl))
        simp only [Act.put, List.setIfInBounds_toArray, List.set_cons_zero, List.set_cons_succ]
        refine wpAnyH_at 12 (some 48) (v := ?v112) (by decide) rfl (by kernel_rfl) (by kernel_rfl) (by kernel_rfl) (fun _ _ _ h => h) (Or.inl ⟨by rfl, ?y112⟩) (by assumption) ?r112
        case y112 => (intro w hSw; (try dsimp only at hSw); go_simp; (try with_reducible rfl))
        simp only [Act.put, List.setIfInBounds_toArray, List.set_cons_zero, List.set_cons_succ]
        refine wpAnyH_at 13 (some 49) (v := ?v113) (by decide) rfl (by kernel_rfl) (by kernel_rfl) (by kernel_rfl) (fun _ _ _ h => h) (Or.inl ⟨by rfl, ?y113⟩) (by assumption) ?r113
        case y113 => (intro w hSw; (try dsimp only at hSw); go_simp; (try with_reducible rfl))
        simp only [Act.put, List.setIfInBounds_toArray, List.set_cons_zero, List.set_cons_succ]
        refine wpAnyH_ready (rs := [14, 15]) (by kernel_rfl) (by simp) ?_
        refine AllReadyH.cons rfl (fun K hK => ?_) (AllReadyH.cons rfl (fun K hK => ?_) AllReadyH.nil)
        · go_simp
          try dsimp only []
          refine hK.out _ _ (by exact HSS.out _ ((Kept.refl _ _).alloc _).drew) (fun hHeld => ?_)
          clear hK K
          try simp only [Act.put, List.setIfInBounds_toArray, List.set_cons_zero, List.set_cons_succ]
          refine wpAnyH_ready (rs := [15]) (by kernel_rfl) (by simp) ?_
          refine AllReadyH.cons rfl (fun K hK => ?_) AllReadyH.nil
          go_simp
          try dsimp only []
          refine hK.out _ _ (by exact HSS.out _ (((Kept.refl _ _).alloc _).alloc _).drew) (fun hHeld => ?_)
          clear hK K
          try simp only [Act.put, List.setIfInBounds_toArray, List.set_cons_zero, List.set_cons_succ]
          refine wpAnyH_ready (rs := [16]) (by kernel_rfl) (by simp) ?_
          refine AllReadyH.cons rfl (fun K hK => ?_) AllReadyH.nil
          go_simp
          try dsimp only []
          refine hK.out _ _ (by exact HSS.out _ (((Kept.refl _ _).alloc _).alloc _).drew) (fun hHeld => ?_)
          clear hK K
          try simp only [Act.put, List.setIfInBounds_toArray, List.set_cons_zero, List.set_cons_succ]
          refine wpAnyH_ready (rs := [17]) (by kernel_rfl) (by simp) ?_
          refine AllReadyH.cons rfl (fun K hK => ?_) AllReadyH.nil
          go_simp
          try dsimp only []
          refine hK.out _ _ (by exact HSS.out _ (((Kept.refl _ _).alloc _).alloc _).drew) (fun hHeld => ?_)
          clear hK K
          try simp only [Act.put, List.setIfInBounds_toArray, List.set_cons_zero, List.set_cons_succ]
          refine wpAnyH_done (by kernel_rfl) ?_ _
          clear hHeld
          have KW := hid (show Kept (fun _ => False) wr (((wr.alloc (.cells #[.int .u32 p, .int .u32 q] 46)).alloc (.cells #[.int .u32 u, .int .u32 v] 46)).drew) from (((Kept.refl _ _).alloc _).alloc _).drew)
          have XA := hid (show (((wr.alloc (.cells #[.int .u32 p, .int .u32 q] 46)).alloc (.cells #[.int .u32 u, .int .u32 v] 46)).drew).heap[wr.heap.size]? = _ from (two_new wr _ _).1)
          have XB := hid (show (((wr.alloc (.cells #[.int .u32 p, .int .u32 q] 46)).alloc (.cells #[.int .u32 u, .int .u32 v] 46)).drew).heap[wr.heap.size + 1]? = _ from (two_new wr _ _).2)
          generalize (((wr.alloc (.cells #[.int .u32 p, .int .u32 q] 46)).alloc (.cells #[.int .u32 u, .int .u32 v] 46)).drew) = W6 at KW XA XB ⊢
          obtain ⟨x0, x1, xf⟩ := cell2' XA.out
          obtain ⟨x2, x3, xg⟩ := cell2' XB.out
          go_wp2_with fail
          refine wp_region_held_drew (S := fun w' => w'.cell? ⟨wr.heap.size, 0, none⟩ = some (.int .u32 p) ∧ w'.cell? ⟨wr.heap.size, 1, none⟩ = some (.int .u32 q) ∧ w'.cell? ⟨wr.heap.size + 1, 0, none⟩ = some (.int .u32 u) ∧ w'.cell? ⟨wr.heap.size + 1, 1, none⟩ = some (.int .u32 v)) (by kernel_rfl) (by exact ⟨x0, x1, x2, x3⟩) (fun hHeld => ?_)
          refine wpAnyH_at 0 (some 50) (v := ?v200) (by decide) rfl (by kernel_rfl) (by kernel_rfl) (by kernel_rfl) (fun _ _ _ h => h) (Or.inl ⟨by rfl, ?y200⟩) (by assumption) ?r200
          case y200 => (intro w hSw; (try dsimp only at hSw); go_simp; (try with_reducible rfl))
          simp only [Act.put, List.setIfInBounds_toArray, List.set_cons_zero, List.set_cons_succ]
          refine wpAnyH_at 1 (some 51) (v := ?v201) (by decide) rfl (by kernel_rfl) (by kernel_rfl) (by kernel_rfl) (fun _ _ _ h => h) (Or.inl ⟨by rfl, ?y201⟩) (by assumption) ?r201
          case y201 => (intro w hSw; (try dsimp only at hSw); go_simp; (try with_reducible rfl))
          simp only [Act.put, List.setIfInBounds_toArray, List.set_cons_zero, List.set_cons_succ]
          refine wpAnyH_at 2 (some 52) (v := ?v202) (by decide) rfl (by kernel_rfl) (by kernel_rfl) (by kernel_rfl) (fun _ _ _ h => h) (Or.inl ⟨by rfl, ?y202⟩) (by assumption) ?r202
          case y202 => (intro w hSw; (try dsimp only at hSw); go_simp; (try with_reducible rfl))
          simp only [Act.put, List.setIfInBounds_toArray, List.set_cons_zero, List.set_cons_succ]
          refine wpAnyH_at 3 (some 53) (v := ?v203) (by decide) rfl (by kernel_rfl) (by kernel_rfl) (by kernel_rfl) (fun _ _ _ h => h) (Or.inl ⟨by rfl, ?y203⟩) (by assumption) ?r203
          case y203 => (intro w hSw; (try dsimp only at hSw); go_simp; (try with_reducible rfl))
          simp only [Act.put, List.setIfInBounds_toArray, List.set_cons_zero, List.set_cons_succ]
          refine wpAnyH_at 4 (some 54) (v := ?v204) (by decide) rfl (by kernel_rfl) (by kernel_rfl) (by kernel_rfl) (fun _ _ _ h => h) (Or.inl ⟨by rfl, ?y204⟩) (by assumption) ?r204
          case y204 => (intro w hSw; (try dsimp only at hSw); go_simp; (try with_reducible rfl))
          simp only [Act.put, List.setIfInBounds_toArray, List.set_cons_zero, List.set_cons_succ]
          refine wpAnyH_at 5 (some 55) (v := ?v205) (by decide) rfl (by kernel_rfl) (by kernel_rfl) (by kernel_rfl) (fun _ _ _ h => h) (Or.inl ⟨by rfl, ?y205⟩) (by assumption) ?r205
          case y205 => (intro w hSw; (try dsimp only at hSw); go_simp; (try with_reducible rfl))
          simp only [Act.put, List.setIfInBounds_toArray, List.set_cons_zero, List.set_cons_succ]
          refine wpAnyH_at 6 (some 56) (v := ?v206) (by decide) rfl (by kernel_rfl) (by kernel_rfl) (by kernel_rfl) (fun _ _ _ h => h) (Or.inl ⟨by rfl, ?y206⟩) (by assumption) ?r206
          case y206 => (intro w hSw; (try dsimp only at hSw); go_simp; (try with_reducible rfl))
          simp only [Act.put, List.setIfInBounds_toArray, List.set_cons_zero, List.set_cons_succ]
          refine wpAnyH_at 7 (some 57) (v := ?v207) (by decide) rfl (by kernel_rfl) (by kernel_rfl) (by kernel_rfl) (fun _ _ _ h => h) (Or.inl ⟨by rfl, ?y207⟩) (by assumption) ?r207
          case y207 => (intro w hSw; (try dsimp only at hSw); go_simp; (try with_reducible rfl))
          simp only [Act.put, List.setIfInBounds_toArray, List.set_cons_zero, List.set_cons_succ]
          refine wpAnyH_at 8 (some 58) (v := ?v208) (by decide) rfl (by kernel_rfl) (by kernel_rfl) (by kernel_rfl) (fun _ _ _ h => h) (Or.inl ⟨by rfl, ?y208⟩) (by assumption) ?r208
          case y208 => (intro w hSw; (try dsimp only at hSw); go_simp; (try with_reducible rfl))
          simp only [Act.put, List.setIfInBounds_toArray, List.set_cons_zero, List.set_cons_succ]
          refine wpAnyH_at 9 (some 59) (v := ?v209) (by decide) rfl (by kernel_rfl) (by kernel_rfl) (by kernel_rfl) (fun _ _ _ h => h) (Or.inl ⟨by rfl, ?y209⟩) (by assumption) ?r209
          case y209 => (intro w hSw; (try dsimp only at hSw); go_simp; (try with_reducible rfl))
          simp only [Act.put, List.setIfInBounds_toArray, List.set_cons_zero, List.set_cons_succ]
          refine wpAnyH_at 10 (some 11) (v := ?v210) (by decide) rfl (by kernel_rfl) (by kernel_rfl) (by kernel_rfl) (fun _ _ _ h => h) (Or.inl ⟨by rfl, ?y210⟩) (by assumption) ?r210
          case y210 => (intro w hSw; (try dsimp only at hSw); go_simp; (try with_reducible rfl))
          simp only [Act.put, List.setIfInBounds_toArray, List.set_cons_zero, List.set_cons_succ]
          refine wpAnyH_at 11 (some 12) (v := ?v211) (by decide) rfl (by kernel_rfl) (by kernel_rfl) (by kernel_rfl) (fun _ _ _ h => h) (Or.inl ⟨by rfl, ?y211⟩) (by assumption) ?r211
          case y211 => (intro w hSw; (try dsimp only at hSw); go_simp; (try with_reducible rfl))
          simp only [Act.put, List.setIfInBounds_toArray, List.set_cons_zero, List.set_cons_succ]
          refine wpAnyH_done (by kernel_rfl) ?_ _
          clear hHeld
          obtain ⟨mx, hmx⟩ : ∃ mx, mx = (if p < u then u else p) := ⟨_, rfl⟩
          obtain ⟨mn, hmn⟩ : ∃ mn, mn = (if v < q then v else q) := ⟨_, rfl⟩
          rw [← hmx, ← hmn]
          have hmx' : mx = max p u := by rw [hmx]; split <;> omega
          have hmn' : mn = min q v := by rw [hmn]; split <;> omega
          have HMX := hid hmx'; have HMN := hid hmn'
          clear hmx hmn hmx' hmn'
          have hda : A.drop i = (p, q) :: A.drop (i + 1) := by rw [List.drop_eq_getElem_cons hiA, HAX.out]
          have hdb : B.drop j = (u, v) :: B.drop (j + 1) := by rw [List.drop_eq_getElem_cons hjB, HBX.out]
          have hm2 := HM.out
          rw [hda, hdb, meet_cons] at hm2
          simp only [← HMX.out, ← HMN.out] at hm2
          have HDA := hid hda; have HDB := hid hdb
          clear hda hdb
          have n1 : ¬ w.heap.size = wr.heap.size := by have := row_lt HRW.out; omega
          have n2 : ¬ wr.heap.size = w.heap.size := by omega
          have n3 : ¬ w.heap.size = wr.heap.size + 1 := by have := row_lt HRW.out; omega
          have n4 : ¬ wr.heap.size + 1 = w.heap.size := by omega
          by_cases hc : mx ≤ mn
          · rw [if_pos hc] at hm2
            have HM2 := hid hm2; clear hm2
            have H6 := hid (HS.out.kept KW.out (fun _ _ h => h))
            obtain ⟨ao, cap, g1, g2, g3, c0, cf⟩ := H6.out.facts
            have hn := H6.out.g.len
            have hnb : ∀ g, (Value.slice ao out.length cap).ownBlock = some g → g < wr.heap.size := fun g hg => by
              obtain ⟨ao', cap', e1, e2, e3, e4, _⟩ := HS.out.facts
              have e5 := KW.out.cell e4 id
              rw [c0] at e5
              simp only [Option.some.injEq, Value.slice.injEq] at e5
              obtain ⟨rfl, _, rfl⟩ := e5
              exact e2.lt hg
            have G1 := hid g1; have G2 := hid g2; have G3 := hid g3; have NB := hid hnb
            clear g1 g2 g3 hnb
            by_cases hqv : q < v
            · go_wp2_with (at_builtin; refine wpList_app (o := ⟨some 72, _, _, _, _, _⟩) rfl (.tmp 67) (.tmp 71) 37 rfl 46 (.agg #[.int .u32 0, .int .u32 0]) 2 8 Try.underlying37 infoS rfl (by decide) (.slice ao out.length cap) out.length (scells out) (by simp [Act.eval, Act.put]) (by exact (G2.out.drew).alloc _) (.slice (some ⟨W6.heap.size, 0, none⟩) 1 1) (by simp [Act.eval, Act.put]) 1 [.int .u32 mx, .int .u32 mn] (by exact src_two' _ _ rfl rfl rfl) (by unfold maxLen; omega) (by omega) ?_; intro a8 c8 w8 ho8 hk8 hf8 _; have hk8' := Kept.trans' (F := fun k => (Value.slice ao out.length cap).ownBlock = some k) ((Kept.refl _ _).drew.alloc _) hk8 (fun i hi => Or.inl hi); have q8 := (hk8'.block _ (row_lt G1.out) (G2.out.ne_block G1.out (by decide))).trans G1.out; have c8' := row_cell q8 0; have f8' := row_free q8 0; simp at c8'; have u1 := hk8'.cell x1 (fun e => by have : wr.heap.size < wr.heap.size := Nat.lt_of_le_of_lt (by first | exact Nat.le_refl _ | exact Nat.le_succ _) (NB.out _ e); omega); have u3 := hk8'.cell x3 (fun e => by have : wr.heap.size < wr.heap.size := Nat.lt_of_le_of_lt (by first | exact Nat.le_refl _ | exact Nat.le_succ _) (NB.out _ e); omega); have HO8 := hid ho8; have HK8 := hid hk8'; have HF8 := hid hf8; have Q8 := hid q8; clear ho8 hk8 hk8' hf8 q8)
              have ho := HO8.out
              have hf := HF8.out
              have hl : out.length + 1 = (out ++ [(mx, mn)]).length := by simp
              have hg : Good (out ++ [(mx, mn)]) := Good.pre (T := (if q < v then meet (A.drop (i + 1)) ((u, v) :: B.drop (j + 1)) else meet ((p, q) :: A.drop (i + 1)) (B.drop (j + 1)))) (by have := HL.out; rw [← HM2.out] at this; simpa using this)
              rw [show scells out ++ [.int .u32 mx, .int .u32 mn] = scells (out ++ [(mx, mn)]) by rw [scells_app]; rfl] at ho
              rw [hl] at ho hf ⊢
              have hs := SetAt.put (F := fun g => w.heap.size ≤ g) (S0 := out) Q8.out (Nat.le_refl _) hg ho (fun g hg => by
                have := HK.out.size; have := KW.out.size
                rcases hf g hg with h1 | h1
                · exact G3.out g h1
                · (try simp at h1); omega)
              have hkf : Kept (fun _ => False) w (w8.setCell ⟨w.heap.size, 0, none⟩ (.slice a8 (out ++ [(mx, mn)]).length c8)) := Kept.setCell (F := fun _ => False) (Kept.trans' (F := fun _ => False) (HK.out.trans KW.out) HK8.out (fun i hi => Or.inr (G3.out i hi))) (Or.inr (Nat.le_refl _)) _
              go_roundw
              case rel => exact ⟨i + 1, j, out ++ [(mx, mn)], hiA, hj, by go_num, rfl, hkf, hs, by rw [← HM2.out, if_pos hqv, HDB.out, List.append_assoc]⟩
              case measure => simp [intOf]; omega
            · go_wp2_with (at_builtin; refine wpList_app (o := ⟨some 72, _, _, _, _, _⟩) rfl (.tmp 67) (.tmp 71) 37 rfl 46 (.agg #[.int .u32 0, .int .u32 0]) 2 8 Try.underlying37 infoS rfl (by decide) (.slice ao out.length cap) out.length (scells out) (by simp [Act.eval, Act.put]) (by exact (G2.out.drew).alloc _) (.slice (some ⟨W6.heap.size, 0, none⟩) 1 1) (by simp [Act.eval, Act.put]) 1 [.int .u32 mx, .int .u32 mn] (by exact src_two' _ _ rfl rfl rfl) (by unfold maxLen; omega) (by omega) ?_; intro a8 c8 w8 ho8 hk8 hf8 _; have hk8' := Kept.trans' (F := fun k => (Value.slice ao out.length cap).ownBlock = some k) ((Kept.refl _ _).drew.alloc _) hk8 (fun i hi => Or.inl hi); have q8 := (hk8'.block _ (row_lt G1.out) (G2.out.ne_block G1.out (by decide))).trans G1.out; have c8' := row_cell q8 0; have f8' := row_free q8 0; simp at c8'; have u1 := hk8'.cell x1 (fun e => by have : wr.heap.size < wr.heap.size := Nat.lt_of_le_of_lt (by first | exact Nat.le_refl _ | exact Nat.le_succ _) (NB.out _ e); omega); have u3 := hk8'.cell x3 (fun e => by have : wr.heap.size < wr.heap.size := Nat.lt_of_le_of_lt (by first | exact Nat.le_refl _ | exact Nat.le_succ _) (NB.out _ e); omega); have HO8 := hid ho8; have HK8 := hid hk8'; have HF8 := hid hf8; have Q8 := hid q8; clear ho8 hk8 hk8' hf8 q8)
              have ho := HO8.out
              have hf := HF8.out
              have hl : out.length + 1 = (out ++ [(mx, mn)]).length := by simp
              have hg : Good (out ++ [(mx, mn)]) := Good.pre (T := (if q < v then meet (A.drop (i + 1)) ((u, v) :: B.drop (j + 1)) else meet ((p, q) :: A.drop (i + 1)) (B.drop (j + 1)))) (by have := HL.out; rw [← HM2.out] at this; simpa using this)
              rw [show scells out ++ [.int .u32 mx, .int .u32 mn] = scells (out ++ [(mx, mn)]) by rw [scells_app]; rfl] at ho
              rw [hl] at ho hf ⊢
              have hs := SetAt.put (F := fun g => w.heap.size ≤ g) (S0 := out) Q8.out (Nat.le_refl _) hg ho (fun g hg => by
                have := HK.out.size; have := KW.out.size
                rcases hf g hg with h1 | h1
                · exact G3.out g h1
                · (try simp at h1); omega)
              have hkf : Kept (fun _ => False) w (w8.setCell ⟨w.heap.size, 0, none⟩ (.slice a8 (out ++ [(mx, mn)]).length c8)) := Kept.setCell (F := fun _ => False) (Kept.trans' (F := fun _ => False) (HK.out.trans KW.out) HK8.out (fun i hi => Or.inr (G3.out i hi))) (Or.inr (Nat.le_refl _)) _
              go_roundw
              case rel => exact ⟨i, j + 1, out ++ [(mx, mn)], hi, hjB, rfl, by go_num, hkf, hs, by rw [← HM2.out, if_neg hqv, HDA.out, List.append_assoc]⟩
              case measure => simp [intOf]; omega
          · rw [if_neg hc, List.nil_append] at hm2
            have HM2 := hid hm2; clear hm2
            by_cases hqv : q < v
            · go_wp2
              go_roundw
              case rel => exact ⟨i + 1, j, out, hiA, hj, by go_num, rfl, (HK.out.trans KW.out).drew, (HS.out.kept KW.out (fun _ _ h => h)).kept (Kept.refl (fun _ => False) _).drew (fun _ _ h => h), by rw [← HM2.out, if_pos hqv, HDB.out]⟩
              case measure => simp [intOf]; omega
            · go_wp2
              go_roundw
              case rel => exact ⟨i, j + 1, out, hi, hjB, rfl, by go_num, (HK.out.trans KW.out).drew, (HS.out.kept KW.out (fun _ _ h => h)).kept (Kept.refl (fun _ => False) _).drew (fun _ _ h => h), by rw [← HM2.out, if_neg hqv, HDA.out]⟩
              case measure => simp [intOf]; omega
        · go_simp
          try dsimp only []
          refine hK.out _ _ (by exact HSS.out _ ((Kept.refl _ _).alloc _).drew) (fun hHeld => ?_)
          clear hK K
          try simp only [Act.put, List.setIfInBounds_toArray, List.set_cons_zero, List.set_cons_succ]
          refine wpAnyH_ready (rs := [14]) (by kernel_rfl) (by simp) ?_
          refine AllReadyH.cons rfl (fun K hK => ?_) AllReadyH.nil
          go_simp
          try dsimp only []
          refine hK.out _ _ (by exact HSS.out _ (((Kept.refl _ _).alloc _).alloc _).drew) (fun hHeld => ?_)
          clear hK K
          try simp only [Act.put, List.setIfInBounds_toArray, List.set_cons_zero, List.set_cons_succ]
          refine wpAnyH_ready (rs := [16]) (by kernel_rfl) (by simp) ?_
          refine AllReadyH.cons rfl (fun K hK => ?_) AllReadyH.nil
          go_simp
          try dsimp only []
          refine hK.out _ _ (by exact HSS.out _ (((Kept.refl _ _).alloc _).alloc _).drew) (fun hHeld => ?_)
          clear hK K
          try simp only [Act.put, List.setIfInBounds_toArray, List.set_cons_zero, List.set_cons_succ]
          refine wpAnyH_ready (rs := [17]) (by kernel_rfl) (by simp) ?_
          refine AllReadyH.cons rfl (fun K hK => ?_) AllReadyH.nil
          go_simp
          try dsimp only []
          refine hK.out _ _ (by exact HSS.out _ (((Kept.refl _ _).alloc _).alloc _).drew) (fun hHeld => ?_)
          clear hK K
          try simp only [Act.put, List.setIfInBounds_toArray, List.set_cons_zero, List.set_cons_succ]
          refine wpAnyH_done (by kernel_rfl) ?_ _
          clear hHeld
          have KW := hid (show Kept (fun _ => False) wr (((wr.alloc (.cells #[.int .u32 u, .int .u32 v] 46)).alloc (.cells #[.int .u32 p, .int .u32 q] 46)).drew) from (((Kept.refl _ _).alloc _).alloc _).drew)
          have XB := hid (show (((wr.alloc (.cells #[.int .u32 u, .int .u32 v] 46)).alloc (.cells #[.int .u32 p, .int .u32 q] 46)).drew).heap[wr.heap.size]? = _ from (two_new wr _ _).1)
          have XA := hid (show (((wr.alloc (.cells #[.int .u32 u, .int .u32 v] 46)).alloc (.cells #[.int .u32 p, .int .u32 q] 46)).drew).heap[wr.heap.size + 1]? = _ from (two_new wr _ _).2)
          generalize (((wr.alloc (.cells #[.int .u32 u, .int .u32 v] 46)).alloc (.cells #[.int .u32 p, .int .u32 q] 46)).drew) = W6 at KW XA XB ⊢
          obtain ⟨x0, x1, xf⟩ := cell2' XA.out
          obtain ⟨x2, x3, xg⟩ := cell2' XB.out
          go_wp2_with fail
          refine wp_region_held_drew (S := fun w' => w'.cell? ⟨wr.heap.size + 1, 0, none⟩ = some (.int .u32 p) ∧ w'.cell? ⟨wr.heap.size + 1, 1, none⟩ = some (.int .u32 q) ∧ w'.cell? ⟨wr.heap.size, 0, none⟩ = some (.int .u32 u) ∧ w'.cell? ⟨wr.heap.size, 1, none⟩ = some (.int .u32 v)) (by kernel_rfl) (by exact ⟨x0, x1, x2, x3⟩) (fun hHeld => ?_)
          refine wpAnyH_at 0 (some 50) (v := ?v300) (by decide) rfl (by kernel_rfl) (by kernel_rfl) (by kernel_rfl) (fun _ _ _ h => h) (Or.inl ⟨by rfl, ?y300⟩) (by assumption) ?r300
          case y300 => (intro w hSw; (try dsimp only at hSw); go_simp; (try with_reducible rfl))
          simp only [Act.put, List.setIfInBounds_toArray, List.set_cons_zero, List.set_cons_succ]
          refine wpAnyH_at 1 (some 51) (v := ?v301) (by decide) rfl (by kernel_rfl) (by kernel_rfl) (by kernel_rfl) (fun _ _ _ h => h) (Or.inl ⟨by rfl, ?y301⟩) (by assumption) ?r301
          case y301 => (intro w hSw; (try dsimp only at hSw); go_simp; (try with_reducible rfl))
          simp only [Act.put, List.setIfInBounds_toArray, List.set_cons_zero, List.set_cons_succ]
          refine wpAnyH_at 2 (some 52) (v := ?v302) (by decide) rfl (by kernel_rfl) (by kernel_rfl) (by kernel_rfl) (fun _ _ _ h => h) (Or.inl ⟨by rfl, ?y302⟩) (by assumption) ?r302
          case y302 => (intro w hSw; (try dsimp only at hSw); go_simp; (try with_reducible rfl))
          simp only [Act.put, List.setIfInBounds_toArray, List.set_cons_zero, List.set_cons_succ]
          refine wpAnyH_at 3 (some 53) (v := ?v303) (by decide) rfl (by kernel_rfl) (by kernel_rfl) (by kernel_rfl) (fun _ _ _ h => h) (Or.inl ⟨by rfl, ?y303⟩) (by assumption) ?r303
          case y303 => (intro w hSw; (try dsimp only at hSw); go_simp; (try with_reducible rfl))
          simp only [Act.put, List.setIfInBounds_toArray, List.set_cons_zero, List.set_cons_succ]
          refine wpAnyH_at 4 (some 54) (v := ?v304) (by decide) rfl (by kernel_rfl) (by kernel_rfl) (by kernel_rfl) (fun _ _ _ h => h) (Or.inl ⟨by rfl, ?y304⟩) (by assumption) ?r304
          case y304 => (intro w hSw; (try dsimp only at hSw); go_simp; (try with_reducible rfl))
          simp only [Act.put, List.setIfInBounds_toArray, List.set_cons_zero, List.set_cons_succ]
          refine wpAnyH_at 5 (some 55) (v := ?v305) (by decide) rfl (by kernel_rfl) (by kernel_rfl) (by kernel_rfl) (fun _ _ _ h => h) (Or.inl ⟨by rfl, ?y305⟩) (by assumption) ?r305
          case y305 => (intro w hSw; (try dsimp only at hSw); go_simp; (try with_reducible rfl))
          simp only [Act.put, List.setIfInBounds_toArray, List.set_cons_zero, List.set_cons_succ]
          refine wpAnyH_at 6 (some 56) (v := ?v306) (by decide) rfl (by kernel_rfl) (by kernel_rfl) (by kernel_rfl) (fun _ _ _ h => h) (Or.inl ⟨by rfl, ?y306⟩) (by assumption) ?r306
          case y306 => (intro w hSw; (try dsimp only at hSw); go_simp; (try with_reducible rfl))
          simp only [Act.put, List.setIfInBounds_toArray, List.set_cons_zero, List.set_cons_succ]
          refine wpAnyH_at 7 (some 57) (v := ?v307) (by decide) rfl (by kernel_rfl) (by kernel_rfl) (by kernel_rfl) (fun _ _ _ h => h) (Or.inl ⟨by rfl, ?y307⟩) (by assumption) ?r307
          case y307 => (intro w hSw; (try dsimp only at hSw); go_simp; (try with_reducible rfl))
          simp only [Act.put, List.setIfInBounds_toArray, List.set_cons_zero, List.set_cons_succ]
          refine wpAnyH_at 8 (some 58) (v := ?v308) (by decide) rfl (by kernel_rfl) (by kernel_rfl) (by kernel_rfl) (fun _ _ _ h => h) (Or.inl ⟨by rfl, ?y308⟩) (by assumption) ?r308
          case y308 => (intro w hSw; (try dsimp only at hSw); go_simp; (try with_reducible rfl))
          simp only [Act.put, List.setIfInBounds_toArray, List.set_cons_zero, List.set_cons_succ]
          refine wpAnyH_at 9 (some 59) (v := ?v309) (by decide) rfl (by kernel_rfl) (by kernel_rfl) (by kernel_rfl) (fun _ _ _ h => h) (Or.inl ⟨by rfl, ?y309⟩) (by assumption) ?r309
          case y309 => (intro w hSw; (try dsimp only at hSw); go_simp; (try with_reducible rfl))
          simp only [Act.put, List.setIfInBounds_toArray, List.set_cons_zero, List.set_cons_succ]
          refine wpAnyH_at 10 (some 11) (v := ?v310) (by decide) rfl (by kernel_rfl) (by kernel_rfl) (by kernel_rfl) (fun _ _ _ h => h) (Or.inl ⟨by rfl, ?y310⟩) (by assumption) ?r310
          case y310 => (intro w hSw; (try dsimp only at hSw); go_simp; (try with_reducible rfl))
          simp only [Act.put, List.setIfInBounds_toArray, List.set_cons_zero, List.set_cons_succ]
          refine wpAnyH_at 11 (some 12) (v := ?v311) (by decide) rfl (by kernel_rfl) (by kernel_rfl) (by kernel_rfl) (fun _ _ _ h => h) (Or.inl ⟨by rfl, ?y311⟩) (by assumption) ?r311
          case y311 => (intro w hSw; (try dsimp only at hSw); go_simp; (try with_reducible rfl))
          simp only [Act.put, List.setIfInBounds_toArray, List.set_cons_zero, List.set_cons_succ]
          refine wpAnyH_done (by kernel_rfl) ?_ _
          clear hHeld
          obtain ⟨mx, hmx⟩ : ∃ mx, mx = (if p < u then u else p) := ⟨_, rfl⟩
          obtain ⟨mn, hmn⟩ : ∃ mn, mn = (if v < q then v else q) := ⟨_, rfl⟩
          rw [← hmx, ← hmn]
          have hmx' : mx = max p u := by rw [hmx]; split <;> omega
          have hmn' : mn = min q v := by rw [hmn]; split <;> omega
          have HMX := hid hmx'; have HMN := hid hmn'
          clear hmx hmn hmx' hmn'
          have hda : A.drop i = (p, q) :: A.drop (i + 1) := by rw [List.drop_eq_getElem_cons hiA, HAX.out]
          have hdb : B.drop j = (u, v) :: B.drop (j + 1) := by rw [List.drop_eq_getElem_cons hjB, HBX.out]
          have hm2 := HM.out
          rw [hda, hdb, meet_cons] at hm2
          simp only [← HMX.out, ← HMN.out] at hm2
          have HDA := hid hda; have HDB := hid hdb
          clear hda hdb
          have n1 : ¬ w.heap.size = wr.heap.size := by have := row_lt HRW.out; omega
          have n2 : ¬ wr.heap.size = w.heap.size := by omega
          have n3 : ¬ w.heap.size = wr.heap.size + 1 := by have := row_lt HRW.out; omega
          have n4 : ¬ wr.heap.size + 1 = w.heap.size := by omega
          by_cases hc : mx ≤ mn
          · rw [if_pos hc] at hm2
            have HM2 := hid hm2; clear hm2
            have H6 := hid (HS.out.kept KW.out (fun _ _ h => h))
            obtain ⟨ao, cap, g1, g2, g3, c0, cf⟩ := H6.out.facts
            have hn := H6.out.g.len
            have hnb : ∀ g, (Value.slice ao out.length cap).ownBlock = some g → g < wr.heap.size := fun g hg => by
              obtain ⟨ao', cap', e1, e2, e3, e4, _⟩ := HS.out.facts
              have e5 := KW.out.cell e4 id
              rw [c0] at e5
              simp only [Option.some.injEq, Value.slice.injEq] at e5
              obtain ⟨rfl, _, rfl⟩ := e5
              exact e2.lt hg
            have G1 := hid g1; have G2 := hid g2; have G3 := hid g3; have NB := hid hnb
            clear g1 g2 g3 hnb
            by_cases hqv : q < v
            · go_wp2_with (at_builtin; refine wpList_app (o := ⟨some 72, _, _, _, _, _⟩) rfl (.tmp 67) (.tmp 71) 37 rfl 46 (.agg #[.int .u32 0, .int .u32 0]) 2 8 Try.underlying37 infoS rfl (by decide) (.slice ao out.length cap) out.length (scells out) (by simp [Act.eval, Act.put]) (by exact (G2.out.drew).alloc _) (.slice (some ⟨W6.heap.size, 0, none⟩) 1 1) (by simp [Act.eval, Act.put]) 1 [.int .u32 mx, .int .u32 mn] (by exact src_two' _ _ rfl rfl rfl) (by unfold maxLen; omega) (by omega) ?_; intro a8 c8 w8 ho8 hk8 hf8 _; have hk8' := Kept.trans' (F := fun k => (Value.slice ao out.length cap).ownBlock = some k) ((Kept.refl _ _).drew.alloc _) hk8 (fun i hi => Or.inl hi); have q8 := (hk8'.block _ (row_lt G1.out) (G2.out.ne_block G1.out (by decide))).trans G1.out; have c8' := row_cell q8 0; have f8' := row_free q8 0; simp at c8'; have u1 := hk8'.cell x1 (fun e => by have : wr.heap.size < wr.heap.size := Nat.lt_of_le_of_lt (by first | exact Nat.le_refl _ | exact Nat.le_succ _) (NB.out _ e); omega); have u3 := hk8'.cell x3 (fun e => by have : wr.heap.size < wr.heap.size := Nat.lt_of_le_of_lt (by first | exact Nat.le_refl _ | exact Nat.le_succ _) (NB.out _ e); omega); have HO8 := hid ho8; have HK8 := hid hk8'; have HF8 := hid hf8; have Q8 := hid q8; clear ho8 hk8 hk8' hf8 q8)
              have ho := HO8.out
              have hf := HF8.out
              have hl : out.length + 1 = (out ++ [(mx, mn)]).length := by simp
              have hg : Good (out ++ [(mx, mn)]) := Good.pre (T := (if q < v then meet (A.drop (i + 1)) ((u, v) :: B.drop (j + 1)) else meet ((p, q) :: A.drop (i + 1)) (B.drop (j + 1)))) (by have := HL.out; rw [← HM2.out] at this; simpa using this)
              rw [show scells out ++ [.int .u32 mx, .int .u32 mn] = scells (out ++ [(mx, mn)]) by rw [scells_app]; rfl] at ho
              rw [hl] at ho hf ⊢
              have hs := SetAt.put (F := fun g => w.heap.size ≤ g) (S0 := out) Q8.out (Nat.le_refl _) hg ho (fun g hg => by
                have := HK.out.size; have := KW.out.size
                rcases hf g hg with h1 | h1
                · exact G3.out g h1
                · (try simp at h1); omega)
              have hkf : Kept (fun _ => False) w (w8.setCell ⟨w.heap.size, 0, none⟩ (.slice a8 (out ++ [(mx, mn)]).length c8)) := Kept.setCell (F := fun _ => False) (Kept.trans' (F := fun _ => False) (HK.out.trans KW.out) HK8.out (fun i hi => Or.inr (G3.out i hi))) (Or.inr (Nat.le_refl _)) _
              go_roundw
              case rel => exact ⟨i + 1, j, out ++ [(mx, mn)], hiA, hj, by go_num, rfl, hkf, hs, by rw [← HM2.out, if_pos hqv, HDB.out, List.append_assoc]⟩
              case measure => simp [intOf]; omega
            · go_wp2_with (at_builtin; refine wpList_app (o := ⟨some 72, _, _, _, _, _⟩) rfl (.tmp 67) (.tmp 71) 37 rfl 46 (.agg #[.int .u32 0, .int .u32 0]) 2 8 Try.underlying37 infoS rfl (by decide) (.slice ao out.length cap) out.length (scells out) (by simp [Act.eval, Act.put]) (by exact (G2.out.drew).alloc _) (.slice (some ⟨W6.heap.size, 0, none⟩) 1 1) (by simp [Act.eval, Act.put]) 1 [.int .u32 mx, .int .u32 mn] (by exact src_two' _ _ rfl rfl rfl) (by unfold maxLen; omega) (by omega) ?_; intro a8 c8 w8 ho8 hk8 hf8 _; have hk8' := Kept.trans' (F := fun k => (Value.slice ao out.length cap).ownBlock = some k) ((Kept.refl _ _).drew.alloc _) hk8 (fun i hi => Or.inl hi); have q8 := (hk8'.block _ (row_lt G1.out) (G2.out.ne_block G1.out (by decide))).trans G1.out; have c8' := row_cell q8 0; have f8' := row_free q8 0; simp at c8'; have u1 := hk8'.cell x1 (fun e => by have : wr.heap.size < wr.heap.size := Nat.lt_of_le_of_lt (by first | exact Nat.le_refl _ | exact Nat.le_succ _) (NB.out _ e); omega); have u3 := hk8'.cell x3 (fun e => by have : wr.heap.size < wr.heap.size := Nat.lt_of_le_of_lt (by first | exact Nat.le_refl _ | exact Nat.le_succ _) (NB.out _ e); omega); have HO8 := hid ho8; have HK8 := hid hk8'; have HF8 := hid hf8; have Q8 := hid q8; clear ho8 hk8 hk8' hf8 q8)
              have ho := HO8.out
              have hf := HF8.out
              have hl : out.length + 1 = (out ++ [(mx, mn)]).length := by simp
              have hg : Good (out ++ [(mx, mn)]) := Good.pre (T := (if q < v then meet (A.drop (i + 1)) ((u, v) :: B.drop (j + 1)) else meet ((p, q) :: A.drop (i + 1)) (B.drop (j + 1)))) (by have := HL.out; rw [← HM2.out] at this; simpa using this)
              rw [show scells out ++ [.int .u32 mx, .int .u32 mn] = scells (out ++ [(mx, mn)]) by rw [scells_app]; rfl] at ho
              rw [hl] at ho hf ⊢
              have hs := SetAt.put (F := fun g => w.heap.size ≤ g) (S0 := out) Q8.out (Nat.le_refl _) hg ho (fun g hg => by
                have := HK.out.size; have := KW.out.size
                rcases hf g hg with h1 | h1
                · exact G3.out g h1
                · (try simp at h1); omega)
              have hkf : Kept (fun _ => False) w (w8.setCell ⟨w.heap.size, 0, none⟩ (.slice a8 (out ++ [(mx, mn)]).length c8)) := Kept.setCell (F := fun _ => False) (Kept.trans' (F := fun _ => False) (HK.out.trans KW.out) HK8.out (fun i hi => Or.inr (G3.out i hi))) (Or.inr (Nat.le_refl _)) _
              go_roundw
              case rel => exact ⟨i, j + 1, out ++ [(mx, mn)], hi, hjB, rfl, by go_num, hkf, hs, by rw [← HM2.out, if_neg hqv, HDA.out, List.append_assoc]⟩
              case measure => simp [intOf]; omega
          · rw [if_neg hc, List.nil_append] at hm2
            have HM2 := hid hm2; clear hm2
            by_cases hqv : q < v
            · go_wp2
              go_roundw
              case rel => exact ⟨i + 1, j, out, hiA, hj, by go_num, rfl, (HK.out.trans KW.out).drew, (HS.out.kept KW.out (fun _ _ h => h)).kept (Kept.refl (fun _ => False) _).drew (fun _ _ h => h), by rw [← HM2.out, if_pos hqv, HDB.out]⟩
              case measure => simp [intOf]; omega
            · go_wp2
              go_roundw
              case rel => exact ⟨i, j + 1, out, hi, hjB, rfl, by go_num, (HK.out.trans KW.out).drew, (HS.out.kept KW.out (fun _ _ h => h)).kept (Kept.refl (fun _ => False) _).drew (fun _ _ h => h), by rw [← HM2.out, if_neg hqv, HDA.out]⟩
              case measure => simp [intOf]; omega
      · have hjI : ¬ (j : Int) < (B.length : Int) := by omega
        have ho : out = meet A B := by rw [← HM.out, List.drop_of_length_le (by omega : B.length ≤ j), meet_nil, List.append_nil]
        have HO := hid ho; clear ho
        go_wp2
        go_ret2
        exact ⟨rfl, by rw [← HO.out]; exact HS.out, HK.out⟩
    · have hiI : ¬ (i : Int) < (A.length : Int) := by omega
      have ho : out = meet A B := by rw [← HM.out, List.drop_of_length_le (by omega : A.length ≤ i), nil_meet, List.append_nil]
      have HO := hid ho; clear ho
      go_wp2
      go_ret2
      exact ⟨rfl, by rw [← HO.out]; exact HS.out, HK.out⟩
end Go.Proofs.Ytglcpiokmieppaa
