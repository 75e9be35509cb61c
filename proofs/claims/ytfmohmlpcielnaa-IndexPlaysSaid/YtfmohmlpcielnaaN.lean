/- Range, Pages: the walks. -/
import Derived.Test.YtfmohmlpcielnaaM
namespace Go.Proofs.Ytfmohmlpcielnaa
open Go.RowKit
set_option maxRecDepth 100000 in
set_option maxHeartbeats 8000000 in
theorem range_any {F : Nat → Prop} {w : World} {xb : Nat} {PL : List (List It)} (h : IxOk F w xb PL) (from_ to : Int) :
    Calls Try.prog 11 #[.pointer (some ⟨xb, 0, none⟩), .int .u64 from_, .int .u64 to] w (RangePost w (rangeI PL.flatten from_ to)) := by
  obtain ⟨hw, hn, pv, S, rfl, h⟩ := h
  obtain ⟨i, j, b, hf⟩ : ∃ i j b, findP (pl S) from_ = (i, j, b) := ⟨_, _, _, rfl⟩
  have hle := hw.pages
  have hSl : S.length ≤ 4096 := by simp [pl] at hle; simp [pl] at hn; omega
  have hRl : (rangeI (pl S).flatten from_ to).length ≤ 4096 := Nat.le_trans (List.length_filter_le _ _) hn
  have hR0 := rangeI_start (to := to) hw hf
  have hil : i ≤ S.length := by
    cases hL : (pl S)[i]? with
    | none => have := (find_out hw hf hL).1; simp [pl] at this; omega
    | some L => have := (List.getElem?_eq_some_iff.1 hL).1; simp [pl] at this; omega
  obtain ⟨R, hR⟩ : ∃ R, rangeI (pl S).flatten from_ to = R := ⟨_, rfl⟩
  rw [hR] at hRl hR0 ⊢
  clear hR
  have HR0 := hid hR0; clear hR0
  obtain ⟨ao, cap0, rfl⟩ := h.s.isSlice
  have c0 : w.cell? ⟨xb, 0, none⟩ = some (.slice ao S.length cap0) := row_cell h.r 0
  have hij : ∀ L, (pl S)[i]? = some L → j < L.length := fun L hL => (find_in hw hf hL).1
  have H := hid h; have HW := hid hw; have HF := hid hf; have HIJ := hid hij; have HN := hid hn
  clear h hw hf hle hn hij
  go_enter Try.func11, Try.ntmps11
  go_wp2_with fail
  refine (find_any H.out HW.out (by omega) from_ HF.out).mono ?_
  rintro e w1 ⟨rfl, hk1⟩
  have K1 := hid hk1
  replace c0 := hk1.cell c0 (fun h => h)
  clear hk1
  go_wp2_with fail
  go_loopw [7, 8, 9] (fun o i j wr => ∃ (p q : Nat) (acc : List It) (a : Option Addr) (c : Nat), p ≤ S.length ∧ o = .slice a acc.length c ∧ i = .int .i64 p ∧ j = .int .i64 q ∧ Seg wr 33 2 (.slice a acc.length c) acc.length (icells acc) ∧ (∀ g, (Value.slice a acc.length c).ownBlock = some g → w.heap.size ≤ g) ∧ Kept (fun _ => False) w wr ∧ (∀ L, (pl S)[p]? = some L → q < L.length) ∧ R = acc ++ upTo (restP (pl S) p q) to) (fun _ i _ _ => S.length - (intOf i).toNat)
  case atStart => exact ⟨i, j, [], none, 0, hil, rfl, rfl, rfl, Seg.nil _ _ _, by simp [Value.ownBlock], K1.out, HIJ.out, by simpa using HR0.out⟩
  case round =>
    rename World => wA
    obtain ⟨p, q, acc, a, c, hpl, rfl, rfl, rfl, hs, hf, hk, hq, hR⟩ := hrel
    have HS := hid hs; have HFr := hid hf; have HK := hid hk; have HQ := hid hq; have HR := hid hR
    have hal : acc.length ≤ 4096 := by have := congrArg List.length hR; simp at this; omega
    have c0 : wA.cell? ⟨xb, 0, none⟩ = some (.slice ao S.length cap0) := hk.cell (row_cell H.out.r 0) (fun h => h)
    clear hs hf hk hq hR
    by_cases hp : p < S.length
    · have hpI : (p : Int) < (S.length : Int) := by omega
      obtain ⟨L, hL⟩ : ∃ L, (pl S)[p]? = some L := ⟨_, List.getElem?_eq_getElem (by simpa [pl] using hp)⟩
      obtain ⟨pb, iv, hx⟩ := pl_at hL
      have hmem := List.mem_of_getElem? hx
      have hpg : PgAt w pb iv L := H.out.p _ hmem
      have hq := HQ.out L hL
      obtain ⟨g, cap, rfl, q1, q2⟩ := hpg.s.some_of_pos (by omega)
      obtain ⟨pg, pcap, e, q3, q4⟩ := H.out.s.some_of_pos (by omega)
      simp only [Value.slice.injEq] at e
      obtain ⟨rfl, _, rfl⟩ := e
      unfold maxLen at q2 q4
      have c1 : wA.cell? ⟨pg, p, none⟩ = some (.pointer (some ⟨pb, 0, none⟩)) := HK.out.cell ((H.out.s.cells rfl p (by simp [ptrs]; omega)).trans (by
        obtain ⟨_, e⟩ := List.getElem?_eq_some_iff.1 hx
        simp [ptrs, e])) (fun h => h)
      have c2 : wA.cell? ⟨pb, 0, none⟩ = some (.slice (some ⟨g, 0, none⟩) L.length cap) := HK.out.cell (row_cell hpg.r 0) (fun h => h)
      have HX := hid hx; have HL := hid hL; have HP := hid hpg
      clear hmem hx hL hpg
      go_wp2_with fail
      go_loopw [7, 44] (fun o i wr => ∃ (r : Nat) (ac2 : List It) (a : Option Addr) (c : Nat), r ≤ L.length - q ∧ o = .slice a ac2.length c ∧ i = .int .i64 r ∧ Seg wr 33 2 (.slice a ac2.length c) ac2.length (icells ac2) ∧ (∀ g, (Value.slice a ac2.length c).ownBlock = some g → w.heap.size ≤ g) ∧ Kept (fun _ => False) w wr ∧ R = ac2 ++ upTo (restP (pl S) p (q + r)) to) (fun _ i _ => L.length - q - (intOf i).toNat)
      case atStart => exact ⟨0, acc, a, c, Nat.zero_le _, rfl, rfl, HS.out, HFr.out, HK.out, HR.out⟩
      case round =>
        rename World => wB
        obtain ⟨r, ac2, a2, c2', hrl, rfl, rfl, hs, hf, hk, hR⟩ := hrel
        have HS2 := hid hs; have HFr2 := hid hf; have HK2 := hid hk; have HR2 := hid hR
        have hal2 : ac2.length ≤ 4096 := by have := congrArg List.length hR; simp at this; omega
        clear hs hf hk hR
        by_cases hr : r < L.length - q
        · have hrI : (r : Int) < ((L.length - q : Nat) : Int) := by omega
          obtain ⟨⟨kk, vv⟩, hxx⟩ : ∃ x, L[q + r]? = some x := ⟨_, List.getElem?_eq_getElem (by omega)⟩
          obtain ⟨x0, x1⟩ := icells_at L _ _ hxx
          obtain ⟨i0, j0⟩ := List.getElem?_eq_some_iff.1 x0
          obtain ⟨i1, j1⟩ := List.getElem?_eq_some_iff.1 x1
          have y0 := HK2.out.cell ((HP.out.s.cells rfl _ i0).trans (by rw [j0])) (fun h => h)
          have y1 := HK2.out.cell ((HP.out.s.cells rfl _ i1).trans (by rw [j1])) (fun h => h)
          have ea : (q + r) * 2 = q * 2 + r * 2 := by omega
          rw [ea] at y0 y1
          have HXX := hid hxx
          clear x0 x1 i0 j0 i1 j1 hxx ea
          have HN2 := hid (row_new (wB.alloc (.cells #[.int .u64 kk, .int .u64 vv] 33)) (.cells #[.int .u64 kk, .int .u64 vv] 33))
          rw [show (wB.alloc (.cells #[.int .u64 kk, .int .u64 vv] 33)).heap.size = wB.heap.size + 1 by simp] at HN2
          go_wp2_with (at_builtin; refine wpList_app_seg rfl (.tmp 53) (.tmp 55) 29 rfl 33 (.agg #[.int .u64 0, .int .u64 0]) 2 16 Try.underlying29 infoS rfl (by decide) (.slice a2 ac2.length c2') ac2.length (icells ac2) rfl (by exact (HS2.out.alloc _).alloc _) (.slice (some ⟨wB.heap.size + 1, 0, none⟩) 1 1) rfl 1 [.int .u64 kk, .int .u64 vv] (by exact (Seg.mk (size := 2) (n := 1) (cap := 1) HN2.out (Nat.le_refl _) (by unfold maxLen; omega) (by simp)).src (by intro u hu; simp at hu; rcases hu with rfl | rfl <;> rfl)) (by unfold maxLen; omega) (by omega) ?_; intro a3 c3 w3 hs3 hk3 hf3; have HS3 := hid hs3; have HK3 := hid hk3; have HF3 := hid hf3; clear hs3 hk3 hf3)
          · have hRe := HR2.out
            rw [upTo_stop HW.out HL.out HXX.out (by omega), List.append_nil] at hRe
            subst hRe
            go_ret
            exact ⟨_, _, rfl, HS2.out.alloc _, HFr2.out, HK2.out.alloc _⟩
          · have hl3 : (ac2 ++ [(kk, vv)]).length = ac2.length + 1 := by simp
            have hRe := HR2.out
            rw [upTo_take HL.out HXX.out (by show kk ≤ to; omega)] at hRe
            have hk5 := (((HK2.out.alloc _).alloc _).trans' HK3.out (fun g hg => .inr (HFr2.out g hg)))
            have hs5 := HS3.out
            have hf5 : ∀ g, (Value.slice a3 (ac2.length + 1) c3).ownBlock = some g → w.heap.size ≤ g := fun g hg => by
              rcases HF3.out g hg with e | e
              · exact HFr2.out g e
              · have := HK2.out.size; simp at e; omega
            go_roundw
            case rel => exact ⟨r + 1, ac2 ++ [(kk, vv)], a3, c3, by omega, by rw [hl3], by go_num, by rw [hl3, icells_append]; exact hs5, by rw [hl3]; exact hf5, hk5, by rw [← Nat.add_assoc]; simpa using hRe⟩
            case measure => simp [intOf]; omega
        · obtain rfl : r = L.length - q := by omega
          have hRe := HR2.out
          rw [show q + (L.length - q) = L.length by omega, restP_next HL.out] at hRe
          have hnx : ∀ M, (pl S)[p + 1]? = some M → 0 < M.length := fun M hM => (HW.out.ne M (List.mem_of_getElem? hM)).1
          go_wp2
          go_roundw
          case rel => first | exact ⟨p + 1, 0, ac2, a2, c2', by omega, rfl, by go_num, rfl, HS2.out, HFr2.out, HK2.out, hnx, hRe⟩ | ((repeat apply Exists.intro) <;> exact ⟨⟨p + 1, 0, ac2, a2, c2', by omega, rfl, by go_num, rfl, HS2.out, HFr2.out, HK2.out, hnx, hRe⟩, rfl⟩)
          case measure => simp [intOf]; omega
    · obtain rfl : p = S.length := by omega
      have hRe := HR.out
      rw [restP_done (by simp [pl])] at hRe
      have hRe' : R = acc := by simpa [upTo] using hRe
      subst hRe'
      go_wp2
      go_ret
      exact ⟨_, _, rfl, HS.out, HFr.out, HK.out⟩
end Go.Proofs.Ytfmohmlpcielnaa
