/- edges, Spans, Free of the document: the walks. -/
import Derived.Test.YtglcpiokmieppaaRc
namespace Go.Proofs.Ytglcpiokmieppaa
open Go.RowKit

def pcells (Rs : List (Nat × List Dd)) : List Value := Rs.map fun r => .pointer (some ⟨r.1, 0, none⟩)
def RsAt (w : World) (Rs : List (Nat × List Dd)) : Prop := ∀ r ∈ Rs, (∃ F, RefAt F w r.1 r.2) ∧ Bd r.2 ∧ r.2.length ≤ 1000000
theorem RsAt.same {w w' : World} {Rs : List (Nat × List Dd)} (h : RsAt w Rs) (k : Kept (fun _ => False) w w') : RsAt w' Rs := fun r hr => by
  obtain ⟨⟨F, h1⟩, h2⟩ := h r hr
  exact ⟨⟨F, h1.kept k (fun _ _ h => h)⟩, h2⟩
theorem edgesD_take (l : List Int) (D : List Dd) (k : Nat) (hk : k < D.length) : edgesD l (D.take (k + 1)) = edge1 (edgesD l (D.take k)) D[k] := by rw [List.take_succ_eq_append_getElem hk, edgesD_snoc]
set_option maxRecDepth 100000 in
set_option maxHeartbeats 4000000 in
theorem edges_any {F : Nat → Prop} {w : World} {v : Value} {Rs : List (Nat × List Dd)} (h : Lies F w 1 v Rs.length (pcells Rs)) (hR : RsAt w Rs) :
    Calls Try.prog 30 #[v] w (NumPost w.heap.size w (edgesL Rs)) := by
  have HL := hid h
  have HR := hid hR
  obtain ⟨a1, c1, rfl, m1, m2, _⟩ := h
  unfold maxLen at m2
  clear hR
  have E0 := hid (show Lies (fun g => g < w.heap.size) (w.alloc (.cells #[.int .u32 0] 23)) 1 (.slice (some ⟨w.heap.size, 0, none⟩) 1 1) 1 (ncells [0]) from
    ⟨_, 1, rfl, Nat.le_refl _, by decide, rfl, (fun h => nomatch h), fun _ => ⟨w.heap.size, 0, rfl, by omega, by simp, fun j u hu => by match j, hu with | 0, hu => simp [ncells] at hu; subst hu; simp⟩, ncells_one _⟩)
  go_enter Try.func30, Try.ntmps30
  go_wp2_with fail
  go_loopw [3, 11] (fun o i wr => ∃ k : Nat, k ≤ Rs.length ∧ i = .int .i64 k ∧ Kept (fun _ => False) w wr ∧ ∃ lo lc, o = .slice lo (edgesL (Rs.take k)).length lc ∧ Lies (fun g => g < w.heap.size) wr 1 (.slice lo (edgesL (Rs.take k)).length lc) (edgesL (Rs.take k)).length (ncells (edgesL (Rs.take k)))) (fun _ i _ => Rs.length - (intOf i).toNat)
  case atStart => exact ⟨0, Nat.zero_le _, rfl, (Kept.refl _ _).alloc _, _, _, rfl, E0.out⟩
  case round =>
    clear E0
    obtain ⟨k, hk, rfl, hkp, lo, lc, rfl, hl⟩ := hrel
    have HK := hid hkp; have HE := hid hl; clear hkp hl
    by_cases hlt : k < Rs.length
    · obtain ⟨g1, o1, q1, e1, n1, _, _, _, z1⟩ := HL.out.cell (by omega)
      simp only [Value.slice.injEq] at e1
      obtain ⟨rfl, _, rfl⟩ := e1
      have x0 : (pcells Rs)[k]? = some (.pointer (some ⟨Rs[k].1, 0, none⟩)) := by simp [pcells, hlt]
      have y0 := HK.out.cell (z1 _ _ x0) id
      obtain ⟨⟨F1, hr1⟩, hbd, hln⟩ := HR.out _ (List.getElem_mem hlt)
      have hsr := edgesL_srt (Rs.take k) (fun r hr => (HR.out r (List.mem_of_mem_take hr)).2.1)
      have htk : edgesL (Rs.take (k + 1)) = edgesD (edgesL (Rs.take k)) Rs[k].2 := by rw [List.take_succ_eq_append_getElem hlt, edgesL_snoc]
      obtain ⟨⟨rb, D⟩, hrd⟩ : ∃ r, Rs[k] = r := ⟨_, rfl⟩
      rw [hrd] at y0 hr1 hbd hln htk
      simp only at y0 hr1 hbd hln htk
      obtain ⟨ao, cap, g1', g2', _⟩ := (hr1.kept HK.out (fun _ _ h => h)).c
      have c0 := row_cell g1' 0
      simp at c0
      have HD := hid (g2'.lies (F := fun _ => False) (dcells_one D) (fun _ _ h => h))
      have HBD := hid hbd; have HSR := hid hsr; have HTK := hid htk
      clear x0 z1 n1 hrd hr1 hbd hsr htk g1' g2'
      go_wp2_with fail
      obtain ⟨wo, rfl⟩ : ∃ wo : World, wo = wr := ⟨_, rfl⟩
      go_loopw [3, 20] (fun o i wr => ∃ j : Nat, j ≤ D.length ∧ i = .int .i64 j ∧ Kept (fun _ => False) wo wr ∧ ∃ lo lc, o = .slice lo (edgesD (edgesL (Rs.take k)) (D.take j)).length lc ∧ Lies (fun g => g < w.heap.size) wr 1 (.slice lo (edgesD (edgesL (Rs.take k)) (D.take j)).length lc) (edgesD (edgesL (Rs.take k)) (D.take j)).length (ncells (edgesD (edgesL (Rs.take k)) (D.take j)))) (fun _ i _ => D.length - (intOf i).toNat)
      case atStart => exact ⟨0, Nat.zero_le _, rfl, Kept.refl _ _, lo, lc, rfl, HE.out⟩
      case round =>
        clear HE c0
        obtain ⟨j, hj, rfl, hkp, lo, lc, rfl, hl⟩ := hrel
        have HK2 := hid hkp; have HE := hid hl; clear hkp hl
        by_cases hlt2 : j < D.length
        · obtain ⟨g3, o3, q3, e3, n3, m3, _, _, z3⟩ := HD.out.cell (by omega)
          simp only [Value.slice.injEq] at e3
          obtain ⟨rfl, _, rfl⟩ := e3
          unfold maxLen at m3
          obtain ⟨x0, x1, x2⟩ := dcells_at D j D[j] (by simp [hlt2])
          have y1 := HK2.out.cell (z3 _ _ x0) id
          have y2 := HK2.out.cell (z3 _ _ x1) id
          have y3 := HK2.out.cell (z3 _ _ x2) id
          have htk := edgesD_take (edgesL (Rs.take k)) D j hlt2
          have hbj := HBD.out _ (List.getElem_mem hlt2)
          have hsj := edgesD_srt (D.take j) HSR.out (fun d hd => HBD.out d (List.mem_of_mem_take hd))
          obtain ⟨⟨p, q, s⟩, hpq⟩ : ∃ x, D[j] = x := ⟨_, rfl⟩
          rw [hpq] at y1 y2 y3 htk hbj
          simp only [← Nat.add_assoc] at y1 y2 y3 htk hbj
          obtain ⟨E, hE⟩ : ∃ E, E = edgesD (edgesL (Rs.take k)) (D.take j) := ⟨_, rfl⟩
          rw [← hE] at htk hsj HE ⊢
          have HTJ := hid htk; have HSJ := hid hsj
          clear x0 x1 x2 z3 hpq htk hsj hE
          have HE2 := hid (HE.out.same ((Kept.refl (fun _ => False) wr).alloc (.cells #[.int .u32 p, .int .u32 q, .bool s] 33)))
          have R2 := hid (row_new wr (.cells #[.int .u32 p, .int .u32 q, .bool s] 33))
          have hsz : w.heap.size ≤ wr.heap.size := Nat.le_trans HK.out.size HK2.out.size
          have hI1 := HSJ.out.ins p hbj.1 (by omega)
          have HI1 := hid hI1
          have nE := HSJ.out.len; have nE1 := hI1.len
          clear hI1
          go_wp2_with fail
          refine (ins_any2 HE2.out (by simp; omega) nE p).mono ?_
          rintro e w6 ⟨lo2, lc2, rfl, hl6, hk6⟩
          have hr6 := (hk6.block _ (row_lt R2.out) id).trans R2.out
          have k0 := row_cell hr6 0; have k1 := row_cell hr6 1; have k2 := row_cell hr6 2
          simp at k0 k1 k2
          have HE6 := hid hl6; have HK6 := hid ((HK2.out.alloc _).trans hk6)
          clear hl6 hk6 hr6 HE HE2 R2
          by_cases hm : q = 4294967295
          · have hmb : (q != 4294967295) = false := by simpa using hm
            have hed : edge1 E (p, q, s) = ins E p := by unfold edge1; rw [if_pos hm]
            have HED := hid hed; clear hed
            go_wp2
            go_roundw
            case rel => exact ⟨j + 1, hlt2, by go_num, HK6.out, lo2, lc2, by rw [HTJ.out, HED.out], by rw [HTJ.out, HED.out]; exact HE6.out⟩
            case measure => simp [intOf]; omega
          · have hmb : (q != 4294967295) = true := by simpa using hm
            have hw : IntKind.u32.wrap (q + 1) = q + 1 := by simp [IntKind.wrap, IntKind.bits, IntKind.signed]; omega
            have hed : edge1 E (p, q, s) = ins (ins E p) (q + 1) := by unfold edge1; rw [if_neg hm]
            have HED := hid hed; clear hed
            have hs6 : w.heap.size ≤ w6.heap.size := Nat.le_trans HK.out.size HK6.out.size
            go_wp2_with fail
            refine (ins_any2 HE6.out hs6 nE1 (q + 1)).mono ?_
            rintro e w7 ⟨lo3, lc3, rfl, hl7, hk7⟩
            have HE7 := hid hl7; have HK7 := hid (HK6.out.trans hk7)
            clear hl7 hk7 HE6 HK6 k0 k1 k2
            go_wp2
            go_roundw
            case rel => exact ⟨j + 1, hlt2, by go_num, HK7.out, lo3, lc3, by rw [HTJ.out, HED.out], by rw [HTJ.out, HED.out]; exact HE7.out⟩
            case measure => simp [intOf]; omega
        · obtain rfl : j = D.length := by omega
          have ht : D.take D.length = D := List.take_length
          have hl := HE.out
          rw [ht, ← HTK.out] at hl
          have HE9 := hid hl
          rw [ht, ← HTK.out]
          clear hl ht HE
          go_wp2
          go_roundw
          case rel => exact ⟨k + 1, hlt, by go_num, HK.out.trans HK2.out, lo, lc, rfl, HE9.out⟩
          case measure => simp [intOf]; omega
    · obtain rfl : k = Rs.length := by omega
      have ht : Rs.take Rs.length = Rs := List.take_length
      have hl := HE.out
      rw [ht] at hl
      have HE9 := hid hl
      rw [ht]
      clear hl ht HE
      go_wp2
      go_ret
      exact ⟨lo, lc, rfl, HE9.out, HK.out⟩
end Go.Proofs.Ytglcpiokmieppaa
