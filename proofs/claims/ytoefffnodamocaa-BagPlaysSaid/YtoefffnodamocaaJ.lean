/- The document's bag: DocPut, DocTake. -/
import Derived.Test.YtoefffnodamocaaG
import Derived.Deep.RegionHeld3
import Derived.Deep.RegionLaw
namespace Go.Proofs.Ytoefffnodamocaa
open Go.RowKit

theorem twin_sl (v : Value) (l : List Int) (w : World) (h : Bts w v l) (hl : l.length ≤ 140737488351232) :
    Calls Try.prog 16 #[v] w fun e w' => ∃ pa pc, e = .returned (.slice pa l.length pc) ∧ Own w' 5 1 (.slice pa l.length pc) l.length (u8s l) ∧ (∀ g, (Value.slice pa l.length pc).ownBlock = some g → w.heap.size ≤ g) ∧ Kept (fun _ => False) w w' := twin_any h hl

set_option maxRecDepth 100000 in
set_option maxHeartbeats 1000000 in
theorem docput_any {w : World} {bb : Nat} {L : List (List Int)} {F : Nat → Prop} (h : BagAt 36 w bb L F) (v : Value) (l : List Int) (hv : Bts w v l) (hl : l.length ≤ 140737488351232) (hL : L.length ≤ 2000) :
    Calls Try.prog 23 #[.pointer (some ⟨bb, 0, none⟩), v] w fun e w' => e = .returned (.int .i64 (putE L l)) ∧ Kept F w w' ∧
      ∃ F', BagAt 36 w' bb (putL L l) F' ∧ (∀ k, F' k → F k ∨ w.heap.size ≤ k) := by
  have H := hid h
  have HV := hid hv
  obtain ⟨a0, c0, rfl, _⟩ := hv
  obtain ⟨ao, cap, ps, h1, h2, h3, h4, h5⟩ := h
  have c := row_cell h1 0
  simp at c
  have cf := row_free h1 0
  have HL := hid hl; clear hl
  have HLL := hid hL; clear hL
  by_cases e1 : 16384 < l.length
  · have e1' : (16384 : Int) < (l.length : Int) := by omega
    clear h1 h2 h3 h4 h5 c cf
    have HE := hid e1; clear e1
    go_enter Try.func23, Try.ntmps23
    go_wp2
    go_ret
    have hE : putE L l = 2 := by simp [putE, HE.out]
    exact ⟨ret_int hE.symm, Kept.refl _ _, F, by simp only [putL, hE]; exact H.out, fun k hk => .inl hk⟩
  · have e1' : ¬ (16384 : Int) < (l.length : Int) := by omega
    by_cases e2 : l.length = 0
    · have e2' : ((l.length : Int) == 0) = true := by rw [beq_iff_eq]; omega
      clear h1 h2 h3 h4 h5 c cf
      have HE := hid e1; clear e1
      have HE2 := hid e2; clear e2
      go_enter Try.func23, Try.ntmps23
      go_wp2
      go_ret
      have hE : putE L l = 3 := by simp [putE, HE2.out, HE.out]
      exact ⟨ret_int hE.symm, Kept.refl _ _, F, by simp only [putL, hE]; exact H.out, fun k hk => .inl hk⟩
    · have e2' : ((l.length : Int) == 0) = false := by rw [beq_eq_false_iff_ne]; omega
      by_cases e3 : 2000 ≤ L.length
      · have e3' : (2000 : Int) ≤ (L.length : Int) := by omega
        clear h1 h2 h3 h4 h5
        have HE := hid e1; clear e1
        have HE2 := hid e2; clear e2
        have HE3 := hid e3; clear e3
        go_enter Try.func23, Try.ntmps23
        go_wp2
        go_ret
        have hE : putE L l = 10 := by simp [putE, HE.out, HE2.out, HE3.out]
        exact ⟨ret_int hE.symm, Kept.refl _ _, F, by simp only [putL, hE]; exact H.out, fun k hk => .inl hk⟩
      · have e3' : ¬ (2000 : Int) ≤ (L.length : Int) := by omega
        have HE := hid e1; clear e1
        have HE2 := hid e2; clear e2
        have HE3 := hid e3; clear e3
        have H1 := hid h1; clear h1
        have H2 := hid h2; clear h2
        have H3 := hid h3
        have HFB := hid h4
        have HFL := hid h5
        have H1' : ∀ (w2 : World), Kept (fun _ => False) w w2 → ∀ o, (w2.alloc o).heap[bb]? = some (.cells #[.slice ao L.length cap] 36 (0, 0)) := fun w2 k o => row_old ((k.block bb (row_lt H1.out) (fun h => h)).trans H1.out) o
        have H3' : ∀ (w2 : World), Kept (fun _ => False) w w2 → ∀ o, Pays (w2.alloc o) ps L (fun k => F k ∨ w.heap.size ≤ k) := fun w2 k o => (h3.kept ((k.alloc o)) (fun _ _ h => h)).mono (fun _ h => .inl h)
        clear h3 h4 h5
        have X1 := hid H1'; clear H1'
        have X3 := hid H3'; clear H3'
        go_enter Try.func23, Try.ntmps23
        go_wp2_with fail
        go_region_law (first
            | (refine step_app rfl (.tmp 27) (.tmp 30) 34 rfl 22 (.slice none 0 0) 1 24 Try.underlying34 info22 rfl (by decide) (.slice ao L.length cap) L.length ps (by simp [Act.eval, Act.put]) (by exact ((H2.out.kept HK.out (fun _ _ h => h)).alloc _)) _ (by simp [Act.eval, Act.put]; rfl) 1 [.slice pa l.length pc] (by exact src_one _ rfl) (by have := HLL.out; simp only [maxLen]; omega) (by have := HLL.out; omega) ?_; intro a3 c3' w3 hown3 hk3 hf3 _; have hbg := bag_grow (G := fun k => F k ∨ w.heap.size ≤ k) (X3.out w2 HK.out _) (X1.out w2 HK.out _) (.inl HFB.out) ((H2.out.kept HK.out (fun _ _ h => h)).alloc _) (fun g hg => .inl (HFL.out g hg)) (HOWN.out.alloc _) (fun g hg => .inr (HFR.out g hg)) (by have := HE.out; omega) hown3 hk3 hf3 (by decide) (by decide); have c4 := row_cell hbg.1 0; simp at c4; have f4 := row_free hbg.1 0; have HBG := hid hbg; have HK3 := hid hk3; clear hbg hown3 hk3 hf3)
            | (go_simp; go_at_call 16; refine (twin_sl _ l _ (by exact HV.out) HL.out).mono ?_; rintro e w2 ⟨pa, pc, rfl, hown, hfr, hk⟩; have HOWN := hid hown; have HFR := hid hfr; have HK := hid (Kept.of_drew hk); have c2 := HK.out.cell c (fun h => h); have l2 : bb < w2.heap.size := World.block_lt_of_cell? _ _ c2; have c3 : ∀ o, (w2.alloc o).cell? ⟨bb, 0, none⟩ = some (.slice ao L.length cap) := (fun o => by rw [World.cell?_alloc_lt _ _ _ l2]; exact c2); clear hown hfr hk))
        all_goals
          go_wp2
          go_ret
          have hE : putE L l = 0 := by simp [putE, HE.out, HE2.out, HE3.out]
          refine ⟨ret_int hE.symm, ?_, _, by simp only [putL, hE]; exact HBG.out.2, fun k hk => ?_⟩
          · exact ((((HK.out.mono (G := F) (fun _ _ h => h.elim)).alloc _).trans' HK3.out (fun i hi => .inl (HFL.out i hi)))).setCell (.inl HFB.out) _
          · have := HK.out.size
            rcases hk with (hk | hk) | hk
            · exact .inl hk
            · exact .inr hk
            · right; simp at hk; omega

theorem bag_list {T : TypeId} {w : World} {bb : Nat} {L : List (List Int)} {G : Nat → Prop} {old v : Value} {ps : List Value} (hb : w.heap[bb]? = some (.cells #[old] T (0, 0))) (hl : Own w 22 1 v L.length ps) (hp : Pays w ps L G) (hv : ∀ g, v.ownBlock = some g → G g) (hG : G bb) (hT : T ≠ 22) (hT5 : T ≠ 5) :
    BagAt T (w.setCell ⟨bb, 0, none⟩ v) bb L G := by
  obtain ⟨ao', cap', rfl⟩ := hl.isSlice
  have k4 : Kept (fun k => k = bb) w (w.setCell ⟨bb, 0, none⟩ (.slice ao' L.length cap')) := (Kept.refl (fun k => k = bb) w).setCell (.inl rfl) _
  refine ⟨ao', cap', ps, by simpa using row_set hb 0 (.slice ao' L.length cap'), ?_, ?_, hG, hv⟩
  · exact hl.kept k4 (fun g hg e => by subst e; exact hl.ne_block hb (fun e => hT e.symm) hg)
  · exact pays_other hp k4 (fun g hg => by subst hg; exact ⟨_, T, hb, hT5⟩)
/-- a list without its element i -/
def but {α : Type} (i : Nat) (l : List α) : List α := l.take i ++ l.drop (i + 1)
theorem but_skip {α : Type} (i : Nat) (l : List α) (h : i < l.length) : but i (l.take (i + 1)) = but i (l.take i) := by
  simp only [but, List.take_take]
  rw [List.drop_of_length_le (by simp; omega), List.drop_of_length_le (by simp; omega), Nat.min_eq_left (by omega), Nat.min_self]
theorem but_step {α : Type} (i k : Nat) (l : List α) (h : k < l.length) (hk : k ≠ i) : but i (l.take (k + 1)) = but i (l.take k) ++ [l[k]] := by
  rw [List.take_succ_eq_append_getElem h]
  simp only [but]
  by_cases hki : k < i
  · have e1 : (l.take k ++ [l[k]]).length ≤ i := by simp; omega
    have e2 : (l.take k).length ≤ i := by simp; omega
    rw [List.take_of_length_le e1, List.drop_of_length_le (Nat.le_succ_of_le e1), List.take_of_length_le e2, List.drop_of_length_le (Nat.le_succ_of_le e2)]
    simp only [List.append_nil]
  · rw [List.take_append_of_le_length (by simp; omega), List.drop_append_of_le_length (by simp; omega), List.append_assoc]

set_option maxRecDepth 100000 in
set_option maxHeartbeats 1000000 in
theorem doctake_yes {w : World} {bb : Nat} {L : List (List Int)} {F : Nat → Prop} (h : BagAt 36 w bb L F) (hF : ∀ k, F k → k < w.heap.size) (hL : L.length ≤ 2000) (i : Nat) (l : List Int) (hi : L[i]? = some l) (last : Bool) :
    Calls Try.prog 25 #[.pointer (some ⟨bb, 0, none⟩), .int .i64 i, .bool false, .bool last] w fun e w' => ∃ p, e = .returned (.tuple #[p, .int .i64 0]) ∧ Byt w' p l ∧ Kept F w w' ∧ ∃ F', BagAt 36 w' bb (if last then without L i ++ [l] else without L i) F' ∧ (∀ k, F' k → F k ∨ w.heap.size ≤ k) := by
  have H := hid h
  obtain ⟨ao, cap, ps, h1, h2, h3, h4, h5⟩ := h
  have hlt : i < L.length := (List.getElem?_eq_some_iff.1 hi).1
  have c := row_cell h1 0
  simp at c
  obtain ⟨g, cap', e0, hn1, hn2⟩ := h2.some_of_pos (by omega)
  simp only [Value.slice.injEq] at e0
  obtain ⟨rfl, _, rfl⟩ := e0
  have hps : i < ps.length := by rw [h3.1]; exact hlt
  obtain ⟨q1, q2, q3⟩ := h3.2 i ps[i] l (by simp [hps]) hi
  have c2 := h2.cells (g := g) rfl i hps
  obtain ⟨pa, pc, hp⟩ := q1.isSlice
  rw [hp] at q1 q2 c2
  have hlt' : (i : Int) < (L.length : Int) := by omega
  have hd1 : decide ((i : Int) < 0) = false := by simp
  have hd2 : decide (L.length ≤ i) = false := by simp; omega
  have hll : ps.length = L.length := h3.1
  have HLL := hid hll; clear hll
  have H1 := hid h1; clear h1
  have H2 := hid h2; clear h2
  have H3 := hid h3; clear h3
  have H4 := hid h4; clear h4
  have H5 := hid h5; clear h5
  have HP := hid hp; clear hp
  have Q1 := hid q1; clear q1
  have Q2 := hid q2; clear q2
  have HI := hid hi; clear hi
  have HF := hid hF; clear hF
  clear hn1
  unfold maxLen at hn2
  go_enter Try.func25, Try.ntmps25
  go_wp2_with fail
  go_loopw [11, 43] (fun out j wr => ∃ (k : Nat) (oa : Option Addr) (oc : Nat), k ≤ L.length ∧ j = .int .i64 k ∧ out = .slice oa (but i (ps.take k)).length oc ∧ Own wr 22 1 (.slice oa (but i (ps.take k)).length oc) (but i (ps.take k)).length (but i (ps.take k)) ∧ (∀ g, (Value.slice oa (but i (ps.take k)).length oc).ownBlock = some g → w.heap.size ≤ g) ∧ Kept (fun _ => False) w wr)
    (fun _ j _ => L.length - (intOf j).toNat)
  case atStart => exact ⟨0, none, 0, Nat.zero_le _, rfl, by simp [but], by simpa [but] using Own.nil _ _ _, by simp [Value.ownBlock], Kept.refl _ _⟩
  case round =>
    obtain ⟨k, oa, oc, hk, rfl, rfl, ho, hf, hkp⟩ := hrel
    have HO := hid ho; clear ho
    have HFO := hid hf; clear hf
    have HK := hid hkp; clear hkp
    by_cases hkl : k < L.length
    · have hkp : k < ps.length := by have := HLL.out; omega
      have c3 := HK.out.cell (H2.out.cells (g := g) rfl k hkp) id
      obtain ⟨pka, pkc, hpk⟩ := (H3.out.2 k ps[k] L[k] (by simp [hkp]) (by simp [hkl])).1.isSlice
      rw [hpk] at c3
      have HPK := hid hpk; clear hpk
      by_cases hki : k = i
      · subst hki
        have hne : ((k : Int) != (k : Int)) = false := by simp
        go_wp2
        go_roundw
        case rel =>
          have e := but_skip k ps hkp
          exact ⟨k + 1, oa, oc, by omega, by simp, by rw [e], by rw [e]; exact HO.out, by rw [e]; exact HFO.out, HK.out⟩
        case measure => simp [intOf]; omega
      · have hne : ((k : Int) != (i : Int)) = true := by simp; omega
        have e := but_step i k ps hkp hki
        rw [HPK.out] at e
        have E := hid e; clear e
        have hlb : (but i (ps.take k)).length ≤ 2000 := by simp [but]; have := HLL.out; omega
        obtain ⟨lb, hlb2⟩ : ∃ lb, lb = but i (ps.take k) := ⟨_, rfl⟩
        rw [← hlb2] at HO HFO E hlb ⊢
        have HLB := hid hlb2; clear hlb2
        go_wp2_with (at_builtin; refine wpList_app rfl _ _ 34 rfl 22 (.slice none 0 0) 1 24 Try.underlying34 info22 rfl (by decide) (.slice oa lb.length oc) lb.length lb rfl (by exact HO.out.alloc _) _ rfl 1 [.slice pka L[k].length pkc] (by exact src_one _ rfl) (by simp only [maxLen]; omega) (by omega) ?_)
        intro a3 c3 w3 hown3 hk3 hf3 _
        have HO3 := hid hown3; clear hown3
        have HK3 := hid hk3; clear hk3
        have HF3 := hid hf3; clear hf3
        go_wp2
        go_roundw
        case rel =>
          have hL : (lb ++ [Value.slice pka L[k].length pkc]).length = lb.length + 1 := by simp
          have hfr3 : ∀ g, (Value.slice a3 (lb.length + 1) c3).ownBlock = some g → w.heap.size ≤ g := fun g hg => by
            rcases HF3.out g hg with h | h
            · exact HFO.out g h
            · have := HK.out.size; (try simp at h); omega
          exact ⟨k + 1, a3, c3, by omega, by simp, by rw [E.out, hL], by rw [E.out, hL]; exact HO3.out, by rw [E.out, hL]; exact hfr3,
            ((HK.out.alloc _).trans' HK3.out (fun i hi => .inr (HFO.out i hi)))⟩
        case measure => simp [intOf]; omega
    · obtain rfl : k = L.length := by omega
      have e0 : ps.take L.length = ps := by rw [← HLL.out, List.take_length]
      rw [e0] at HO HFO ⊢
      have hbl : (but i ps).length = (without L i).length := by simp only [but, without, List.length_append, List.length_take, List.length_drop, HLL.out]
      have hblen : (without L i).length ≤ 2000 := by rw [without_len hlt]; omega
      have HPAY := hid (show Pays wr (but i ps) (without L i) F from pays_del (H3.out.kept HK.out (fun _ _ => id)) i)
      obtain ⟨lb, hlb⟩ : ∃ lb, lb = but i ps := ⟨_, rfl⟩
      rw [← hlb] at HO HFO hbl HPAY ⊢
      clear hlb
      have hbb := (HK.out.block bb (row_lt H1.out) id).trans H1.out
      cases last with
      | false =>
        have c4 := row_cell hbb 0
        simp at c4
        have f4 := row_free hbb 0
        have HBB := hid hbb; clear hbb
        have HBL := hid hbl; clear hbl
        go_wp2
        go_ret2
        refine ⟨_, rfl, ?_, ?_, fun k => F k ∨ w.heap.size ≤ k, ?_, fun k hk => hk⟩
        · have := Q1.out.byt
          refine (this.kept HK.out (fun _ _ => id)).kept ((Kept.refl (fun k => k = bb) _).setCell (.inl rfl) _) (fun g hg e => ?_)
          subst e
          exact Q1.out.ne_block H1.out (by decide) hg
        · exact (HK.out.mono (fun _ _ h => h.elim)).setCell (.inl H4.out) _
        · refine bag_list HBB.out (by rw [← HBL.out]; exact HO.out) (HPAY.out.mono fun _ h => .inl h) (fun g hg => .inr (HFO.out g hg)) (.inl H4.out) (by decide) (by decide)
      | true =>
        have HBB := hid hbb; clear hbb
        have HBL := hid hbl; clear hbl
        have hlb2 : lb.length ≤ 2000 := by have := HBL.out; omega
        go_wp2_with (at_builtin; refine wpList_app rfl _ _ 34 rfl 22 (.slice none 0 0) 1 24 Try.underlying34 info22 rfl (by decide) (.slice oa lb.length oc) lb.length lb rfl (by exact HO.out.alloc _) _ rfl 1 [.slice pa l.length pc] (by exact src_one _ rfl) (by simp only [maxLen]; omega) (by omega) ?_)
        intro a3 c3 w3 hown3 hk3 hf3 _
        have HO3 := hid hown3; clear hown3
        have HK3 := hid (((Kept.refl (fun k => (Value.slice oa lb.length oc).ownBlock = some k) wr).alloc _).trans hk3); clear hk3
        have HF3 := hid hf3; clear hf3
        have hnb : (Value.slice oa lb.length oc).ownBlock ≠ some bb := HO.out.ne_block HBB.out (by decide)
        have hbb3 := (HK3.out.block bb (row_lt HBB.out) hnb).trans HBB.out
        have c4 := row_cell hbb3 0
        simp at c4
        have f4 := row_free hbb3 0
        have HBB3 := hid hbb3; clear hbb3 hnb
        have hpay3 := pays_other HPAY.out HK3.out (fun g hg => by obtain ⟨c, e⟩ := HO.out.block hg; exact ⟨c, 22, e, by decide⟩)
        have hq3 := (Q1.out.kept HK.out (fun _ _ => id)).kept HK3.out (fun g hg hg2 => by
          obtain ⟨c, e⟩ := HO.out.block hg2
          exact (Q1.out.kept HK.out (fun _ _ => id)).ne_block e (by decide) hg)
        have HPAY3 := hid (pays_snoc hpay3 hq3 Q2.out q3); clear hpay3
        have HQ3 := hid hq3; clear hq3
        go_wp2
        go_ret2
        refine ⟨_, rfl, ?_, ?_, fun k => F k ∨ w.heap.size ≤ k, ?_, fun k hk => hk⟩
        · refine HQ3.out.byt.kept ((Kept.refl (fun k => k = bb) _).setCell (.inl rfl) _) (fun g hg e => ?_)
          subst e
          exact Q1.out.ne_block H1.out (by decide) hg
        · exact ((HK.out.mono (G := F) (fun _ _ h => h.elim)).trans' HK3.out (fun g hg => .inr (HFO.out g hg))).setCell (.inl H4.out) _
        · refine bag_list HBB3.out (by rw [List.length_append, ← HBL.out]; exact HO3.out) (HPAY3.out.mono fun _ h => .inl h) (fun g hg => .inr ?_) (.inl H4.out) (by decide) (by decide)
          rcases HF3.out g hg with h | h
          · exact HFO.out g h
          · have := HK.out.size; (try simp at h); omega
end Go.Proofs.Ytoefffnodamocaa
