/- Faults: errors.Join. -/
import Derived.Test.YtlkhbepmkembgaaDoorX
namespace Go.Proofs.YtlkhbepmkembgaaDoor
open Go.RowKit
/-- errors with what they are: links and a root -/
abbrev EL := List (Value × (List FL × Int))
def PAt (w : World) (P : EL) : Prop := ∀ p ∈ P, ErO w p.1 p.2.1 p.2.2 ∧ p.2.1 ≠ []
theorem PAt.kept {w w' : World} {P : EL} (h : PAt w P) (k : Kept (fun _ => False) w w') : PAt w' P := fun p hp => ⟨(h p hp).1.kept k, (h p hp).2⟩
/-- those that are errors -/
def live (P : EL) : EL := P.filter (fun p => p.2.2 != 0)
def jsOf (P : EL) : JL := (live P).map (·.2)
def evs (P : EL) : List Value := P.map (·.1)
theorem live_snoc_yes {P : EL} {k : Nat} {p : Value × (List FL × Int)} (hk : P[k]? = some p) (h : p.2.2 ≠ 0) : live (P.take (k + 1)) = live (P.take k) ++ [p] := by
  simp [live, List.take_add_one, hk, List.filter_append, h]
theorem live_snoc_no {P : EL} {k : Nat} {p : Value × (List FL × Int)} (hk : P[k]? = some p) (h : p.2.2 = 0) : live (P.take (k + 1)) = live (P.take k) := by
  simp [live, List.take_add_one, hk, List.filter_append, h]
theorem live_len (P : EL) (k : Nat) : (live (P.take k)).length ≤ P.length := by
  have h1 := List.length_filter_le (fun p : Value × (List FL × Int) => p.2.2 != 0) (P.take k)
  have h2 := List.length_take_le' k P
  unfold live; omega
theorem evs_one (P : EL) (h : ∀ p ∈ P, p.1.oneCell' = true) : ∀ u ∈ evs P, u.oneCell' = true := by
  intro u hu
  simp only [evs, List.mem_map] at hu
  obtain ⟨p, hp, rfl⟩ := hu
  exact h p hp
theorem errInfo : (Tryd.prog.info? 27).map (fun i => (i.zero, i.size, i.bytes)) = some (some .nilIface, 1, 16) := by kernel_rfl
/-- an error reads as nil or as something -/
theorem ErO.shape {w : World} {v : Value} {ls : List FL} {r : Int} (h : ErO w v ls r) : (r = 0 ∧ v = .nilIface) ∨ (r ≠ 0 ∧ (∃ t p, v = .iface t p) ∧ LinksAt w (rootV r) ls v) := by
  by_cases hr : r = 0
  · exact .inl ⟨hr, by subst hr; exact h.nil⟩
  · exact .inr ⟨hr, (h.links hr).iface rfl, h.links hr⟩
set_option maxHeartbeats 1000000 in
set_option maxRecDepth 100000 in
theorem ejoin_any {W : World} {v : Value} {P : EL} (hv : Lies (fun _ => False) W 1 v P.length (evs P)) (hP : PAt W P) (hn : P.length ≤ 10) :
    Calls Tryd.prog 25 #[v] W fun e w' => ∃ b, e = .returned b ∧ Kept (fun _ => False) W w' ∧ ((jsOf P = [] ∧ b = .nilIface) ∨ (jsOf P ≠ [] ∧ JoinAt w' b (jsOf P))) := by
  have HV := hid hv; have HP := hid hP; have HN := hid hn
  obtain ⟨ao, ac, rfl⟩ := hv.isSlice
  clear hv hP
  go_enter Tryd.func25, Tryd.ntmps25
  go_wp2_with fail
  go_loopw [3, 11] (fun n i wr => ∃ k : Nat, k ≤ P.length ∧ i = .int .i64 k ∧ n = .int .i64 ((live (P.take k)).length : Nat) ∧ W = wr) (fun _ i _ => P.length - (RowKit.intOf i).toNat)
  case atStart => exact ⟨0, Nat.zero_le _, rfl, rfl, rfl⟩
  case round =>
    obtain ⟨k, hk, rfl, rfl, rfl⟩ := hrel
    by_cases hlt : k < P.length
    · obtain ⟨p, hp⟩ : ∃ p, P[k]? = some p := ⟨_, List.getElem?_eq_getElem hlt⟩
      obtain ⟨g, off, c, hs, _, _, _, _, hc⟩ := HV.out.cell (by omega)
      simp only [Value.slice.injEq] at hs
      obtain ⟨rfl, _, rfl⟩ := hs
      have cs : W.cell? ⟨g, off + k, none⟩ = some p.1 := hc k p.1 (by simp [evs, hp])
      have hkI : (k : Int) < (P.length : Int) := by omega
      have hll := live_len P k
      have hpm := HP.out p (List.mem_of_getElem? hp)
      rcases hpm.1.shape with ⟨hr, hx⟩ | ⟨hr, ⟨te, pe, hx⟩, _⟩
      · have HX := hid (live_snoc_no hp hr)
        rw [hx] at cs
        obtain ⟨m, hm⟩ : ∃ m, (live (P.take k)).length = m := ⟨_, rfl⟩
        rw [hm] at hll ⊢
        have HM := hid hm
        clear hm hc hp hpm hr hx
        go_wp2_with fail
        go_roundw
        case rel => exact ⟨k + 1, by omega, by go_num, by rw [HX.out, HM.out], trivial⟩
        case measure => (simp only [RowKit.intOf]; omega)
      · have HX := hid (live_snoc_yes hp hr)
        rw [hx] at cs
        obtain ⟨m, hm⟩ : ∃ m, (live (P.take k)).length = m := ⟨_, rfl⟩
        rw [hm] at hll ⊢
        have HM := hid hm
        clear hm hc hp hpm hr hx
        go_wp2_with fail
        go_roundw
        case rel => exact ⟨k + 1, by omega, by go_num, by rw [HX.out, List.length_append, HM.out]; go_num, trivial⟩
        case measure => (simp only [RowKit.intOf]; omega)
    · obtain rfl : k = P.length := by omega
      obtain ⟨N, hN⟩ : ∃ N, (live (P.take P.length)).length = N := ⟨_, rfl⟩
      have HTL := hid (show live (P.take P.length) = live P by rw [List.take_length])
      have hN10 := live_len P P.length
      rw [hN] at hN10 ⊢
      have HNN := hid (show (live P).length = N by rw [← HTL.out, hN])
      clear hN
      by_cases hN0 : N = 0
      · have hNb : ((N : Int) == 0) = true := by rw [hN0]; rfl
        have HJ := hid (show jsOf P = [] by unfold jsOf; rw [List.map_eq_nil_iff]; exact List.eq_nil_of_length_eq_zero (by rw [HNN.out, hN0]))
        clear hN0
        go_wp2_with fail
        go_ret
        exact ⟨_, rfl, Kept.refl _ _, .inl ⟨HJ.out, rfl⟩⟩
      · have hNb : ((N : Int) == 0) = false := by simp; omega
        have HJ := hid (show jsOf P ≠ [] by
          unfold jsOf; rw [Ne, List.map_eq_nil_iff]
          intro e
          have := HNN.out
          rw [e] at this
          exact hN0 this.symm)
        clear hN0
        obtain ⟨i, hi1, hi2, hi3, hi4⟩ := info_parts errInfo
        obtain ⟨w1, hmk, ho1, hg1⟩ := run_makeSlice_owned (P := Tryd.prog) W 0 48 27 i .nilIface 1 Tryd.underlying48 hi1 hi2 hi3 .i64 .i64 N (by omega) (by rw [hi4]; omega) (by unfold maxLen; omega) (Nat.zero_le _)
        have ho1' : Own w1 27 1 (.slice (some ⟨W.heap.size, 0, none⟩) 0 N) 0 [] := ho1
        have hk1 : Kept (fun _ => False) W w1 := (Kept.refl _ _).grown hg1 (fun k h => by cases h)
        obtain ⟨sb, hsb⟩ : ∃ sb, W.heap.size = sb := ⟨_, rfl⟩
        obtain ⟨w2, hw2⟩ : ∃ w2, w1.alloc (.cells #[.slice (some ⟨sb, 0, none⟩) 0 N] 85) = w2 := ⟨_, rfl⟩
        have hk2 : Kept (fun _ => False) w1 w2 := hw2 ▸ (Kept.refl _ _).alloc _
        have hr2 : w2.heap[w1.heap.size]? = some (.cells #[.slice (some ⟨sb, 0, none⟩) 0 N] 85 (0, 0)) := by rw [← hw2]; exact row_new _ _
        obtain ⟨jb, hjb⟩ : ∃ jb, w1.heap.size = jb := ⟨_, rfl⟩
        rw [hjb] at hr2
        rw [hsb] at ho1' hmk
        have HJB := hid (show W.heap.size ≤ jb by rw [← hjb]; exact hk1.size)
        have O2 := hid (ho1'.kept hk2 (fun _ _ => id))
        have R2 := hid hr2
        have K2 := hid (hk1.trans hk2)
        have HSB := hid (show W.heap.size ≤ sb from Nat.le_of_eq hsb)
        have NI := hid hi1
        clear ho1 ho1' hg1 hi1 hi2 hi3 hi4 hk1 hk2 hr2
        go_wp2_with fail
        clear hmk hw2 hjb hsb
        go_loopw [28] (fun i wr => ∃ (k : Nat) (a : Option Addr) (c : Nat), k ≤ P.length ∧ i = .int .i64 k ∧ wr.heap[jb]? = some (.cells #[.slice a (live (P.take k)).length c] 85 (0, 0)) ∧ Own wr 27 1 (.slice a (live (P.take k)).length c) (live (P.take k)).length (evs (live (P.take k))) ∧ (∀ g, (Value.slice a (live (P.take k)).length c).ownBlock = some g → W.heap.size ≤ g) ∧ Kept (fun _ => False) W wr) (fun i _ => P.length - (RowKit.intOf i).toNat)
        case atStart => exact ⟨0, some ⟨sb, 0, none⟩, N, Nat.zero_le _, rfl, R2.out, O2.out, fun g hg => by simp [Value.ownBlock] at hg; rw [← hg]; exact HSB.out, K2.out⟩
        case round =>
          rename World => wr
          obtain ⟨k, a, c, hk, rfl, hrow, ho, hb, hkp⟩ := hrel
          have HO := hid ho; have HB := hid hb; have KW := hid hkp; have RW := hid hrow
          clear ho hb hkp
          by_cases hlt : k < P.length
          · obtain ⟨p, hp⟩ : ∃ p, P[k]? = some p := ⟨_, List.getElem?_eq_getElem hlt⟩
            obtain ⟨g, off, cc, hs, _, _, _, _, hc⟩ := HV.out.cell (by omega)
            simp only [Value.slice.injEq] at hs
            obtain ⟨rfl, _, rfl⟩ := hs
            have cs : wr.cell? ⟨g, off + k, none⟩ = some p.1 := KW.out.cell (hc k p.1 (by simp [evs, hp])) id
            have hkI : (k : Int) < (P.length : Int) := by omega
            have hpm := HP.out p (List.mem_of_getElem? hp)
            rcases hpm.1.shape with ⟨hr, hx⟩ | ⟨hr, ⟨te, pe, hx⟩, _⟩
            · have HX := hid (live_snoc_no hp hr)
              rw [hx] at cs
              clear hc hp hpm hr hx hrow
              go_wp2_with fail
              go_roundw
              case rel => exact ⟨k + 1, a, c, by omega, by go_num, by rw [HX.out]; exact RW.out, by rw [HX.out]; exact HO.out, by rw [HX.out]; exact HB.out, KW.out⟩
              case measure => (simp only [RowKit.intOf]; omega)
            · have HX := hid (live_snoc_yes hp hr)
              have HEV := hid (show evs (live (P.take (k + 1))) = evs (live (P.take k)) ++ [.iface te pe] by rw [HX.out]; simp [evs, hx])
              have HLEN := hid (show (live (P.take (k + 1))).length = (live (P.take k)).length + 1 by rw [HX.out]; simp)
              have hll := live_len P k
              rw [hx] at cs
              have c0 := row_cell hrow 0
              simp at c0
              have HNE := hid (HO.out.ne_block hrow (by decide))
              have HSR := hid (src_one (w := wr) (E := 27) (.iface te pe) rfl)
              obtain ⟨m, hm⟩ : ∃ m, (live (P.take k)).length = m := ⟨_, rfl⟩
              have HM := hid hm
              rw [hm] at hll c0
              have HO' := hid (show Own wr 27 1 (.slice a m c) m (evs (live (P.take k))) by have := HO.out; rwa [hm] at this)
              have HB' := hid (show ∀ g, (Value.slice a m c).ownBlock = some g → W.heap.size ≤ g by have := HB.out; rwa [hm] at this)
              have HNE' := hid (show (Value.slice a m c).ownBlock ≠ some jb by have := HNE.out; rwa [hm] at this)
              have RW' := hid (show wr.heap[jb]? = some (.cells #[.slice a m c] 85 (0, 0)) by have := RW.out; rwa [hm] at this)
              clear hc hp hpm hr hx hrow hm
              go_wp2_with (at_builtin; refine wpList_app rfl _ _ 48 rfl 27 _ 1 16 Tryd.underlying48 errInfo rfl (by decide) _ m (evs (live (P.take k))) rfl (HO'.out.alloc _) _ rfl 1 _ HSR.out (by unfold maxLen; omega) (by omega) ?_; intro a' c' w3 ho3 hk3 hf3 _; have HA3 := hid ho3; have HF3 := hid hf3; have KW3 := hid ((KW.out.alloc _).trans' hk3 (fun i hi => .inr (HB'.out i hi))); have R3 := hid ((hk3.block jb (Nat.lt_of_lt_of_le (row_lt RW'.out) (by simp)) HNE'.out).trans (row_old RW'.out _)); have d0 := row_cell R3.out 0; have f0 := row_free R3.out 0; simp at d0 f0; clear ho3 hk3 hf3)
              go_roundw
              case rel =>
                have hne3 : (Value.slice a' (m + 1) c').ownBlock ≠ some jb := HA3.out.ne_block R3.out (by decide)
                have hrs := row_set R3.out 0 (.slice a' (m + 1) c')
                refine ⟨k + 1, a', c', by omega, by go_num, ?_, ?_, ?_, ?_⟩
                · rw [HLEN.out, HM.out]
                  simpa using hrs
                · rw [HLEN.out, HM.out, HEV.out]
                  exact HA3.out.kept (F := fun k => k = jb) (Kept.setCell (F := fun k => k = jb) (Kept.refl _ _) (p := ⟨jb, 0, none⟩) (.inl rfl) _) (fun g hg e => hne3 (by rw [hg, e]))
                · rw [HLEN.out, HM.out]
                  intro g hg
                  rcases HF3.out g hg with h | h
                  · exact HB'.out g h
                  · simp at h; have := KW.out.size; omega
                · exact KW3.out.setCell (.inr HJB.out) _
              case measure => (simp only [RowKit.intOf]; omega)
          · obtain rfl : k = P.length := by omega
            go_wp2_with fail
            go_ret
            refine ⟨_, rfl, KW.out, .inr ⟨HJ.out, ?_⟩⟩
            have ho := HO.out
            have hr := RW.out
            rw [HTL.out] at ho hr
            have hpos : 0 < (live P).length := by
              rcases Nat.eq_zero_or_pos (live P).length with h | h
              · exact absurd (by unfold jsOf; rw [List.eq_nil_of_length_eq_zero h]; rfl) HJ.out
              · exact h
            obtain ⟨g, cap, hs, _, _⟩ := ho.some_of_pos hpos
            have e1 := hs
            simp only [Value.slice.injEq] at e1
            obtain ⟨rfl, _, rfl⟩ := e1
            have hjl : (jsOf P).length = (live P).length := by simp [jsOf]
            refine ⟨jb, g, c, rfl, by rw [hjl]; exact hr, by rw [hjl]; have := live_len P P.length; rw [HTL.out] at this; have := HN.out; omega, fun i m hm => ?_⟩
            unfold jsOf at hm
            rw [List.getElem?_map] at hm
            obtain ⟨p, hp, rfl⟩ := Option.map_eq_some_iff.1 hm
            have hpm : p ∈ live P := List.mem_of_getElem? hp
            unfold live at hpm
            obtain ⟨hpP, hpr⟩ := List.mem_filter.1 hpm
            have hpr' : p.2.2 ≠ 0 := by simpa using hpr
            obtain ⟨h1, h2⟩ := HP.out p hpP
            have hi : i < (evs (live P)).length := by simp [evs]; exact (List.getElem?_eq_some_iff.1 hp).1
            have hc := ho.cells rfl i hi
            refine ⟨h2, p.1, ?_, (h1.links hpr').kept KW.out (fun _ _ => id)⟩
            rw [hc]
            simp only [evs, List.getElem_map]
            rw [(List.getElem?_eq_some_iff.1 hp).2]
set_option maxRecDepth 100000 in
theorem join_any {W : World} {v : Value} {P : EL} (hv : Lies (fun _ => False) W 1 v P.length (evs P)) (hP : PAt W P) (hn : P.length ≤ 10) :
    Calls Tryd.prog 18 #[v] W fun e w' => ∃ b, e = .returned b ∧ Kept (fun _ => False) W w' ∧ ((jsOf P = [] ∧ b = .nilIface) ∨ (jsOf P ≠ [] ∧ JoinAt w' b (jsOf P))) := by
  have HE := hid (ejoin_any hv hP hn)
  obtain ⟨ao, ac, rfl⟩ := hv.isSlice
  clear hv hP
  go_enter Tryd.func18, Tryd.ntmps18
  go_wp2_with fail
  refine HE.out.mono ?_; rintro e w' ⟨b, rfl, hk, hb⟩
  have HK := hid hk; have HB := hid hb
  clear hk hb
  go_wp2_with fail
  go_ret
  exact ⟨_, rfl, HK.out, HB.out⟩
end Go.Proofs.YtlkhbepmkembgaaDoor
