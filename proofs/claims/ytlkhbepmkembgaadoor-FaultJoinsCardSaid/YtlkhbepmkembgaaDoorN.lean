/- Faults: chains. -/
import Derived.Test.YtlkhbepmkembgaaDoorM
namespace Go.Proofs.YtlkhbepmkembgaaDoor
open Go.RowKit Go.Extern.Stop Go.Stop Go.Extern
set_option maxHeartbeats 400000 in
set_option maxRecDepth 100000 in
theorem chains_any {W : World} {v : Value} {L : List FL} {r : Int} {has : Int → Bool} (h : ErrAt W v L r has) (hG : ErrT W) (hL : L.length ≤ 1000) :
    Calls Tryd.prog 21 #[v] W fun e w' => ∃ (a : Option Addr) (c : Nat) (ps : List Nat), e = .returned (.slice a L.length c) ∧ Own w' 56 1 (.slice a L.length c) L.length (ptrs ps) ∧ PtrsAt W L ps ∧ (∀ g, (Value.slice a L.length c).ownBlock = some g → W.heap.size ≤ g) ∧ Kept (fun _ => False) W w' := by
  obtain ⟨n0, hn0⟩ := h.steps
  obtain ⟨D, hD⟩ := least (fun (p : Value × List FL) n => ErrN W p.1 p.2 r n)
  have HD := hid hD
  have HN := hid hn0
  have HG := hid hG
  have HL3 := hid hL
  clear hD h hn0 hG
  go_enter Tryd.func21, Tryd.ntmps21
  go_wp2_with fail
  go_loopw [0, 3] (fun v out wr => ∃ (k : Nat) (a : Option Addr) (c : Nat) (ps : List Nat) (n : Nat) (x : Value), x = v ∧ out = .slice a k c ∧ k ≤ L.length ∧ Own wr 56 1 (.slice a k c) k (ptrs ps) ∧ PtrsAt W (L.take k) ps ∧ ErrN W v (L.drop k) r n ∧ (∀ g, (Value.slice a k c).ownBlock = some g → W.heap.size ≤ g) ∧ Kept (fun _ => False) W wr) (fun v out _ => D (v, L.drop (sliceLen out)))
  case atStart => exact ⟨0, none, 0, [], n0, _, rfl, rfl, Nat.zero_le _, Own.nil _ _ _, ⟨rfl, by simp⟩, HN.out, fun g hg => by simp [Value.ownBlock] at hg, Kept.refl _ _⟩
  case round =>
    rename World => wr
    obtain ⟨k, a, c, ps, n, x, rfl, rfl, hk, ho, hp, he, hb, hkp⟩ := hrel
    have hs := (HD.out (x, L.drop k) n he).1
    obtain ⟨dn, hdn⟩ : ∃ dn, D (x, L.drop k) = dn := ⟨_, rfl⟩
    rw [hdn] at hs
    have HDN := hid hdn
    clear he hdn
    obtain ⟨b, l1, l0, j, hbase, hlinks, hl, hn⟩ := hs
    have HO := hid ho; have HP := hid hp; have HB := hid hb; have HK := hid hkp; have HL := hid hl; have HN2 := hid hn
    have hOL := hid (fun g hg => ho.lt (g := g) hg)
    clear ho hp hb hkp hl hn
    -- the variable c
    obtain ⟨w1, hw1⟩ : ∃ w1, wr.alloc (.cells #[.pointer none] 56) = w1 := ⟨_, rfl⟩
    have hk1 : Kept (fun _ => False) wr w1 := hw1 ▸ (Kept.refl _ _).alloc _
    have hr : w1.heap[wr.heap.size]? = some (.cells #[.pointer none] 56 (0, 0)) := by rw [← hw1]; exact row_new _ _
    obtain ⟨tb, htb⟩ : ∃ tb, wr.heap.size = tb := ⟨_, rfl⟩
    rw [htb] at hr
    have ht := row_cell hr 0
    simp at ht
    have hf := row_free hr 0
    have HTB := hid htb
    have hG1 := HG.out.kept (HK.out.trans hk1)
    have K1 := hid (HK.out.trans hk1)
    have O1 := hid (HO.out.kept hk1 (fun _ _ => id))
    have KR := hid hk1
    cases l1 with
    | nil =>
      have e := hlinks
      simp only [LinksAt] at e
      subst e
      rcases hbase with ⟨rfl, rfl, rfl⟩ | ⟨js, hJ, hj0, rfl⟩
      · have hlen : k = L.length := by
          have := congrArg List.length HL.out
          simp at this; omega
        subst hlen
        have HM := hid (As_miss r hG1 ⟨tb, 0, none⟩ _ ht hf)
        have HFR := hid (first_root r w1)
        have HPP := hid (show PtrsAt W L ps by have := HP.out; rwa [List.take_length] at this)
        clear hr ht hf hG1 hk1 hlinks
        unfold rootV at *
        go_wp2_with fail
        refine HFR.out.mono ?_; rintro e w' ⟨rfl, rfl⟩
        clear hw1 htb
        go_wp2_with fail
        refine HM.out.mono ?_; rintro e w' ⟨rfl, hkm⟩
        have HKM := hid hkm
        clear hkm
        go_wp2_with fail
        go_ret
        exact ⟨_, _, ps, rfl, O1.out.kept HKM.out (fun _ _ => id), HPP.out, HB.out, K1.out.trans HKM.out⟩
      · have HJ := hid (hJ.kept K1.out (fun _ _ => id))
        have HJW := hid hJ
        have hL0 := hid (show L.drop k = l0 by simpa using HL.out)
        have HM := hid (first_join hJ hj0 K1.out)
        have hLI : ∀ t p, LinksAt w1 (rootV r) l0 (.iface t p) → True := fun _ _ _ => trivial
        obtain ⟨jb, sb, cap, rfl, _⟩ := hJ
        clear hr ht hf hG1 hk1 hlinks hLI hj0
        go_wp2_with fail
        refine HM.out.mono ?_; rintro e w' ⟨⟨t2, p2, rfl, hl2⟩, rfl⟩
        have HL2 := hid hl2
        clear hw1 htb hl2
        go_wp2_with fail
        go_roundw
        case rel => exact ⟨k, a, c, ps, l0.length, _, rfl, rfl, hk, O1.out, HP.out, ⟨rootV r, l0, [], 0, .inl ⟨rfl, rfl, rfl⟩, HL2.out, by rw [hL0.out]; simp, by simp⟩, HB.out, K1.out⟩
        case measure =>
          simp only [sliceLen]
          rw [HDN.out]
          have h1 := (HD.out (.iface t2 p2, L.drop k) l0.length ⟨rootV r, l0, [], 0, .inl ⟨rfl, rfl, rfl⟩, HL2.out, by simp only; rw [hL0.out]; simp, by simp⟩).2
          have h2 := HN2.out
          simp at h2
          omega
    | cons l l1 =>
      obtain ⟨blk, e, rfl, h2, h3⟩ := hlinks
      obtain ⟨te, pe, rfl⟩ : ∃ t p, e = .iface t p := by
        rcases hbase with ⟨hb, _⟩ | ⟨js, ⟨jb, sb, cap, hb, _⟩, _⟩
        · exact h3.iface hb
        · exact h3.iface hb
      have HBASE := hid hbase
      have HLINK := hid h3
      have H2 := hid h2
      have hklt : k < L.length := by
        have := congrArg List.length HL.out
        simp at this; omega
      have HTK := hid (show L.take (k + 1) = L.take k ++ [l] ∧ L.drop (k + 1) = l1 ++ l0 by
        have e1 : L[k]? = some l := by
          have := congrArg (fun x => x[0]?) HL.out
          simpa using this
        have e2 : L[k] = l := by
          have := (List.getElem?_eq_some_iff.1 e1).2
          exact this
        refine ⟨by rw [List.take_succ_eq_append_getElem hklt, e2], ?_⟩
        have := congrArg List.tail HL.out
        simpa using this)
      have HM := hid (As_chain (⟨blk, 0, none⟩ : Addr) hG1 ⟨tb, 0, none⟩ _ ht hf)
      have HFC := hid (first_chain (.pointer (some ⟨blk, 0, none⟩)) w1)
      clear hr ht hf hG1 hk1 hbase h3
      go_wp2_with fail
      refine HFC.out.mono ?_; rintro e w' ⟨rfl, rfl⟩
      clear hw1 htb
      go_wp2_with fail
      refine HM.out.mono ?_; rintro e w2 ⟨rfl, hc, hk2⟩
      have HC := hid hc
      have K2 := hid (show Kept (fun _ => False) wr w2 from KR.out.trans' hk2 (fun i hi => .inr (by have h := HTB.out; rw [hi]; exact Nat.le_of_eq h)))
      clear hk2
      have KW2 := hid (HK.out.trans K2.out)
      have HSR := hid (src_one (w := w2) (E := 56) (.pointer (some ⟨blk, 0, none⟩)) rfl)
      have O2 := hid (HO.out.kept K2.out (fun _ _ => id))
      have hct : ∀ o, (w2.alloc o).cell? ⟨tb, 0, none⟩ = some (.pointer (some ⟨blk, 0, none⟩)) := fun o => by
        have hlt : tb < w2.heap.size := by
          rcases Nat.lt_or_ge tb w2.heap.size with h | h
          · exact h
          · simp [World.cell?, Array.getElem?_eq_none h] at hc
        rw [World.cell?_alloc_lt _ _ _ hlt]; exact hc
      have HCT := hid hct
      have HNO := hid (show ∀ g, (Value.slice a k c).ownBlock = some g → g ≠ tb from fun g hg he => by have h1 := hOL.out g hg; have h2 := HTB.out; omega)
      have hce := row_cell h2 2
      simp at hce
      have HCE := hid hce
      clear hct h2 hce hL
      have hkl : k + 1 ≤ 1000 := by have := HL3.out; omega
      go_wp2_with (at_builtin; refine wpList_app rfl _ _ 54 rfl 56 _ 1 8 Tryd.underlying54 chainInfo rfl (by decide) _ k (ptrs ps) rfl (O2.out.alloc _) _ rfl 1 _ HSR.out (by unfold maxLen; omega) (by omega) ?_; intro a' c' w3 ho3 hk3 hf3 _; have HA3 := hid ho3; have HF3 := hid hf3; have K3 := hid (show Kept (fun _ => False) W w3 from (KW2.out.alloc _).trans' hk3 (fun i hi => .inr (HB.out i hi))); have ct3 := hk3.cell (HCT.out _) (fun h => HNO.out _ h rfl); have ce3 := K3.out.cell HCE.out id; clear ho3 hk3 hf3)
      go_roundw
      case rel =>
        have hpt : ptrs (ps ++ [blk]) = ptrs ps ++ [.pointer (some ⟨blk, 0, none⟩)] := by simp [ptrs]
        refine ⟨k + 1, a', c', ps ++ [blk], l1.length + l0.length + j, _, rfl, rfl, by omega, by rw [hpt]; exact HA3.out, by rw [HTK.out.1]; exact HP.out.snoc H2.out, ⟨b, l1, l0, j, HBASE.out, HLINK.out, HTK.out.2, rfl⟩, fun g hg => ?_, K3.out⟩
        rcases HF3.out g hg with h | h
        · exact HB.out g h
        · simp at h; have := KW2.out.size; omega
      case measure =>
        simp only [sliceLen]
        rw [HDN.out]
        have h1 := (HD.out (.iface te pe, L.drop (k + 1)) _ ⟨b, l1, l0, j, HBASE.out, HLINK.out, HTK.out.2, rfl⟩).2
        have h2 := HN2.out
        simp at h2
        omega
end Go.Proofs.YtlkhbepmkembgaaDoor
