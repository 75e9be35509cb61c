/- Spans and Free of the document: the walks. -/
import Derived.Test.YtglcpiokmieppaaRd
namespace Go.Proofs.Ytglcpiokmieppaa
open Go.RowKit

def RSPost (w : World) (S : List Sp) (e : Ending) (w' : World) : Prop := ∃ v, e = .returned v ∧ FreshR w.heap.size w' v S ∧ Kept (fun _ => False) w w'
theorem stepS_len (out : List Sp) (x to : Int) (b : Bool) : (stepS out x to b).length ≤ out.length + 1 := by
  unfold stepS
  split
  · split
    · simp
    · split <;> simp
  · omega
theorem own_at3 {w : World} {v : Value} {L : List Sp} (h : Own w 31 2 v L.length (scells L)) (q : Nat) (hq : q < L.length) :
    ∃ g cap, v = .slice (some ⟨g, 0, none⟩) L.length cap ∧ L.length ≤ cap ∧ cap ≤ 2 ^ 63 - 1 ∧ w.cell? ⟨g, q * 2, none⟩ = some (.int .u32 L[q].1) ∧ w.cell? ⟨g, q * 2 + 1, none⟩ = some (.int .u32 L[q].2) := by
  obtain ⟨g, c, rfl, l1, l2⟩ := h.some_of_pos (by omega)
  obtain ⟨x0, x1⟩ := scells_at L q L[q] (by simp [hq])
  obtain ⟨z0, e0⟩ := List.getElem?_eq_some_iff.1 x0
  obtain ⟨z1, e1⟩ := List.getElem?_eq_some_iff.1 x1
  refine ⟨g, c, rfl, l1, l2, ?_, ?_⟩
  · rw [← e0]; exact h.cells rfl _ z0
  · rw [← e1]; exact h.cells rfl _ z1
set_option maxRecDepth 100000 in
set_option maxHeartbeats 8000000 in
theorem rspans_any {F : Nat → Prop} {w : World} {v : Value} {Rs : List (Nat × List Dd)} (h : Lies F w 1 v Rs.length (pcells Rs)) (hR : RsAt w Rs) :
    Calls Try.prog 14 #[v] w (RSPost w (spansD Rs)) := by
  have HL := hid h
  have HR := hid hR
  have hsr := edgesL_srt Rs (fun r hr => (hR r hr).2.1)
  have nL := hsr.len
  have SR := hid hsr
  obtain ⟨a1, c1, rfl, m1, m2, _⟩ := h
  unfold maxLen at m2
  clear hR hsr
  go_enter Try.func14, Try.ntmps14
  go_wp2_with fail
  refine (edges_any HL.out HR.out).mono ?_
  rintro e w1 ⟨lo, lc, rfl, hl, hk⟩
  obtain ⟨L, hLe⟩ : ∃ L, L = edgesL Rs := ⟨_, rfl⟩
  have hSD : spansD Rs = spL (allB Rs) L [] := by rw [hLe]; rfl
  rw [← hLe] at hl nL SR ⊢
  have HE := hid hl; have HK1 := hid hk; have HSD := hid hSD
  have hsz := hk.size
  obtain ⟨_, _, ee, ml, mx, _⟩ := hl
  simp only [Value.slice.injEq] at ee
  obtain ⟨rfl, _, rfl⟩ := ee
  unfold maxLen at mx
  clear hk hLe hSD
  go_wp2_with fail
  go_loopw [3, 16] (fun o i wr => ∃ (k : Nat) (out : List Sp), k ≤ L.length ∧ i = .int .i64 k ∧ Kept (fun _ => False) w1 wr ∧ FreshR w1.heap.size wr o out ∧ out.length ≤ k ∧ (∀ z ∈ out, 0 ≤ z.2 ∧ ∀ x ∈ L.drop k, z.2 < x) ∧ spL (allB Rs) (L.drop k) out = spL (allB Rs) L []) (fun _ i _ => L.length - (intOf i).toNat)
  case atStart => exact ⟨0, [], Nat.zero_le _, rfl, Kept.refl _ _, ⟨none, 0, rfl, by simpa [scells] using Own.nil _ _ _, by simp [Value.ownBlock]⟩, Nat.le_refl _, by simp, rfl⟩
  case round =>
    obtain ⟨k, out, hk, rfl, hkp, hfr, hol, hlast, hsp⟩ := hrel
    have HK := hid hkp; have HLAST := hid hlast; have HSP := hid hsp; have HFR := hid hfr
    obtain ⟨oo, oc, rfl, ho, hf⟩ := hfr
    have HO := hid ho; have HF := hid hf
    clear hkp hlast hsp ho hf
    by_cases hlt : k < L.length
    · obtain ⟨g1, o1, q1, e1, n1, _, _, _, z1⟩ := HE.out.cell (by omega)
      simp only [Value.slice.injEq] at e1
      obtain ⟨rfl, _, rfl⟩ := e1
      have x0 := ncells_at L k L[k] (by simp [hlt])
      have y0 := HK.out.cell (z1 _ _ x0) id
      have hdr : L.drop k = L[k] :: L.drop (k + 1) := List.drop_eq_getElem_cons hlt
      have hxb := SR.out.b _ (List.getElem_mem hlt)
      obtain ⟨to, hto⟩ : ∃ to, to = nxt (L.drop (k + 1)) := ⟨_, rfl⟩
      have hnx : ∀ x ∈ L.drop (k + 1), L[k] < x := fun x hx => by
        have hp := SR.out.p
        rw [← List.take_append_drop k L, List.pairwise_append, hdr] at hp
        exact (List.pairwise_cons.1 hp.2.1).1 x hx
      have hto2 : L[k] ≤ to ∧ to ≤ 4294967295 ∧ ∀ x ∈ L.drop (k + 1), to < x := by
        rw [hto]
        cases hr : L.drop (k + 1) with
        | nil => simp [nxt]; omega
        | cons z r =>
          have hz := hnx z (by rw [hr]; simp)
          have hzb := SR.out.b z (by have : z ∈ L.drop (k + 1) := by rw [hr]; simp
                                     exact List.mem_of_mem_drop this)
          refine ⟨by simp [nxt]; omega, by simp [nxt]; omega, fun x hx => ?_⟩
          have hp := SR.out.p
          rw [← List.take_append_drop (k + 1) L, List.pairwise_append, hr] at hp
          rcases List.mem_cons.1 hx with rfl | hx
          · simp [nxt]; omega
          · have := (List.pairwise_cons.1 hp.2.1).1 x hx; simp [nxt]; omega
      have hlast2 : ∀ z ∈ out, 0 ≤ z.2 ∧ z.2 < L[k] := fun z hz => ⟨(HLAST.out z hz).1, (HLAST.out z hz).2 _ (by rw [hdr]; exact List.mem_cons_self)⟩
      have hspn : spL (allB Rs) (L.drop (k + 1)) (stepS out L[k] to (allB Rs L[k])) = spL (allB Rs) L [] := by rw [← HSP.out, hdr, hto]; rfl
      obtain ⟨f, hx⟩ : ∃ x, L[k] = x := ⟨_, rfl⟩
      rw [hx] at y0 hxb hto2 hlast2 hspn
      have hlast3 : ∀ b, ∀ z ∈ stepS out f to b, 0 ≤ z.2 ∧ ∀ x ∈ L.drop (k + 1), z.2 < x := fun b z hz => by
        unfold stepS at hz
        have hold : ∀ z ∈ out, 0 ≤ z.2 ∧ ∀ x ∈ L.drop (k + 1), z.2 < x := fun z hz => ⟨(hlast2 z hz).1, fun x hx2 => by have := hnx x hx2; rw [hx] at this; have := (hlast2 z hz).2; omega⟩
        split at hz
        · split at hz
          · simp at hz; subst hz; exact ⟨by simp only; omega, fun x hx2 => hto2.2.2 x hx2⟩
          · split at hz
            · rcases List.mem_append.1 hz with hz | hz
              · exact hold z (List.dropLast_subset _ hz)
              · simp at hz; subst hz; exact ⟨by simp only; omega, fun x hx2 => hto2.2.2 x hx2⟩
            · rcases List.mem_append.1 hz with hz | hz
              · exact hold z hz
              · simp at hz; subst hz; exact ⟨by simp only; omega, fun x hx2 => hto2.2.2 x hx2⟩
        · exact hold z hz
      -- the second read: the next edge
      have hnextv : k + 1 < L.length → ∃ y, wr.cell? ⟨g1, o1 + (k + 1), none⟩ = some (.int .u32 y) ∧ y - 1 = to ∧ 1 ≤ y ∧ y ≤ 4294967295 := fun h2 => by
        have x1 := ncells_at L (k + 1) L[k + 1] (by simp [h2])
        have hd2 : L.drop (k + 1) = L[k + 1] :: L.drop (k + 2) := List.drop_eq_getElem_cons h2
        refine ⟨L[k + 1], HK.out.cell (z1 _ _ x1) id, by rw [hto, hd2]; rfl, ?_, (SR.out.b _ (List.getElem_mem h2)).2⟩
        have := hnx L[k + 1] (by rw [hd2]; exact List.mem_cons_self)
        rw [hx] at this
        omega
      have hnone : ¬ k + 1 < L.length → to = 4294967295 := fun h2 => by rw [hto, List.drop_of_length_le (by omega)]; rfl
      have HLA := hid hlast2; have HLB := hid hlast3; have HSN := hid hspn; have HTO := hid hto2; have HNX := hid hnextv; have HNN := hid hnone
      clear x0 z1 hx hdr hto hnx hlast2 hlast3 hspn hto2 hnextv hnone
      by_cases h2 : k + 1 < L.length
      · obtain ⟨y, hyc, hy1, hy2, hy3⟩ := HNX.out h2
        have hw0 : IntKind.u32.wrap (y - 1) = to := by rw [← hy1]; simp [IntKind.wrap, IntKind.bits, IntKind.signed]; omega
        have hki : ((k : Int) + 1) < (L.length : Int) := by omega
        have hti := HTO.out
        have hwk : IntKind.i64.wrap ((k : Int) + 1) = ((k + 1 : Nat) : Int) := by rw [IntKind.wrap_i64]; omega
        go_wp2_with fail
        obtain ⟨wo, rfl⟩ : ∃ wo : World, wo = wr := ⟨_, rfl⟩
        go_loopw [8, 34] (fun b i wr => ∃ j : Nat, j ≤ Rs.length ∧ b = .bool ((Rs.take j).all fun r => hasD r.2 f) ∧ i = .int .i64 j ∧ Kept (fun _ => False) wo wr) (fun _ i _ => Rs.length - (intOf i).toNat)
        case atStart => exact ⟨0, Nat.zero_le _, rfl, rfl, Kept.refl _ _⟩
        case round =>
          clear HNX HNN
          obtain ⟨j, hj, rfl, rfl, hkp⟩ := hrel
          have HK2 := hid hkp; clear hkp
          by_cases hj2 : j < Rs.length
          · obtain ⟨g3, o3, q3, e3, n3, m3, _, _, z3⟩ := HL.out.cell (by omega)
            simp only [Value.slice.injEq] at e3
            obtain ⟨rfl, _, rfl⟩ := e3
            have x0 : (pcells Rs)[j]? = some (.pointer (some ⟨Rs[j].1, 0, none⟩)) := by simp [pcells, hj2]
            have y3 := ((HK1.out.trans HK.out).trans HK2.out).cell (z3 _ _ x0) id
            obtain ⟨⟨F1, hr1⟩, _, _⟩ := HR.out _ (List.getElem_mem hj2)
            have htk : ((Rs.take (j + 1)).all fun r => hasD r.2 f) = (((Rs.take j).all fun r => hasD r.2 f) && hasD Rs[j].2 f) := by rw [List.take_succ_eq_append_getElem hj2, List.all_append]; simp
            have RA := hid (hr1.kept ((HK1.out.trans HK.out).trans HK2.out) (fun _ _ h => h))
            obtain ⟨b, hb⟩ : ∃ b, b = ((Rs.take j).all fun r => hasD r.2 f) := ⟨_, rfl⟩
            rw [← hb] at htk ⊢
            have HTK := hid htk
            clear x0 z3 hr1 htk hb
            cases b with
            | false =>
              go_wp2
              go_roundw
              case rel => exact ⟨j + 1, hj2, by rw [HTK.out]; rfl, by go_num, HK2.out⟩
              case measure => simp [intOf]; omega
            | true =>
              go_wp2_with fail
              refine (rhas_any RA.out f).mono ?_
              rintro e w5 ⟨rfl, hk5⟩
              have HK5 := hid (HK2.out.trans hk5); clear hk5 HK2 y3
              go_wp2
              go_roundw
              case rel => exact ⟨j + 1, hj2, by rw [HTK.out]; simp, by go_num, HK5.out⟩
              case measure => simp [intOf]; omega
          · obtain rfl : j = Rs.length := by omega
            have hall : ((Rs.take Rs.length).all fun r => hasD r.2 f) = allB Rs f := by rw [List.take_length]; rfl
            rw [hall]
            obtain ⟨b, hb⟩ : ∃ b, b = allB Rs f := ⟨_, rfl⟩
            rw [← hb] at HSN ⊢
            clear hall hb hj2 hj
            cases b with
            | false =>
              go_wp2
              go_roundw
              case rel => exact ⟨k + 1, out, hlt, by go_num, HK.out.trans HK2.out, ⟨oo, oc, rfl, HO.out.kept HK2.out (fun _ _ h => h), HF.out⟩, by omega, HLB.out false, HSN.out⟩
              case measure => simp [intOf]; omega
            | true =>
              rcases List.eq_nil_or_concat out with hout | ⟨L0, z, hout⟩
              · have hn0 : ¬ (0 : Int) < (out.length : Int) := by rw [hout]; simp
                have hn1 : ¬ 0 < out.length := by rw [hout]; simp
                have HOUT := hid hout; clear hout
                go_wp2_with (at_builtin; refine wpList_app (o := ⟨some 52, _, _, _, _, _⟩) rfl (.tmp 47) (.tmp 51) 39 rfl 31 (.agg #[.int .u32 0, .int .u32 0]) 2 8 Try.underlying39 infoR rfl (by decide) (.slice oo out.length oc) out.length (scells out) (by simp [Act.eval, Act.put]) (by exact (HO.out.kept HK2.out (fun _ _ h => h)).alloc _) (.slice (some ⟨wr.heap.size, 0, none⟩) 1 1) (by simp [Act.eval, Act.put]) 1 [.int .u32 f, .int .u32 to] (by exact src_two' _ _ rfl rfl rfl) (by unfold maxLen; omega) (by omega) ?_; intro a3 c3 w3 ho3 hk3 hf3 _; have HO3 := hid ho3; have HF3 := hid hf3; have HK3 := hid hk3; clear ho3 hk3 hf3)
                have hst : stepS out f to true = out ++ [(f, to)] := by unfold stepS; rw [if_pos rfl, HOUT.out]; rfl
                have ho := HO3.out
                have hf := HF3.out
                have hl : out.length + 1 = (stepS out f to true).length := by rw [hst]; simp
                rw [show scells out ++ [.int .u32 f, .int .u32 to] = scells (stepS out f to true) by rw [hst, scells_app]; rfl, hl] at ho
                rw [hl] at hf ⊢
                go_roundw
                case rel => exact ⟨k + 1, stepS out f to true, hlt, by go_num, Kept.trans' (F := fun _ => False) ((HK.out.trans HK2.out).alloc _) HK3.out (fun i hi => Or.inr (HF.out i hi)), ⟨a3, c3, rfl, ho, fun g hg => by
                  rcases hf g hg with h | h
                  · exact HF.out g h
                  · have := HK.out.size; have := HK2.out.size; (try simp at h); omega⟩, by have := stepS_len out f to true; omega, HLB.out true, HSN.out⟩
                case measure => simp [intOf]; omega
              · rw [List.concat_eq_append] at hout
                have hm : out.length = L0.length + 1 := by rw [hout]; simp
                have hmC : L0.length < out.length := by omega
                have hCz : out[L0.length]'hmC = z := by simp [hout]
                have hzl := HLA.out z (by rw [hout]; simp)
                have OW := hid (HO.out.kept HK2.out (fun _ _ h => h))
                obtain ⟨g4, cap4, e4, l4, l5, u0, u1⟩ := own_at3 OW.out L0.length hmC
                simp only [Value.slice.injEq] at e4
                obtain ⟨rfl, _, rfl⟩ := e4
                rw [hCz] at u0 u1
                obtain ⟨zp, zq⟩ := z
                simp only at u0 u1 hzl
                have hn0 : (0 : Int) < (out.length : Int) := by omega
                have hn1 : 0 < out.length := by omega
                have hw1 : IntKind.u32.wrap (f - 1) = f - 1 := by simp [IntKind.wrap, IntKind.bits, IntKind.signed]; omega
                have hw2 : IntKind.i64.wrap ((out.length : Int) - 1) = (L0.length : Int) := by rw [IntKind.wrap_i64]; omega
                have hmI : (L0.length : Int) < (out.length : Int) := by omega
                have hf0 : (0 : Int) < f := by omega
                have HOUT := hid hout; have Hm := hid hm
                clear hout hm hCz
                by_cases hz : zq = f - 1
                · have hzb : (zq == f - 1) = true := by simpa using hz
                  have hst : stepS out f to true = L0 ++ [(zp, to)] := by unfold stepS; rw [if_pos rfl, HOUT.out, List.getLast?_concat]; simp only; rw [if_pos hz, List.dropLast_concat]
                  have hl : out.length = (stepS out f to true).length := by rw [hst, Hm.out]; simp
                  have hset := OW.out.set (g := g4) (by simp [Value.ownBlock]) (L0.length * 2 + 1) (.int .u32 to)
                  have hcs : (scells out).set (L0.length * 2 + 1) (.int .u32 to) = scells (stepS out f to true) := by
                    rw [hst, HOUT.out, scells_app, scells_app, List.set_append_right _ _ (by rw [scells_len]; omega), scells_len, show L0.length * 2 + 1 - L0.length * 2 = 1 by omega]
                    rfl
                  rw [hcs] at hset
                  have fz := OW.out.free (g := g4) (by simp [Value.ownBlock]) (L0.length * 2 + 1)
                  have HSET := hid hset; have HL2 := hid hl
                  clear hset hcs hl hst
                  go_wp2
                  go_roundw
                  case rel =>
                    have h9 := HSET.out
                    rw [HL2.out] at h9
                    exact ⟨k + 1, stepS out f to true, hlt, by go_num, (HK.out.trans HK2.out).setCell (.inr (HF.out g4 (by simp [Value.ownBlock]))) _, ⟨_, _, by rw [← HL2.out], h9, fun g hg => HF.out g (by rw [HL2.out]; exact hg)⟩, by have := stepS_len out f to true; omega, HLB.out true, HSN.out⟩
                  case measure => simp [intOf]; omega
                · have hzb : (zq == f - 1) = false := by simpa using hz
                  clear u0
                  go_wp2_with (at_builtin; refine wpList_app (o := ⟨some 52, _, _, _, _, _⟩) rfl (.tmp 47) (.tmp 51) 39 rfl 31 (.agg #[.int .u32 0, .int .u32 0]) 2 8 Try.underlying39 infoR rfl (by decide) (.slice (some ⟨g4, 0, none⟩) out.length oc) out.length (scells out) (by simp [Act.eval, Act.put]) (by exact (HO.out.kept HK2.out (fun _ _ h => h)).alloc _) (.slice (some ⟨wr.heap.size, 0, none⟩) 1 1) (by simp [Act.eval, Act.put]) 1 [.int .u32 f, .int .u32 to] (by exact src_two' _ _ rfl rfl rfl) (by unfold maxLen; omega) (by omega) ?_; intro a3 c3 w3 ho3 hk3 hf3 _; have HO3 := hid ho3; have HF3 := hid hf3; have HK3 := hid hk3; clear ho3 hk3 hf3)
                  have hst : stepS out f to true = out ++ [(f, to)] := by unfold stepS; rw [if_pos rfl, HOUT.out, List.getLast?_concat]; simp only; rw [if_neg hz]
                  have ho := HO3.out
                  have hf := HF3.out
                  have hl : out.length + 1 = (stepS out f to true).length := by rw [hst]; simp
                  rw [show scells out ++ [.int .u32 f, .int .u32 to] = scells (stepS out f to true) by rw [hst, scells_app]; rfl, hl] at ho
                  rw [hl] at hf ⊢
                  go_roundw
                  case rel => exact ⟨k + 1, stepS out f to true, hlt, by go_num, Kept.trans' (F := fun _ => False) ((HK.out.trans HK2.out).alloc _) HK3.out (fun i hi => Or.inr (HF.out i hi)), ⟨a3, c3, rfl, ho, fun g hg => by
                    rcases hf g hg with h | h
                    · exact HF.out g h
                    · have := HK.out.size; have := HK2.out.size; (try simp at h); omega⟩, by have := stepS_len out f to true; omega, HLB.out true, HSN.out⟩
                  case measure => simp [intOf]; omega
      · have hto := HNN.out h2
        have hki : ¬ ((k : Int) + 1) < (L.length : Int) := by omega
        have hti := HTO.out
        rw [show (4294967295 : Int) = to from hto.symm] at *
        go_wp2_with fail
        obtain ⟨wo, rfl⟩ : ∃ wo : World, wo = wr := ⟨_, rfl⟩
        go_loopw [8, 34] (fun b i wr => ∃ j : Nat, j ≤ Rs.length ∧ b = .bool ((Rs.take j).all fun r => hasD r.2 f) ∧ i = .int .i64 j ∧ Kept (fun _ => False) wo wr) (fun _ i _ => Rs.length - (intOf i).toNat)
        case atStart => exact ⟨0, Nat.zero_le _, rfl, rfl, Kept.refl _ _⟩
        case round =>
          clear HNX HNN
          obtain ⟨j, hj, rfl, rfl, hkp⟩ := hrel
          have HK2 := hid hkp; clear hkp
          by_cases hj2 : j < Rs.length
          · obtain ⟨g3, o3, q3, e3, n3, m3, _, _, z3⟩ := HL.out.cell (by omega)
            simp only [Value.slice.injEq] at e3
            obtain ⟨rfl, _, rfl⟩ := e3
            have x0 : (pcells Rs)[j]? = some (.pointer (some ⟨Rs[j].1, 0, none⟩)) := by simp [pcells, hj2]
            have y3 := ((HK1.out.trans HK.out).trans HK2.out).cell (z3 _ _ x0) id
            obtain ⟨⟨F1, hr1⟩, _, _⟩ := HR.out _ (List.getElem_mem hj2)
            have htk : ((Rs.take (j + 1)).all fun r => hasD r.2 f) = (((Rs.take j).all fun r => hasD r.2 f) && hasD Rs[j].2 f) := by rw [List.take_succ_eq_append_getElem hj2, List.all_append]; simp
            have RA := hid (hr1.kept ((HK1.out.trans HK.out).trans HK2.out) (fun _ _ h => h))
            obtain ⟨b, hb⟩ : ∃ b, b = ((Rs.take j).all fun r => hasD r.2 f) := ⟨_, rfl⟩
            rw [← hb] at htk ⊢
            have HTK := hid htk
            clear x0 z3 hr1 htk hb
            cases b with
            | false =>
              go_wp2
              go_roundw
              case rel => exact ⟨j + 1, hj2, by rw [HTK.out]; rfl, by go_num, HK2.out⟩
              case measure => simp [intOf]; omega
            | true =>
              go_wp2_with fail
              refine (rhas_any RA.out f).mono ?_
              rintro e w5 ⟨rfl, hk5⟩
              have HK5 := hid (HK2.out.trans hk5); clear hk5 HK2 y3
              go_wp2
              go_roundw
              case rel => exact ⟨j + 1, hj2, by rw [HTK.out]; simp, by go_num, HK5.out⟩
              case measure => simp [intOf]; omega
          · obtain rfl : j = Rs.length := by omega
            have hall : ((Rs.take Rs.length).all fun r => hasD r.2 f) = allB Rs f := by rw [List.take_length]; rfl
            rw [hall]
            obtain ⟨b, hb⟩ : ∃ b, b = allB Rs f := ⟨_, rfl⟩
            rw [← hb] at HSN ⊢
            clear hall hb hj2 hj
            cases b with
            | false =>
              go_wp2
              go_roundw
              case rel => exact ⟨k + 1, out, hlt, by go_num, HK.out.trans HK2.out, ⟨oo, oc, rfl, HO.out.kept HK2.out (fun _ _ h => h), HF.out⟩, by omega, HLB.out false, HSN.out⟩
              case measure => simp [intOf]; omega
            | true =>
              rcases List.eq_nil_or_concat out with hout | ⟨L0, z, hout⟩
              · have hn0 : ¬ (0 : Int) < (out.length : Int) := by rw [hout]; simp
                have hn1 : ¬ 0 < out.length := by rw [hout]; simp
                have HOUT := hid hout; clear hout
                go_wp2_with (at_builtin; refine wpList_app (o := ⟨some 52, _, _, _, _, _⟩) rfl (.tmp 47) (.tmp 51) 39 rfl 31 (.agg #[.int .u32 0, .int .u32 0]) 2 8 Try.underlying39 infoR rfl (by decide) (.slice oo out.length oc) out.length (scells out) (by simp [Act.eval, Act.put]) (by exact (HO.out.kept HK2.out (fun _ _ h => h)).alloc _) (.slice (some ⟨wr.heap.size, 0, none⟩) 1 1) (by simp [Act.eval, Act.put]) 1 [.int .u32 f, .int .u32 to] (by exact src_two' _ _ rfl rfl rfl) (by unfold maxLen; omega) (by omega) ?_; intro a3 c3 w3 ho3 hk3 hf3 _; have HO3 := hid ho3; have HF3 := hid hf3; have HK3 := hid hk3; clear ho3 hk3 hf3)
                have hst : stepS out f to true = out ++ [(f, to)] := by unfold stepS; rw [if_pos rfl, HOUT.out]; rfl
                have ho := HO3.out
                have hf := HF3.out
                have hl : out.length + 1 = (stepS out f to true).length := by rw [hst]; simp
                rw [show scells out ++ [.int .u32 f, .int .u32 to] = scells (stepS out f to true) by rw [hst, scells_app]; rfl, hl] at ho
                rw [hl] at hf ⊢
                go_roundw
                case rel => exact ⟨k + 1, stepS out f to true, hlt, by go_num, Kept.trans' (F := fun _ => False) ((HK.out.trans HK2.out).alloc _) HK3.out (fun i hi => Or.inr (HF.out i hi)), ⟨a3, c3, rfl, ho, fun g hg => by
                  rcases hf g hg with h | h
                  · exact HF.out g h
                  · have := HK.out.size; have := HK2.out.size; (try simp at h); omega⟩, by have := stepS_len out f to true; omega, HLB.out true, HSN.out⟩
                case measure => simp [intOf]; omega
              · rw [List.concat_eq_append] at hout
                have hm : out.length = L0.length + 1 := by rw [hout]; simp
                have hmC : L0.length < out.length := by omega
                have hCz : out[L0.length]'hmC = z := by simp [hout]
                have hzl := HLA.out z (by rw [hout]; simp)
                have OW := hid (HO.out.kept HK2.out (fun _ _ h => h))
                obtain ⟨g4, cap4, e4, l4, l5, u0, u1⟩ := own_at3 OW.out L0.length hmC
                simp only [Value.slice.injEq] at e4
                obtain ⟨rfl, _, rfl⟩ := e4
                rw [hCz] at u0 u1
                obtain ⟨zp, zq⟩ := z
                simp only at u0 u1 hzl
                have hn0 : (0 : Int) < (out.length : Int) := by omega
                have hn1 : 0 < out.length := by omega
                have hw1 : IntKind.u32.wrap (f - 1) = f - 1 := by simp [IntKind.wrap, IntKind.bits, IntKind.signed]; omega
                have hw2 : IntKind.i64.wrap ((out.length : Int) - 1) = (L0.length : Int) := by rw [IntKind.wrap_i64]; omega
                have hmI : (L0.length : Int) < (out.length : Int) := by omega
                have hf0 : (0 : Int) < f := by omega
                have HOUT := hid hout; have Hm := hid hm
                clear hout hm hCz
                by_cases hz : zq = f - 1
                · have hzb : (zq == f - 1) = true := by simpa using hz
                  have hst : stepS out f to true = L0 ++ [(zp, to)] := by unfold stepS; rw [if_pos rfl, HOUT.out, List.getLast?_concat]; simp only; rw [if_pos hz, List.dropLast_concat]
                  have hl : out.length = (stepS out f to true).length := by rw [hst, Hm.out]; simp
                  have hset := OW.out.set (g := g4) (by simp [Value.ownBlock]) (L0.length * 2 + 1) (.int .u32 to)
                  have hcs : (scells out).set (L0.length * 2 + 1) (.int .u32 to) = scells (stepS out f to true) := by
                    rw [hst, HOUT.out, scells_app, scells_app, List.set_append_right _ _ (by rw [scells_len]; omega), scells_len, show L0.length * 2 + 1 - L0.length * 2 = 1 by omega]
                    rfl
                  rw [hcs] at hset
                  have fz := OW.out.free (g := g4) (by simp [Value.ownBlock]) (L0.length * 2 + 1)
                  have HSET := hid hset; have HL2 := hid hl
                  clear hset hcs hl hst
                  go_wp2
                  go_roundw
                  case rel =>
                    have h9 := HSET.out
                    rw [HL2.out] at h9
                    exact ⟨k + 1, stepS out f to true, hlt, by go_num, (HK.out.trans HK2.out).setCell (.inr (HF.out g4 (by simp [Value.ownBlock]))) _, ⟨_, _, by rw [← HL2.out], h9, fun g hg => HF.out g (by rw [HL2.out]; exact hg)⟩, by have := stepS_len out f to true; omega, HLB.out true, HSN.out⟩
                  case measure => simp [intOf]; omega
                · have hzb : (zq == f - 1) = false := by simpa using hz
                  clear u0
                  go_wp2_with (at_builtin; refine wpList_app (o := ⟨some 52, _, _, _, _, _⟩) rfl (.tmp 47) (.tmp 51) 39 rfl 31 (.agg #[.int .u32 0, .int .u32 0]) 2 8 Try.underlying39 infoR rfl (by decide) (.slice (some ⟨g4, 0, none⟩) out.length oc) out.length (scells out) (by simp [Act.eval, Act.put]) (by exact (HO.out.kept HK2.out (fun _ _ h => h)).alloc _) (.slice (some ⟨wr.heap.size, 0, none⟩) 1 1) (by simp [Act.eval, Act.put]) 1 [.int .u32 f, .int .u32 to] (by exact src_two' _ _ rfl rfl rfl) (by unfold maxLen; omega) (by omega) ?_; intro a3 c3 w3 ho3 hk3 hf3 _; have HO3 := hid ho3; have HF3 := hid hf3; have HK3 := hid hk3; clear ho3 hk3 hf3)
                  have hst : stepS out f to true = out ++ [(f, to)] := by unfold stepS; rw [if_pos rfl, HOUT.out, List.getLast?_concat]; simp only; rw [if_neg hz]
                  have ho := HO3.out
                  have hf := HF3.out
                  have hl : out.length + 1 = (stepS out f to true).length := by rw [hst]; simp
                  rw [show scells out ++ [.int .u32 f, .int .u32 to] = scells (stepS out f to true) by rw [hst, scells_app]; rfl, hl] at ho
                  rw [hl] at hf ⊢
                  go_roundw
                  case rel => exact ⟨k + 1, stepS out f to true, hlt, by go_num, Kept.trans' (F := fun _ => False) ((HK.out.trans HK2.out).alloc _) HK3.out (fun i hi => Or.inr (HF.out i hi)), ⟨a3, c3, rfl, ho, fun g hg => by
                    rcases hf g hg with h | h
                    · exact HF.out g h
                    · have := HK.out.size; have := HK2.out.size; (try simp at h); omega⟩, by have := stepS_len out f to true; omega, HLB.out true, HSN.out⟩
                  case measure => simp [intOf]; omega
    · obtain rfl : k = L.length := by omega
      have hd : L.drop L.length = [] := List.drop_length
      have hs := HSP.out
      rw [hd] at hs
      have hres : out = spansD Rs := by rw [HSD.out]; exact hs
      have HRES := hid hres
      clear hres hs hd
      go_wp2
      go_ret
      refine ⟨_, rfl, ?_, HK1.out.trans HK.out⟩
      rw [← HRES.out]
      exact ⟨oo, oc, rfl, HO.out, fun g hg => by have := HF.out g hg; omega⟩
end Go.Proofs.Ytglcpiokmieppaa
