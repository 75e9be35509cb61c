/- Texts of this claim, merged: Dd, De, Df, Dg, Put. -/
import Derived.Test.YtpjhdpfaogdboaaPm1
import Derived.Test.YtpjhdpfaogdboaaPm2
import Derived.Test.YtpjhdpfaogdboaaPm3
import Derived.Test.YtpjhdpfaogdboaaPm4
import Derived.Test.YtpjhdpfaogdboaaPm5
import Derived.Test.YtpjhdpfaogdboaaPm6
import Derived.Test.YtpjhdpfaogdboaaPm7
import Derived.Test.YtpjhdpfaogdboaaPm8
import Derived.Test.YtpjhdpfaogdboaaPm9
import Derived.Test.YtpjhdpfaogdboaaPm10
import Derived.Test.YtpjhdpfaogdboaaPm11
import Derived.Test.YtpjhdpfaogdboaaPm12
import Derived.Test.YtpjhdpfaogdboaaPm13
import Derived.Test.YtpjhdpfaogdboaaPm14
import Derived.Test.YtpjhdpfaogdboaaPm15
import Derived.Test.YtpjhdpfaogdboaaPm16
import Derived.Test.YtpjhdpfaogdboaaPm17
import Derived.Test.YtpjhdpfaogdboaaPm18
import Derived.Test.YtpjhdpfaogdboaaPm19
import Derived.Test.YtpjhdpfaogdboaaPm20
import Derived.Test.YtpjhdpfaogdboaaPm21
/- The document: add, drop. -/
namespace Go.Proofs.Ytpjhdpfaogdboaa
set_option linter.unusedSimpArgs false
set_option linter.unusedVariables false
open Go.RowKit
theorem want_src (w : World) (v m : Int) {b : Nat} (hb : w.heap.size = b) : Src (w.alloc (.cells #[.int .u32 v, .int .u8 m] 36)) 2 (.slice (some ⟨b, 0, none⟩) 1 1) 1 (wcells [(v, m)]) := by
  subst hb
  exact src_row rfl (fun j u hu => by rw [row_cell (row_new w _)]; simpa [wcells, wcell] using hu) (wcells_one _)
theorem wcells_app (l m : List Wt) : wcells (l ++ m) = wcells l ++ wcells m := by unfold wcells; rw [List.flatMap_append]
/-- what is left to be added -/
def restW (d : Bool) (l : List Wt) (w : Wt) : List Wt := if d = true then l else addW l w
structure AddI (l out : List Wt) (w : Wt) (k : Nat) (d : Bool) : Prop where
  e : out ++ restW d (l.drop k) w = addW l w
  n : d = true → ∀ x ∈ l.drop k, x.1 ≠ w.1
  l : out.length ≤ k + d.toNat
section
variable {l out : List Wt} {w x : Wt} {k : Nat}
theorem drop_at (hx : l[k]? = some x) : l.drop k = x :: l.drop (k + 1) := by
  obtain ⟨h1, h2⟩ := List.getElem?_eq_some_iff.1 hx
  rw [List.drop_eq_getElem_cons h1, h2]
theorem ris_drop (hr : Ris l) (hx : l[k]? = some x) : ∀ y ∈ l.drop (k + 1), x.1 < y.1 := by
  have h1 : (l.drop k).Pairwise fun x y => x.1 < y.1 := List.Pairwise.sublist (List.drop_sublist k l) hr
  rw [drop_at hx] at h1
  exact (List.pairwise_cons.1 h1).1
theorem AddI.goes (h : AddI l out w k true) (hx : l[k]? = some x) : x.1 ≠ w.1 ∧ AddI l (out ++ [x]) w (k + 1) true := by
  have hd := drop_at hx
  refine ⟨h.n rfl x (by rw [hd]; exact List.mem_cons_self), ?_, fun _ y hy => h.n rfl y (by rw [hd]; exact List.mem_cons_of_mem _ hy), by have := h.l; simp at this ⊢; omega⟩
  rw [← h.e, hd]
  simp [restW]
theorem AddI.here (h : AddI l out w k false) (hr : Ris l) (hx : l[k]? = some x) (e : x.1 = w.1) : AddI l (out ++ [(x.1, max x.2 w.2)]) w (k + 1) true := by
  have hd := drop_at hx
  refine ⟨?_, fun _ y hy => by have := ris_drop hr hx y hy; omega, by have := h.l; simp at this ⊢; omega⟩
  rw [← h.e, hd]
  simp [restW, addW, e]
theorem AddI.ahead (h : AddI l out w k false) (hr : Ris l) (hx : l[k]? = some x) (e : x.1 ≠ w.1) (hlt : w.1 < x.1) : AddI l (out ++ [w] ++ [x]) w (k + 1) true := by
  have hd := drop_at hx
  refine ⟨?_, fun _ y hy => by have := ris_drop hr hx y hy; omega, by have := h.l; simp at this ⊢; omega⟩
  rw [← h.e, hd]
  simp [restW, addW, e, hlt]
theorem AddI.past (h : AddI l out w k false) (hx : l[k]? = some x) (e : x.1 ≠ w.1) (hlt : ¬ w.1 < x.1) : AddI l (out ++ [x]) w (k + 1) false := by
  have hd := drop_at hx
  refine ⟨?_, (fun h => by cases h), by have := h.l; simp at this ⊢; omega⟩
  rw [← h.e, hd]
  simp [restW, addW, e, hlt]
end
-- $1 $2 what came behind, $3 the flag, $4 the world's Kept ahead of the append
set_option maxRecDepth 100000 in
set_option maxHeartbeats 4000000 in
theorem add_any {F : Nat → Prop} {w : World} {a : Option Addr} {N c : Nat} {l : List Wt} (hl : Lies F w 2 (.slice a N c) N (wcells l)) (hN : l.length = N) (hr : Ris l) (hb : N ≤ 1000000) (v m : Int) :
    Calls Try.prog 73 #[.slice a N c, .agg #[.int .u32 v, .int .u8 m]] w fun e w' => ∃ u, e = .returned u ∧ Wts w w' u (addW l (v, m)) ∧ Kept (fun _ => False) w w' := by
  obtain ⟨m1, m2⟩ := cap_of hl
  unfold maxLen at m2
  have HN := hid hN; have HR := hid hr
  have hk1 := (Kept.refl (fun _ => False) w).alloc (.cells #[.int .u32 v, .int .u8 m] 36)
  have hkb := row_new w (.cells #[.int .u32 v, .int .u8 m] 36)
  obtain ⟨w1, hw1⟩ : ∃ w1, w.alloc (.cells #[.int .u32 v, .int .u8 m] 36) = w1 := ⟨_, rfl⟩
  obtain ⟨kb, hkb'⟩ : ∃ kb, w.heap.size = kb := ⟨_, rfl⟩
  rw [hw1] at hk1 hkb
  rw [hkb'] at hkb
  have KB := hid hkb; have K1 := hid hk1; have HW1 := hid hw1; have HKB := hid hkb'
  have HL := hid (hl.same hk1)
  have HI := hid (show AddI l [] (v, m) 0 false from ⟨rfl, (fun h => by cases h), Nat.le_refl _⟩)
  clear hl hN hr hk1 hkb hw1 hkb'
  go_enter Try.func73, Try.ntmps73
  go_wp2_with fail
  try rw [HW1.out]
  try rw [HKB.out]
  go_loopw [5, 6, 11] (fun o f i wr => ∃ (k : Nat) (out : List Wt) (d : Bool) (oa : Option Addr) (oc : Nat), o = .slice oa out.length oc ∧ f = .bool d ∧ i = .int .i64 k ∧ k ≤ N ∧ AddI l out (v, m) k d ∧ Own wr 36 2 (.slice oa out.length oc) out.length (wcells out) ∧ (∀ b, (Value.slice oa out.length oc).ownBlock = some b → w1.heap.size ≤ b) ∧ Kept (fun _ => False) w1 wr) (fun _ _ i _ => N - (RowKit.intOf i).toNat)
  case atStart => exact ⟨0, [], false, none, 0, rfl, rfl, rfl, Nat.zero_le _, HI.out, Own.nil _ _ _, fun b h => by simp [Value.ownBlock] at h, Kept.refl _ _⟩
  case round =>
    rename World => wr
    obtain ⟨k, out, d, oa, oc, rfl, rfl, rfl, hk, hi, ho, hf, hkr⟩ := hrel
    have KR := hid hkr; have AI := hid hi; have OO := hid ho; have OF := hid hf
    have hol := hi.l
    have hd2 : d.toNat ≤ 1 := by cases d <;> decide
    obtain ⟨q, hq⟩ : ∃ q, out.length = q := ⟨_, rfl⟩
    rw [hq] at OO OF hol ⊢
    have HQ := hid hq
    obtain ⟨k0, k1⟩ : wr.cell? ⟨kb, 0, none⟩ = some (.int .u32 v) ∧ wr.cell? ⟨kb, 1, none⟩ = some (.int .u8 m) := by
      have h := (hkr.block kb (row_lt KB.out) id).trans KB.out
      exact ⟨by rw [row_cell h]; rfl, by rw [row_cell h]; rfl⟩
    clear hkr hi ho hf hq
    by_cases hlt : k < N
    · have hltI : (k : Int) < (N : Int) := by omega
      obtain ⟨⟨x0, x1⟩, hx⟩ : ∃ x, l[k]? = some x := ⟨_, List.getElem?_eq_getElem (by rw [HN.out]; exact hlt)⟩
      obtain ⟨g1, o1, rfl, q0, q1⟩ := w_cells HL.out KR.out hx
      simp only at q0 q1
      have HX := hid hx
      clear hx
      have k3 : Kept (fun _ => False) wr (wr.alloc (.cells #[.int .u32 x0, .int .u8 x1] 36)) := (Kept.refl _ _).alloc _
      have K3 := hid k3
      obtain ⟨y0, y1⟩ := want_new wr x0 x1
      have e0 := k3.cell k0 id
      have e1 := k3.cell k1 id
      clear k3
      cases d with
      | true =>
        obtain ⟨hne, hai⟩ := AI.out.goes HX.out
        have hneB : (x0 == v) = false := by simpa using hne
        have AN := hid hai
        clear hne hai
        go_wp2_with (at_builtin; refine wpList_app rfl _ _ 37 rfl 36 _ 2 8 Try.underlying37 infoW rfl (by decide) (.slice oa q oc) q (wcells out) rfl (by exact (OO.out.alloc _).alloc _) _ rfl 1 _ (want_src _ x0 (x1) (by simp)) (by unfold maxLen; omega) (by omega) ?_; intro a' c' w5 ho5 hk5 hf5 _; have HA5 := hid ho5; have HK5 := hid hk5; have HF5 := hid hf5; clear ho5 hk5 hf5)
        have HS := hid (show Own w5 36 2 (.slice a' (out ++ [(x0, x1)]).length c') (out ++ [(x0, x1)]).length (wcells (out ++ [(x0, x1)])) from by
          rw [wcells_app, List.length_append, HQ.out]
          exact HA5.out)
        have HLN := hid (show (out ++ [(x0, x1)]).length = q + 1 by rw [List.length_append, HQ.out]; rfl)
        go_roundw
        case rel =>
          refine ⟨k + 1, _, true, a', c', by rw [HLN.out], rfl, by go_num, by omega, AN.out, HS.out, fun b hb => ?_, ((KR.out.alloc _).alloc _).trans' HK5.out (fun i hi => .inr (OF.out i hi))⟩
          rw [HLN.out] at hb
          rcases HF5.out b hb with h | h
          · exact OF.out b h
          · have := KR.out.size
            simp at h
            omega
        case measure => (simp only [RowKit.intOf]; omega)
      | false =>
        by_cases he : x0 = v
        · have AN := hid (AI.out.here HR.out HX.out he)
          have heB : (x0 == v) = true := by simp [he]
          clear he
          go_wp2_with (at_builtin; refine wpList_app rfl _ _ 37 rfl 36 _ 2 8 Try.underlying37 infoW rfl (by decide) (.slice oa q oc) q (wcells out) rfl (by exact (OO.out.alloc _).alloc _) _ rfl 1 _ (want_src _ x0 (max x1 m) (by simp)) (by unfold maxLen; omega) (by omega) ?_; intro a' c' w5 ho5 hk5 hf5 _; have HA5 := hid ho5; have HK5 := hid hk5; have HF5 := hid hf5; clear ho5 hk5 hf5)
          have HS := hid (show Own w5 36 2 (.slice a' (out ++ [(x0, max x1 m)]).length c') (out ++ [(x0, max x1 m)]).length (wcells (out ++ [(x0, max x1 m)])) from by
            rw [wcells_app, List.length_append, HQ.out]
            exact HA5.out)
          have HLN := hid (show (out ++ [(x0, max x1 m)]).length = q + 1 by rw [List.length_append, HQ.out]; rfl)
          go_roundw
          case rel =>
            refine ⟨k + 1, _, true, a', c', by rw [HLN.out], rfl, by go_num, by omega, AN.out, HS.out, fun b hb => ?_, ((KR.out.alloc _).alloc _).trans' HK5.out (fun i hi => .inr (OF.out i hi))⟩
            rw [HLN.out] at hb
            rcases HF5.out b hb with h | h
            · exact OF.out b h
            · have := KR.out.size
              simp at h
              omega
          case measure => (simp only [RowKit.intOf]; omega)
        · have heB : (x0 == v) = false := by simpa using he
          by_cases hlv : v < x0
          · have AN := hid (AI.out.ahead HR.out HX.out he hlv)
            clear he
            have HNE := hid (show ∀ b, (Value.slice oa q oc).ownBlock = some b → ¬ b = wr.heap.size from fun b hb e => by have := OO.out.lt hb; omega)
            have k4 : Kept (fun _ => False) (wr.alloc (.cells #[.int .u32 x0, .int .u8 x1] 36)) ((wr.alloc (.cells #[.int .u32 x0, .int .u8 x1] 36)).alloc (.cells #[.int .u32 v, .int .u8 m] 36)) := (Kept.refl _ _).alloc _
            have YY0 := hid (k4.cell y0 id)
            have YY1 := hid (k4.cell y1 id)
            clear k4
            go_wp2_with (first
              | (at_builtin; refine wpList_app rfl _ _ 37 rfl 36 _ 2 8 Try.underlying37 infoW rfl (by decide) (.slice oa q oc) q (wcells out) rfl (by exact (OO.out.alloc _).alloc _) _ rfl 1 _ (want_src _ v m (by simp)) (by unfold maxLen; omega) (by omega) ?_; intro a' c' w5 ho5 hk5 hf5 _; have f0 := hk5.cell YY0.out (fun h => HNE.out _ h rfl); have f1 := hk5.cell YY1.out (fun h => HNE.out _ h rfl); have HA5 := hid ho5; have HK5 := hid hk5; have HF5 := hid hf5; clear ho5 hk5 hf5)
              | (at_builtin; refine wpList_app rfl _ _ 37 rfl 36 _ 2 8 Try.underlying37 infoW rfl (by decide) (.slice a' (q + 1) c') (q + 1) (wcells out ++ wcells [(v, m)]) rfl (by exact HA5.out.alloc _) _ rfl 1 _ (want_src _ x0 x1 rfl) (by unfold maxLen; omega) (by omega) ?_; intro a2 c2 w6 ho6 hk6 hf6 _; have HA6 := hid ho6; have HK6 := hid hk6; have HF6 := hid hf6; clear ho6 hk6 hf6))
            have HS := hid (show Own w6 36 2 (.slice a2 (out ++ [(v, m)] ++ [(x0, x1)]).length c2) (out ++ [(v, m)] ++ [(x0, x1)]).length (wcells (out ++ [(v, m)] ++ [(x0, x1)])) from by
              rw [wcells_app, wcells_app, List.length_append, List.length_append, HQ.out]
              exact HA6.out)
            have HLN := hid (show (out ++ [(v, m)] ++ [(x0, x1)]).length = q + 1 + 1 by rw [List.length_append, List.length_append, HQ.out]; rfl)
            have hf5 : ∀ b, (Value.slice a' (q + 1) c').ownBlock = some b → w1.heap.size ≤ b := fun b hb => by
              rcases HF5.out b hb with h | h
              · exact OF.out b h
              · have := KR.out.size
                simp at h
                omega
            have K5 := hid (((KR.out.alloc _).alloc _).trans' HK5.out (fun i hi => .inr (OF.out i hi)))
            have HF9 := hid hf5
            clear hf5
            go_roundw
            case rel =>
              refine ⟨k + 1, _, true, a2, c2, by rw [HLN.out], rfl, by go_num, by omega, AN.out, HS.out, fun b hb => ?_, (K5.out.alloc _).trans' HK6.out (fun i hi => .inr (HF9.out i hi))⟩
              rw [HLN.out] at hb
              rcases HF6.out b hb with h | h
              · exact HF9.out b h
              · have := K5.out.size
                simp at h
                omega
            case measure => (simp only [RowKit.intOf]; omega)
          · have AN := hid (AI.out.past HX.out he hlv)
            clear he
            go_wp2_with (at_builtin; refine wpList_app rfl _ _ 37 rfl 36 _ 2 8 Try.underlying37 infoW rfl (by decide) (.slice oa q oc) q (wcells out) rfl (by exact (OO.out.alloc _).alloc _) _ rfl 1 _ (want_src _ x0 (x1) (by simp)) (by unfold maxLen; omega) (by omega) ?_; intro a' c' w5 ho5 hk5 hf5 _; have HA5 := hid ho5; have HK5 := hid hk5; have HF5 := hid hf5; clear ho5 hk5 hf5)
            have HS := hid (show Own w5 36 2 (.slice a' (out ++ [(x0, x1)]).length c') (out ++ [(x0, x1)]).length (wcells (out ++ [(x0, x1)])) from by
              rw [wcells_app, List.length_append, HQ.out]
              exact HA5.out)
            have HLN := hid (show (out ++ [(x0, x1)]).length = q + 1 by rw [List.length_append, HQ.out]; rfl)
            go_roundw
            case rel =>
              refine ⟨k + 1, _, false, a', c', by rw [HLN.out], rfl, by go_num, by omega, AN.out, HS.out, fun b hb => ?_, ((KR.out.alloc _).alloc _).trans' HK5.out (fun i hi => .inr (OF.out i hi))⟩
              rw [HLN.out] at hb
              rcases HF5.out b hb with h | h
              · exact OF.out b h
              · have := KR.out.size
                simp at h
                omega
            case measure => (simp only [RowKit.intOf]; omega)
    · obtain rfl : k = N := by omega
      have hdr : l.drop k = [] := by rw [← HN.out]; exact List.drop_length
      have hae := AI.out.e
      rw [hdr] at hae
      clear hdr
      cases d with
      | true =>
        have HX := hid (show addW l (v, m) = out by rw [← hae]; simp [restW])
        clear hae
        go_wp2
        go_ret
        rw [HX.out]
        exact ⟨_, rfl, ⟨oa, oc, by rw [HQ.out]; rfl, by rw [HQ.out]; exact OO.out, fun b hb => by rw [HQ.out] at hb; exact Nat.le_trans K1.out.size (OF.out b hb)⟩, K1.out.trans KR.out⟩
      | false =>
        have HX := hid (show addW l (v, m) = out ++ [(v, m)] by rw [← hae]; simp [restW, addW])
        clear hae
        go_wp2_with (at_builtin; refine wpList_app rfl _ _ 37 rfl 36 _ 2 8 Try.underlying37 infoW rfl (by decide) (.slice oa q oc) q (wcells out) rfl (by exact OO.out.alloc _) _ rfl 1 _ (want_src _ v m rfl) (by unfold maxLen; omega) (by omega) ?_; intro a' c' w5 ho5 hk5 hf5 _; have HA5 := hid ho5; have HK5 := hid hk5; have HF5 := hid hf5; clear ho5 hk5 hf5)
        go_ret
        have HLN : (out ++ [(v, m)]).length = q + 1 := by rw [List.length_append, HQ.out]; rfl
        rw [HX.out]
        refine ⟨_, rfl, ⟨a', c', by rw [HLN]; rfl, by rw [HLN, wcells_app]; exact HA5.out, fun b hb => ?_⟩, K1.out.trans ((KR.out.alloc _).trans' HK5.out (fun i hi => .inr (OF.out i hi)))⟩
        rw [HLN] at hb
        have h1 := K1.out.size
        rcases HF5.out b hb with h | h
        · exact Nat.le_trans h1 (OF.out b h)
        · have := KR.out.size
          simp at h
          omega
end Go.Proofs.Ytpjhdpfaogdboaa
/- The document: drop. -/
namespace Go.Proofs.Ytpjhdpfaogdboaa
set_option linter.unusedSimpArgs false
set_option linter.unusedVariables false
open Go.RowKit
theorem infoOn : (Try.prog.info? 104).map (fun i => (i.zero, i.size, i.bytes)) = some (some (.agg #[.int .u8 0, .int .u32 0, .int .u32 0, .int .u64 0, .slice none 0 0, .slice none 0 0, .bool false]), 7, 80) := by kernel_rfl
abbrev onRow (t1 t2 t3 age : Int) (la : Option Addr) (ln lc : Nat) (wa : Option Addr) (wn wc : Nat) (f : Bool) : Obj := .cells #[.int .u8 t1, .int .u32 t2, .int .u32 t3, .int .u64 age, .slice la ln lc, .slice wa wn wc, .bool f] 104 (0, 0)
theorem on_src (w : World) (o : Ow) (r : Rw) {b : Nat} (hb : w.heap.size = b) : Src (w.alloc (onRow o.tx.1 o.tx.2.1 o.tx.2.2 o.age r.la o.lk.length r.lc r.wa o.ws.length r.wc o.fast)) 7 (.slice (some ⟨b, 0, none⟩) 1 1) 1 (dcell o r) := by
  subst hb
  exact src_row rfl (fun j u hu => by rw [row_cell (row_new w _)]; simpa [dcell] using hu) (dcell_one o r)
theorem dcells_app (R : Tx → Rw) (L M : List Ow) : dcells R (L ++ M) = dcells R L ++ dcells R M := by unfold dcells; rw [List.flatMap_append]
theorem dropO_take {L : List Ow} {k : Nat} {o : Ow} (t : Tx) (h : L[k]? = some o) : dropO (L.take (k + 1)) t = dropO (L.take k) t ++ (if o.tx = t then [] else [o]) := by
  unfold dropO
  rw [List.take_add_one, h, List.filter_append]
  by_cases e : o.tx = t
  · simp [e]
  · simp [e]
/-- a new row has come in the old one's place -/
theorem DT.newrow {D : Nat → Prop} {w w' : World} {xb : Nat} {v v' : Value} {L M : List Ow} {R R' : Tx → Rw} (h : DT D w xb v L R) (k : Kept (fun i => i = xb) w w') (ho : w'.heap[xb]? = some (.cells #[v'] 58 (0, 0))) (hr : Own w' 104 7 v' M.length (dcells R' M))
    (hl : ∀ o ∈ M, OwD D w o (R' o.tx)) (hg : ∀ b, v'.ownBlock = some b → ¬ D b) : DT D w' xb v' M R' :=
  ⟨ho, hr, fun o hm => (hl o hm).kept k (fun i e => by rw [e]; exact h.nx), h.nx, hg, fun i hi => Nat.lt_of_lt_of_le (h.new i hi) k.size⟩
section
variable {D : Nat → Prop} {w w' : World} {xb : Nat} {v : Value} {L : List Ow} {R : Tx → Rw}
set_option maxRecDepth 100000 in
set_option maxHeartbeats 4000000 in
theorem drop_any (h : DT D w xb v L R) (hL : L.length ≤ 100000) (t1 t2 t3 : Int) :
    Calls Try.prog 57 #[.pointer (some ⟨xb, 0, none⟩), .agg #[.int .u8 t1, .int .u32 t2, .int .u32 t3]] w fun e w' => e = .returned (.tuple #[]) ∧ ∃ v', DT D w' xb v' (dropO L (t1, t2, t3)) R ∧ (∀ b, v'.ownBlock = some b → w.heap.size ≤ b) ∧ Kept (fun i => i = xb) w w' := by
  have hk1 := (Kept.refl (fun _ => False) w).alloc (.cells #[.int .u8 t1, .int .u32 t2, .int .u32 t3] 32)
  have hkb := row_new w (.cells #[.int .u8 t1, .int .u32 t2, .int .u32 t3] 32)
  obtain ⟨z0, z1, z2⟩ := cells3 hkb
  obtain ⟨w1, hw1⟩ : ∃ w1, w.alloc (.cells #[.int .u8 t1, .int .u32 t2, .int .u32 t3] 32) = w1 := ⟨_, rfl⟩
  obtain ⟨kb, hkb'⟩ : ∃ kb, w.heap.size = kb := ⟨_, rfl⟩
  rw [hw1] at hk1 hkb
  rw [hkb'] at hkb
  have KB := hid hkb; have K1 := hid hk1
  have HW1 := hid hw1; have HKB := hid hkb'
  clear hk1 hkb hw1 hkb'
  have H1 := hid (h.same K1.out)
  obtain ⟨a, c, rfl, hc1, hc2⟩ := h.slice
  unfold maxLen at hc2
  obtain ⟨n, hn⟩ : ∃ n, L.length = n := ⟨_, rfl⟩
  have HN := hid hn
  rw [hn] at hc1 hL
  have x0 := H1.out.cell
  rw [hn] at x0
  have HXB := hid (show xb < w.heap.size from row_lt h.obj)
  have hz0 := HW1.out ▸ x0
  clear h hn
  go_enter Try.func57, Try.ntmps57
  go_wp2_with fail
  try rw [HW1.out]
  try rw [HKB.out]
  clear z0 z1 z2 hz0 x0
  have hne9 : ∀ b, w1.heap.size ≤ b → ¬ b = xb := fun b hb e => by have := K1.out.size; have := HXB.out; omega
  have HNE9 := hid hne9
  clear hne9
  go_loopw [4, 12] (fun l i wr => ∃ (k q : Nat) (oa : Option Addr) (oc : Nat), l = .slice oa q oc ∧ i = .int .i64 k ∧ k ≤ n ∧ (dropO (L.take k) (t1, t2, t3)).length = q ∧ Own wr 104 7 (.slice oa q oc) q (dcells R (dropO (L.take k) (t1, t2, t3))) ∧ (∀ b, (Value.slice oa q oc).ownBlock = some b → w1.heap.size ≤ b) ∧ Kept (fun _ => False) w1 wr) (fun _ i _ => n - (RowKit.intOf i).toNat)
  case atStart => exact ⟨0, 0, none, 0, rfl, rfl, Nat.zero_le _, rfl, Own.nil _ _ _, fun b h => by simp [Value.ownBlock] at h, Kept.refl _ _⟩
  case round =>
    rename World => wr
    obtain ⟨k, q, oa, oc, rfl, rfl, hk, hq, ho, hf, hkr⟩ := hrel
    have KR := hid hkr; have HQ := hid hq; have OO := hid ho; have OF := hid hf
    have HR := hid (H1.out.same hkr)
    have hqk : q ≤ n := by
      have h1 := List.length_filter_le (fun x : Ow => decide (x.tx ≠ (t1, t2, t3))) (L.take k)
      have h2 := List.length_take_le k L
      unfold dropO at hq
      omega
    obtain ⟨d0, d1, d2⟩ := cells3 ((hkr.block kb (row_lt KB.out) id).trans KB.out)
    clear hkr hq ho hf
    by_cases hlt : k < n
    · have hltI : (k : Int) < (n : Int) := by omega
      obtain ⟨o, ho⟩ : ∃ o, L[k]? = some o := ⟨_, List.getElem?_eq_getElem (by rw [HN.out]; exact hlt)⟩
      obtain ⟨g, c', hv, o0, o1, o2, o3, o4, o5, o6⟩ := HR.out.owner ho
      simp only [Value.slice.injEq] at hv
      obtain ⟨rfl, _, rfl⟩ := hv
      have HO := hid ho
      have HDT := hid (dropO_take (t1, t2, t3) ho)
      have HRL := hid (show dcells R [o] = dcell o (R o.tx) by simp [dcells])
      obtain ⟨⟨y1, y2, y3⟩, oA, ol, ow, of⟩ := o
      simp only at o0 o1 o2 o3 o4 o5 o6
      obtain ⟨r1, r2, r3, r4⟩ : ∃ r1 r2, (R (y1, y2, y3)).la = r1 ∧ (R (y1, y2, y3)).lc = r2 := ⟨_, _, rfl, rfl⟩
      obtain ⟨s1, s2, s3, s4⟩ : ∃ r1 r2, (R (y1, y2, y3)).wa = r1 ∧ (R (y1, y2, y3)).wc = r2 := ⟨_, _, rfl, rfl⟩
      rw [r3, r4] at o4
      rw [s3, s4] at o5
      have hrr : R (y1, y2, y3) = ⟨r1, r2, s1, s2⟩ := by rw [← r3, ← r4, ← s3, ← s4]
      have HRR := hid hrr
      obtain ⟨z0, z1, z2, z3, z4, z5, z6⟩ := cells7 (row_new wr (onRow y1 y2 y3 oA r1 ol.length r2 s1 ow.length s2 of))
      have k3 : Kept (fun _ => False) wr (wr.alloc (onRow y1 y2 y3 oA r1 ol.length r2 s1 ow.length s2 of)) := (Kept.refl _ _).alloc _
      have e0 := k3.cell d0 id
      have e1 := k3.cell d1 id
      have e2 := k3.cell d2 id
      have K3 := hid k3
      unfold onRow at z0 z1 z2 z3 z4 z5 z6 e0 e1 e2
      have hne := fun W => tx_ne (y1, y2, y3) (t1, t2, t3) W
      unfold txv at hne
      clear ho r3 r4 s3 s4 hrr k3
      by_cases e : ((y1, y2, y3) : Tx) = (t1, t2, t3)
      · have HSN := hid (show dropO (L.take (k + 1)) (t1, t2, t3) = dropO (L.take k) (t1, t2, t3) by rw [HDT.out, if_pos e, List.append_nil])
        simp only [e, decide_true, Bool.not_true] at hne
        clear e
        go_wp2
        go_roundw
        case rel => exact ⟨k + 1, q, oa, oc, rfl, by go_num, by omega, by rw [HSN.out]; exact HQ.out, by rw [HSN.out]; exact OO.out.alloc _, OF.out, KR.out.alloc _⟩
        case measure => (simp only [RowKit.intOf]; omega)
      · have HSN := hid (show dropO (L.take (k + 1)) (t1, t2, t3) = dropO (L.take k) (t1, t2, t3) ++ [⟨(y1, y2, y3), oA, ol, ow, of⟩] by rw [HDT.out, if_neg e])
        simp only [e, decide_false, Bool.not_false] at hne
        clear e
        have HSR := hid (show Src ((wr.alloc (onRow y1 y2 y3 oA r1 ol.length r2 s1 ow.length s2 of)).alloc (onRow y1 y2 y3 oA r1 ol.length r2 s1 ow.length s2 of)) 7 (.slice (some ⟨wr.heap.size + 1, 0, none⟩) 1 1) 1 (dcell ⟨(y1, y2, y3), oA, ol, ow, of⟩ (R (y1, y2, y3))) from by
          rw [HRR.out]
          exact on_src _ ⟨(y1, y2, y3), oA, ol, ow, of⟩ ⟨r1, r2, s1, s2⟩ (by simp))
        unfold onRow at HSR
        go_wp2_with (at_builtin; refine wpList_app rfl _ _ 56 rfl 104 _ 7 80 Try.underlying56 infoOn rfl (by decide) (.slice oa q oc) q _ rfl (by exact (OO.out.alloc _).alloc _) _ rfl 1 _ HSR.out (by unfold maxLen; omega) (by omega) ?_; intro a' c' w5 ho5 hk5 hf5 _; have HA5 := hid ho5; have HK5 := hid hk5; have HF5 := hid hf5; clear ho5 hk5 hf5)
        go_roundw
        case rel =>
          refine ⟨k + 1, q + 1, a', c', rfl, by go_num, by omega, by rw [HSN.out, List.length_append, HQ.out]; rfl, by rw [HSN.out, dcells_app]; have h9 := HA5.out; rw [← HRL.out] at h9; exact h9, fun b hb => ?_, ((KR.out.alloc _).alloc _).trans' HK5.out (fun i hi => .inr (OF.out i hi))⟩
          rcases HF5.out b hb with h | h
          · exact OF.out b h
          · have := KR.out.size
            simp at h
            omega
        case measure => (simp only [RowKit.intOf]; omega)
    · obtain rfl : k = n := by omega
      have hta : L.take k = L := by rw [← HN.out]; exact List.take_length
      rw [hta] at HQ OO
      have HOB := hid HR.out.obj
      clear hta
      go_wp2_with (refine wpList_store_cell rfl _ _ _ rfl (by kernel_rfl) xb 0 (by rfl) _ (by rfl) rfl HOB.out (by simp) ?_; intro w6 hb6 hk6)
      go_returns
      refine ⟨rfl, .slice oa q oc, ?_, fun b hb => Nat.le_trans K1.out.size (OF.out b hb), (K1.out.trans KR.out).mono (fun _ _ h => h.elim) |>.trans hk6.out⟩
      refine HR.out.newrow hk6.out hb6.out ?_ (fun o ho => HR.out.lst o (mem_dropO.1 ho).1) (fun b hb hd => ?_)
      · rw [HQ.out]
        exact OO.out.kept hk6.out (fun b hb => HNE9.out b (OF.out b hb))
      · have h1 := H1.out.new b hd
        have h2 := OF.out b hb
        omega
end
end Go.Proofs.Ytpjhdpfaogdboaa
/- The document: lay. -/
namespace Go.Proofs.Ytpjhdpfaogdboaa
set_option linter.unusedSimpArgs false
set_option linter.unusedVariables false
open Go.RowKit
def restO (d : Bool) (l : List Ow) (o : Ow) : List Ow := if d = true then l else insO o l
structure LayI (L out : List Ow) (o : Ow) (k : Nat) (d : Bool) : Prop where
  e : out ++ restO d (dropO (L.drop k) o.tx) o = layO L o
  l : out.length ≤ k + d.toNat
theorem drop_atO {L : List Ow} {k : Nat} {x : Ow} (hx : L[k]? = some x) (t : Tx) : dropO (L.drop k) t = (if x.tx = t then [] else [x]) ++ dropO (L.drop (k + 1)) t := by
  obtain ⟨h1, h2⟩ := List.getElem?_eq_some_iff.1 hx
  rw [List.drop_eq_getElem_cons h1, h2]
  unfold dropO
  rw [List.filter_cons]
  by_cases e : x.tx = t
  · simp [e]
  · simp [e]
section
variable {L out : List Ow} {o x : Ow} {k : Nat} {d : Bool}
theorem LayI.skip (h : LayI L out o k d) (hx : L[k]? = some x) (e : x.tx = o.tx) : LayI L out o (k + 1) d := by
  refine ⟨?_, by have := h.l; omega⟩
  rw [← h.e, drop_atO hx, if_pos e, List.nil_append]
theorem LayI.goes (h : LayI L out o k true) (hx : L[k]? = some x) (e : x.tx ≠ o.tx) : LayI L (out ++ [x]) o (k + 1) true := by
  refine ⟨?_, by have := h.l; simp at this ⊢; omega⟩
  rw [← h.e, drop_atO hx, if_neg e]
  simp [restO]
theorem LayI.ahead (h : LayI L out o k false) (hx : L[k]? = some x) (e : x.tx ≠ o.tx) (hlt : ltO o.key x.key) : LayI L (out ++ [o] ++ [x]) o (k + 1) true := by
  refine ⟨?_, by have := h.l; simp at this ⊢; omega⟩
  rw [← h.e, drop_atO hx, if_neg e]
  simp [restO, insO, hlt]
theorem LayI.past (h : LayI L out o k false) (hx : L[k]? = some x) (e : x.tx ≠ o.tx) (hlt : ¬ ltO o.key x.key) : LayI L (out ++ [x]) o (k + 1) false := by
  refine ⟨?_, by have := h.l; simp at this ⊢; omega⟩
  rw [← h.e, drop_atO hx, if_neg e]
  simp [restO, insO, hlt]
end
def updR (R : Tx → Rw) (t : Tx) (r : Rw) : Tx → Rw := fun u => if u = t then r else R u
theorem updR_ne {R : Tx → Rw} {t u : Tx} {r : Rw} (h : u ≠ t) : updR R t r u = R u := if_neg h
theorem updR_eq {R : Tx → Rw} {t : Tx} {r : Rw} : updR R t r t = r := if_pos rfl
theorem dcells_one1 (R : Tx → Rw) (o : Ow) : dcells R [o] = dcell o (R o.tx) := by simp [dcells]
theorem lay_lst {D : Nat → Prop} {w : World} {L : List Ow} {R R' : Tx → Rw} {o : Ow} {r : Rw} (h : ∀ x ∈ L, OwD D w x (R x.tx)) (ho : OwD D w o r) (he : R' o.tx = r) (hn : ∀ t, t ≠ o.tx → R' t = R t) : ∀ x ∈ layO L o, OwD D w x (R' x.tx) := by
  intro x hx
  rcases mem_insO.1 hx with rfl | hx
  · rw [he]
    exact ho
  · obtain ⟨h1, h2⟩ := mem_dropO.1 hx
    rw [hn _ h2]
    exact h x h1
section
variable {D : Nat → Prop} {w w' : World} {xb : Nat} {v : Value} {L : List Ow} {R : Tx → Rw}
set_option maxRecDepth 100000 in
set_option maxHeartbeats 8000000 in
theorem lay_any (h : DT D w xb v L R) (hL : L.length ≤ 100000) {oX : Ow} {rX : Rw} (hox : OwD D w oX rX) :
    Calls Try.prog 58 #[.pointer (some ⟨xb, 0, none⟩), .agg (dcell oX rX).toArray] w fun e w' => e = .returned (.tuple #[]) ∧ ∃ v', DT D w' xb v' (layO L oX) (updR R oX.tx rX) ∧ (∀ b, v'.ownBlock = some b → w.heap.size ≤ b) ∧ Kept (fun i => i = xb) w w' := by
  have HOX := hid hox
  obtain ⟨R', hR'⟩ : ∃ R', updR R oX.tx rX = R' := ⟨_, rfl⟩
  rw [hR']
  have HRE := hid (show R' oX.tx = rX by rw [← hR']; exact updR_eq)
  have HRN := hid (show ∀ t, t ≠ oX.tx → R' t = R t from fun t ht => by rw [← hR']; exact updR_ne ht)
  have HI0 := hid (show LayI L [] oX 0 false from ⟨rfl, Nat.le_refl _⟩)
  obtain ⟨o, hoo⟩ : ∃ o, oX = o := ⟨_, rfl⟩
  obtain ⟨r, hrr⟩ : ∃ r, rX = r := ⟨_, rfl⟩
  rw [hoo, hrr] at HRE
  rw [hoo] at HRN HI0
  rw [hoo, hrr] at HOX
  have HOO := hid hoo
  rw [hoo, hrr]
  obtain ⟨⟨t1, t2, t3⟩, age, olk, ows, of⟩ := o
  obtain ⟨la, lc, wa, wc⟩ := r
  clear hR' hoo hrr hox
  simp only [dcell]
  have hk1 := (Kept.refl (fun _ => False) w).alloc (onRow t1 t2 t3 age la olk.length lc wa ows.length wc of)
  have hkb := row_new w (onRow t1 t2 t3 age la olk.length lc wa ows.length wc of)
  obtain ⟨z0, z1, z2, z3, z4, z5, z6⟩ := cells7 hkb
  obtain ⟨w1, hw1⟩ : ∃ w1, w.alloc (onRow t1 t2 t3 age la olk.length lc wa ows.length wc of) = w1 := ⟨_, rfl⟩
  obtain ⟨kb, hkb'⟩ : ∃ kb, w.heap.size = kb := ⟨_, rfl⟩
  have hz9 := hk1.cell h.cell id
  rw [hw1] at hk1 hkb
  rw [hkb'] at hkb
  have KB := hid hkb; have K1 := hid hk1
  unfold onRow at hw1 z0 z1 z2 z3 z4 z5 z6 hz9
  have HW1 := hid hw1; have HKB := hid hkb'
  clear hk1 hkb hw1 hkb'
  have H1 := hid (h.same K1.out)
  obtain ⟨a, c, rfl, hc1, hc2⟩ := h.slice
  unfold maxLen at hc2
  obtain ⟨n, hn⟩ : ∃ n, L.length = n := ⟨_, rfl⟩
  have HN := hid hn
  rw [hn] at hc1 hL hz9
  have HXB := hid (show xb < w.heap.size from row_lt h.obj)
  clear h hn
  go_enter Try.func58, Try.ntmps58
  go_wp2_with fail
  try rw [HW1.out]
  try rw [HKB.out]
  clear z0 z1 z2 z3 z4 z5 z6 hz9
  have hne9 : ∀ b, w1.heap.size ≤ b → ¬ b = xb := fun b hb e => by have := K1.out.size; have := HXB.out; omega
  have HNE9 := hid hne9
  clear hne9
  go_loopw [4, 5, 13] (fun l f i wr => ∃ (k q : Nat) (out : List Ow) (d : Bool) (oa : Option Addr) (oc : Nat), l = .slice oa q oc ∧ f = .bool d ∧ i = .int .i64 k ∧ k ≤ n ∧ out.length = q ∧ LayI L out ⟨(t1, t2, t3), age, olk, ows, of⟩ k d ∧ Own wr 104 7 (.slice oa q oc) q (dcells R' out) ∧ (∀ b, (Value.slice oa q oc).ownBlock = some b → w1.heap.size ≤ b) ∧ Kept (fun _ => False) w1 wr) (fun _ _ i _ => n - (RowKit.intOf i).toNat)
  case atStart => exact ⟨0, 0, [], false, none, 0, rfl, rfl, rfl, Nat.zero_le _, rfl, HI0.out, Own.nil _ _ _, fun b h => by simp [Value.ownBlock] at h, Kept.refl _ _⟩
  case round =>
    rename World => wr
    clear HI0
    obtain ⟨k, q, out, d, oa, oc, rfl, rfl, rfl, hk, hq, hli, ho, hf, hkr⟩ := hrel
    have KR := hid hkr; have HQ := hid hq; have OO := hid ho; have OF := hid hf; have LI := hid hli
    have HR := hid (H1.out.same hkr)
    have hqk : q ≤ n + 1 := by
      have h1 := hli.l
      have h2 : d.toNat ≤ 1 := by cases d <;> decide
      omega
    obtain ⟨d0, d1, d2, d3, d4, d5, d6⟩ := cells7 ((hkr.block kb (row_lt KB.out) id).trans KB.out)
    clear hkr hq ho hf hli
    by_cases hlt : k < n
    · have hltI : (k : Int) < (n : Int) := by omega
      obtain ⟨x, hx⟩ : ∃ o, L[k]? = some o := ⟨_, List.getElem?_eq_getElem (by rw [HN.out]; exact hlt)⟩
      obtain ⟨g, c', hv, o0, o1, o2, o3, o4, o5, o6⟩ := HR.out.owner hx
      simp only [Value.slice.injEq] at hv
      obtain ⟨rfl, _, rfl⟩ := hv
      have HX := hid hx
      obtain ⟨⟨y1, y2, y3⟩, xa, xlk, xws, xf⟩ := x
      simp only at o0 o1 o2 o3 o4 o5 o6
      obtain ⟨r1, r2, r3, r4⟩ : ∃ r1 r2, (R (y1, y2, y3)).la = r1 ∧ (R (y1, y2, y3)).lc = r2 := ⟨_, _, rfl, rfl⟩
      obtain ⟨s1, s2, s3, s4⟩ : ∃ r1 r2, (R (y1, y2, y3)).wa = r1 ∧ (R (y1, y2, y3)).wc = r2 := ⟨_, _, rfl, rfl⟩
      rw [r3, r4] at o4
      rw [s3, s4] at o5
      have hrr : R (y1, y2, y3) = ⟨r1, r2, s1, s2⟩ := by rw [← r3, ← r4, ← s3, ← s4]
      have HRR := hid hrr
      obtain ⟨z0, z1, z2, z3, z4, z5, z6⟩ := cells7 (row_new wr (onRow y1 y2 y3 xa r1 xlk.length r2 s1 xws.length s2 xf))
      have k3 : Kept (fun _ => False) wr (wr.alloc (onRow y1 y2 y3 xa r1 xlk.length r2 s1 xws.length s2 xf)) := (Kept.refl _ _).alloc _
      have e0 := k3.cell d0 id
      have e1 := k3.cell d1 id
      have e2 := k3.cell d2 id
      have e3 := k3.cell d3 id
      have e4 := k3.cell d4 id
      have e5 := k3.cell d5 id
      have e6 := k3.cell d6 id
      unfold onRow at z0 z1 z2 z3 z4 z5 z6 e0 e1 e2 e3 e4 e5 e6
      have heq := fun W => tx_eq (y1, y2, y3) (t1, t2, t3) W
      unfold txv at heq
      clear hx r3 r4 s3 s4 hrr k3 d0 d1 d2 d3 d4 d5 d6
      by_cases e : ((y1, y2, y3) : Tx) = (t1, t2, t3)
      · have LN := hid (LI.out.skip HX.out e)
        simp only [e, decide_true] at heq
        clear e
        go_wp2
        go_roundw
        case rel => exact ⟨k + 1, q, out, d, oa, oc, rfl, rfl, by go_num, by omega, HQ.out, LN.out, OO.out.alloc _, OF.out, KR.out.alloc _⟩
        case measure => (simp only [RowKit.intOf]; omega)
      · simp only [e, decide_false] at heq
        have HRX := hid ((HRN.out (y1, y2, y3) e).trans HRR.out)
        have HSRx := hid (fun W : World => on_src W ⟨(y1, y2, y3), xa, xlk, xws, xf⟩ ⟨r1, r2, s1, s2⟩ (b := W.heap.size) rfl)
        cases d with
        | true =>
          have LN := hid (LI.out.goes HX.out e)
          clear e
          have HSR := hid (show Src ((wr.alloc (onRow y1 y2 y3 xa r1 xlk.length r2 s1 xws.length s2 xf)).alloc (onRow y1 y2 y3 xa r1 xlk.length r2 s1 xws.length s2 xf)) 7 (.slice (some ⟨wr.heap.size + 1, 0, none⟩) 1 1) 1 (dcell ⟨(y1, y2, y3), xa, xlk, xws, xf⟩ (R' (y1, y2, y3))) from by
            rw [HRX.out]
            exact on_src _ ⟨(y1, y2, y3), xa, xlk, xws, xf⟩ ⟨r1, r2, s1, s2⟩ (by simp))
          unfold onRow at HSR
          go_wp2_with (at_builtin; refine wpList_app rfl _ _ 56 rfl 104 _ 7 80 Try.underlying56 infoOn rfl (by decide) (.slice oa q oc) q _ rfl (by exact (OO.out.alloc _).alloc _) _ rfl 1 _ HSR.out (by unfold maxLen; omega) (by omega) ?_; intro a' c' w5 ho5 hk5 hf5 _; have HA5 := hid ho5; have HK5 := hid hk5; have HF5 := hid hf5; clear ho5 hk5 hf5)
          go_roundw
          case rel =>
            refine ⟨k + 1, q + 1, _, true, a', c', rfl, rfl, by go_num, by omega, by rw [List.length_append, HQ.out]; rfl, LN.out, by rw [dcells_app, dcells_one1]; exact HA5.out, fun b hb => ?_, ((KR.out.alloc _).alloc _).trans' HK5.out (fun i hi => .inr (OF.out i hi))⟩
            rcases HF5.out b hb with h | h
            · exact OF.out b h
            · have := KR.out.size
              simp at h
              omega
          case measure => (simp only [RowKit.intOf]; omega)
        | false =>
          have hcall := fun (b : Bool) (hb : decide (ltO (age, (t1, t2, t3)) (xa, (y1, y2, y3))) = b) (W : World) => older_any W ⟨(t1, t2, t3), age, olk, ows, of⟩ ⟨(y1, y2, y3), xa, xlk, xws, xf⟩ ⟨la, lc, wa, wc⟩ ⟨r1, r2, s1, s2⟩ hb
          simp only [dcell] at hcall
          have HDX := hid (show dcells R' [⟨(y1, y2, y3), xa, xlk, xws, xf⟩] = dcell ⟨(y1, y2, y3), xa, xlk, xws, xf⟩ ⟨r1, r2, s1, s2⟩ by rw [dcells_one1]; exact congrArg _ HRX.out)
          by_cases hlo : ltO (age, (t1, t2, t3)) (xa, (y1, y2, y3))
          · have LN := hid (LI.out.ahead HX.out e hlo)
            replace hcall := hcall true (by simp [hlo])
            have HDO := hid (show dcells R' [⟨(t1, t2, t3), age, olk, ows, of⟩] = dcell ⟨(t1, t2, t3), age, olk, ows, of⟩ ⟨la, lc, wa, wc⟩ by rw [dcells_one1]; exact congrArg _ HRE.out)
            have HNE := hid (show ∀ b, (Value.slice oa q oc).ownBlock = some b → ¬ b = wr.heap.size from fun b hb e => by have := OO.out.lt hb; omega)
            clear e hlo
            go_wp2_with (first
              | (go_at_call 56; refine (hcall _).mono ?_; rintro e9 w4 ⟨rfl, hk4⟩; have HK4 := hid hk4; have g0 := hk4.cell z0 id; have g1 := hk4.cell z1 id; have g2 := hk4.cell z2 id; have g3 := hk4.cell z3 id; have g4 := hk4.cell z4 id; have g5 := hk4.cell z5 id; have g6 := hk4.cell z6 id; have q0 := hk4.cell e0 id; have q1 := hk4.cell e1 id; have q2 := hk4.cell e2 id; have q3 := hk4.cell e3 id; have q4 := hk4.cell e4 id; have q5 := hk4.cell e5 id; have q6 := hk4.cell e6 id; clear hk4)
              | (at_builtin; refine wpList_app rfl _ _ 56 rfl 104 _ 7 80 Try.underlying56 infoOn rfl (by decide) (.slice oa q oc) (q) _ rfl (by exact ((OO.out.alloc _).kept HK4.out (fun _ _ h => h)).alloc _) _ rfl 1 _ (on_src _ ⟨(t1, t2, t3), age, olk, ows, of⟩ ⟨la, lc, wa, wc⟩ (by simp)) (by unfold maxLen; omega) (by omega) ?_; intro a' c' w5 ho5 hk5 hf5 _; have f0 := hk5.cell (((Kept.refl (fun _ => False) _).alloc _).cell g0 id) (fun h => HNE.out _ h rfl); have f1 := hk5.cell (((Kept.refl (fun _ => False) _).alloc _).cell g1 id) (fun h => HNE.out _ h rfl); have f2 := hk5.cell (((Kept.refl (fun _ => False) _).alloc _).cell g2 id) (fun h => HNE.out _ h rfl); have f3 := hk5.cell (((Kept.refl (fun _ => False) _).alloc _).cell g3 id) (fun h => HNE.out _ h rfl); have f4 := hk5.cell (((Kept.refl (fun _ => False) _).alloc _).cell g4 id) (fun h => HNE.out _ h rfl); have f5 := hk5.cell (((Kept.refl (fun _ => False) _).alloc _).cell g5 id) (fun h => HNE.out _ h rfl); have f6 := hk5.cell (((Kept.refl (fun _ => False) _).alloc _).cell g6 id) (fun h => HNE.out _ h rfl); have HA5 := hid ho5; have HK5 := hid hk5; have HF5 := hid hf5; clear ho5 hk5 hf5)
              | (at_builtin; refine wpList_app rfl _ _ 56 rfl 104 _ 7 80 Try.underlying56 infoOn rfl (by decide) (.slice a' (q + 1) c') (q + 1) _ rfl (by exact HA5.out.alloc _) _ rfl 1 _ (on_src _ ⟨(y1, y2, y3), xa, xlk, xws, xf⟩ ⟨r1, r2, s1, s2⟩ (by simp)) (by unfold maxLen; omega) (by omega) ?_; intro a2 c2 w6 ho6 hk6 hf6 _; have HA6 := hid ho6; have HK6 := hid hk6; have HF6 := hid hf6; clear ho6 hk6 hf6))
            have hf5 : ∀ b, (Value.slice a' (q + 1) c').ownBlock = some b → w1.heap.size ≤ b := fun b hb => by
              rcases HF5.out b hb with h | h
              · exact OF.out b h
              · have h1 := KR.out.size
                have h4 := HK4.out.size
                simp at h h4
                omega
            have K5 := hid ((((KR.out.alloc _).trans HK4.out).alloc _).trans' HK5.out (fun i hi => .inr (OF.out i hi)))
            have HF9 := hid hf5
            clear hf5
            go_roundw
            case rel =>
              refine ⟨k + 1, q + 1 + 1, _, true, a2, c2, rfl, rfl, by go_num, by omega, by rw [List.length_append, List.length_append, HQ.out]; rfl, LN.out, by rw [dcells_app, dcells_app, HDO.out, HDX.out]; exact HA6.out, fun b hb => ?_, (K5.out.alloc _).trans' HK6.out (fun i hi => .inr (HF9.out i hi))⟩
              rcases HF6.out b hb with h | h
              · exact HF9.out b h
              · have := K5.out.size
                simp at h
                omega
            case measure => (simp only [RowKit.intOf]; omega)
          · have LN := hid (LI.out.past HX.out e hlo)
            replace hcall := hcall false (by simp [hlo])
            clear e hlo
            go_wp2_with (first
              | (go_at_call 56; refine (hcall _).mono ?_; rintro e9 w4 ⟨rfl, hk4⟩; have HK4 := hid hk4; have g0 := hk4.cell z0 id; have g1 := hk4.cell z1 id; have g2 := hk4.cell z2 id; have g3 := hk4.cell z3 id; have g4 := hk4.cell z4 id; have g5 := hk4.cell z5 id; have g6 := hk4.cell z6 id; have q0 := hk4.cell e0 id; have q1 := hk4.cell e1 id; have q2 := hk4.cell e2 id; have q3 := hk4.cell e3 id; have q4 := hk4.cell e4 id; have q5 := hk4.cell e5 id; have q6 := hk4.cell e6 id; clear hk4)
              | (at_builtin; refine wpList_app rfl _ _ 56 rfl 104 _ 7 80 Try.underlying56 infoOn rfl (by decide) (.slice oa q oc) (q) _ rfl (by exact ((OO.out.alloc _).kept HK4.out (fun _ _ h => h)).alloc _) _ rfl 1 _ (on_src _ ⟨(y1, y2, y3), xa, xlk, xws, xf⟩ ⟨r1, r2, s1, s2⟩ (by simp)) (by unfold maxLen; omega) (by omega) ?_; intro a' c' w5 ho5 hk5 hf5 _; have HA5 := hid ho5; have HK5 := hid hk5; have HF5 := hid hf5; clear ho5 hk5 hf5))
            go_roundw
            case rel =>
              refine ⟨k + 1, q + 1, _, false, a', c', rfl, rfl, by go_num, by omega, by rw [List.length_append, HQ.out]; rfl, LN.out, by rw [dcells_app, HDX.out]; exact HA5.out, fun b hb => ?_, (((KR.out.alloc _).trans HK4.out).alloc _).trans' HK5.out (fun i hi => .inr (OF.out i hi))⟩
              rcases HF5.out b hb with h | h
              · exact OF.out b h
              · have h1 := KR.out.size
                have h4 := HK4.out.size
                simp at h h4
                omega
            case measure => (simp only [RowKit.intOf]; omega)
    · obtain rfl : k = n := by omega
      have hdr : dropO (L.drop k) (t1, t2, t3) = [] := by rw [← HN.out, List.drop_length]; rfl
      cases d with
      | true =>
        have HLE := hid (show layO L ⟨(t1, t2, t3), age, olk, ows, of⟩ = out by have := LI.out.e; simp only [hdr] at this; simpa [restO] using this.symm)
        have HOB := hid HR.out.obj
        clear hdr
        go_wp2_with (refine wpList_store_cell rfl _ _ _ rfl (by kernel_rfl) xb 0 (by rfl) _ (by rfl) rfl HOB.out (by simp) ?_; intro w6 hb6 hk6)
        go_returns
        have hl9 := lay_lst HR.out.lst (HOX.out.kept (K1.out.trans KR.out) (fun _ e => e.elim)) HRE.out HRN.out
        refine ⟨rfl, .slice oa q oc, ?_, fun b hb => Nat.le_trans K1.out.size (OF.out b hb), (K1.out.trans KR.out).mono (fun _ _ h => h.elim) |>.trans hk6.out⟩
        refine HR.out.newrow hk6.out hb6.out ?_ hl9 (fun b hb hd => ?_)
        · rw [HLE.out, HQ.out]
          exact OO.out.kept hk6.out (fun b hb => HNE9.out b (OF.out b hb))
        · have h1 := H1.out.new b hd
          have h2 := OF.out b hb
          omega
      | false =>
        have HLE := hid (show layO L ⟨(t1, t2, t3), age, olk, ows, of⟩ = out ++ [⟨(t1, t2, t3), age, olk, ows, of⟩] by have := LI.out.e; simp only [hdr] at this; simpa [restO, insO] using this.symm)
        have HDO := hid (show dcells R' [⟨(t1, t2, t3), age, olk, ows, of⟩] = dcell ⟨(t1, t2, t3), age, olk, ows, of⟩ ⟨la, lc, wa, wc⟩ by rw [dcells_one1]; exact congrArg _ HRE.out)
        clear hdr
        go_wp2_with (first
          | (at_builtin; refine wpList_app rfl _ _ 56 rfl 104 _ 7 80 Try.underlying56 infoOn rfl (by decide) (.slice oa q oc) q _ rfl (by exact OO.out.alloc _) _ rfl 1 _ (on_src _ ⟨(t1, t2, t3), age, olk, ows, of⟩ ⟨la, lc, wa, wc⟩ (by simp)) (by unfold maxLen; omega) (by omega) ?_; intro a' c' w5 ho5 hk5 hf5 _; have K5 := hid ((KR.out.alloc _).trans' hk5 (fun i hi => .inr (OF.out i hi))); have HOB := hid (H1.out.same K5.out).obj; have HA5 := hid ho5; have HF5 := hid hf5; clear ho5 hk5 hf5)
          | (refine wpList_store_cell rfl _ _ _ rfl (by kernel_rfl) xb 0 (by rfl) _ (by rfl) rfl HOB.out (by simp) ?_; intro w6 hb6 hk6))
        go_returns
        have HR5 := hid (H1.out.same K5.out)
        have hf9 : ∀ b, (Value.slice a' (q + 1) c').ownBlock = some b → w1.heap.size ≤ b := fun b hb => by
          rcases HF5.out b hb with h | h
          · exact OF.out b h
          · have h1 := KR.out.size
            simp at h
            omega
        have hl9 := lay_lst HR5.out.lst (HOX.out.kept (K1.out.trans K5.out) (fun _ e => e.elim)) HRE.out HRN.out
        refine ⟨rfl, .slice a' (q + 1) c', ?_, fun b hb => Nat.le_trans K1.out.size (hf9 b hb), (K1.out.trans K5.out).mono (fun _ _ h => h.elim) |>.trans hk6.out⟩
        refine HR5.out.newrow hk6.out hb6.out ?_ hl9 (fun b hb hd => ?_)
        · have h9 := HA5.out
          rw [← HDO.out, ← dcells_app] at h9
          rw [HLE.out, List.length_append, HQ.out]
          exact h9.kept hk6.out (fun b hb => HNE9.out b (hf9 b hb))
        · have h1 := H1.out.new b hd
          have h2 := hf9 b hb
          omega
end
end Go.Proofs.Ytpjhdpfaogdboaa
/- The document: Clash, whatever it says. -/
namespace Go.Proofs.Ytpjhdpfaogdboaa
set_option linter.unusedSimpArgs false
set_option linter.unusedVariables false
open Go.RowKit
def Cl (x y : Wt) : Prop := x.1 = y.1 ∧ (x.2 = 2 ∨ y.2 = 2)
theorem take_all {P : Wt → Prop} {L : List Wt} {k : Nat} {x : Wt} (h : ∀ y ∈ L.take k, P y) (hx : L[k]? = some x) (hp : P x) : ∀ y ∈ L.take (k + 1), P y := by
  intro y hy
  rw [List.take_add_one, hx, List.mem_append] at hy
  rcases hy with hy | hy
  · exact h y hy
  · simp only [Option.toList_some, List.mem_singleton] at hy
    rw [hy]
    exact hp
set_option maxRecDepth 100000 in
set_option maxHeartbeats 2000000 in
theorem clash_any {F G : Nat → Prop} {w : World} {a b : Option Addr} {N M c d : Nat} {A B : List Wt} (ha : Lies F w 2 (.slice a N c) N (wcells A)) (hb : Lies G w 2 (.slice b M d) M (wcells B)) (hN : A.length = N) (hM : B.length = M) :
    Calls Try.prog 21 #[.slice a N c, .slice b M d] w fun e w' => e = .returned (.bool (clash A B)) ∧ Kept (fun _ => False) w w' := by
  obtain ⟨m1, m2⟩ := cap_of ha
  obtain ⟨m3, m4⟩ := cap_of hb
  unfold maxLen at m2 m4
  have HA := hid ha; have HB := hid hb; have HN := hid hN; have HM := hid hM
  clear ha hb hN hM
  go_enter Try.func21, Try.ntmps21
  go_wp2_with fail
  go_loopw [11] (fun i wr => ∃ k : Nat, k ≤ N ∧ i = .int .i64 k ∧ (∀ x ∈ A.take k, ∀ y ∈ B, ¬ Cl x y) ∧ Kept (fun _ => False) w wr) (fun i _ => N - (RowKit.intOf i).toNat)
  case atStart => exact ⟨0, Nat.zero_le _, rfl, fun x hx => by simp at hx, Kept.refl _ _⟩
  case round =>
    rename World => wr
    obtain ⟨k, hk, rfl, hno, hkp⟩ := hrel
    have K := hid hkp
    have NO := hid hno
    clear hkp hno
    by_cases hlt : k < N
    · have hkI : (k : Int) < (N : Int) := by omega
      obtain ⟨⟨x0, x1⟩, hx⟩ : ∃ x, A[k]? = some x := ⟨_, List.getElem?_eq_getElem (by rw [HN.out]; exact hlt)⟩
      obtain ⟨g1, o1, rfl, q0, q1⟩ := w_cells HA.out K.out hx
      simp only at q0 q1
      have HX := hid hx
      obtain ⟨xb, hxb⟩ : ∃ xb, wr.heap.size = xb := ⟨_, rfl⟩
      obtain ⟨w2, hw2⟩ : ∃ w2, wr.alloc (.cells #[.int .u32 x0, .int .u8 x1] 36) = w2 := ⟨_, rfl⟩
      have k2 : Kept (fun _ => False) wr w2 := by rw [← hw2]; exact (Kept.refl _ _).alloc _
      obtain ⟨y0, y1⟩ := want_new wr x0 x1
      rw [hw2, hxb] at y0 y1
      have Y0 := hid y0; have Y1 := hid y1
      have K2 := hid (K.out.trans k2)
      clear hx k2 y0 y1
      go_wp2_with fail
      try rw [hw2]
      try rw [hxb]
      clear hw2 hxb q0 q1
      go_loopw [17] (fun i wv => ∃ j : Nat, j ≤ M ∧ i = .int .i64 j ∧ (∀ y ∈ B.take j, ¬ Cl (x0, x1) y) ∧ Kept (fun _ => False) w2 wv) (fun i _ => M - (RowKit.intOf i).toNat)
      case atStart => exact ⟨0, Nat.zero_le _, rfl, fun x hx => by simp at hx, Kept.refl _ _⟩
      case round =>
        rename World => wv
        obtain ⟨j, hj, rfl, hnj, hkv⟩ := hrel
        have KV := hid hkv
        have NJ := hid hnj
        clear hkv hnj
        by_cases hjt : j < M
        · have hjI : (j : Int) < (M : Int) := by omega
          obtain ⟨⟨z0, z1⟩, hz⟩ : ∃ x, B[j]? = some x := ⟨_, List.getElem?_eq_getElem (by rw [HM.out]; exact hjt)⟩
          obtain ⟨g2, o2, rfl, q0, q1⟩ := w_cells HB.out (K2.out.trans KV.out) hz
          simp only at q0 q1
          have HZ := hid hz
          have k3 : Kept (fun _ => False) wv (wv.alloc (.cells #[.int .u32 z0, .int .u8 z1] 36)) := (Kept.refl _ _).alloc _
          have y0 := k3.cell (KV.out.cell Y0.out id) id
          have y1 := k3.cell (KV.out.cell Y1.out id) id
          obtain ⟨e0, e1⟩ := want_new wv z0 z1
          have K3 := hid (KV.out.trans k3)
          clear hz k3
          by_cases hn : Cl (x0, x1) (z0, z1)
          · have HR := hid (show clash A B = true from clash_iff.2 ⟨_, List.mem_of_getElem? HX.out, _, List.mem_of_getElem? HZ.out, hn⟩)
            have K4 := hid (K2.out.trans K3.out)
            have h00 : (x0 == z0) = true := by simpa using hn.1
            by_cases h1 : x1 = 2
            · have h11 : (x1 == 2) = true := by simp [h1]
              clear hn h1
              go_wp2
              go_ret
              exact ⟨by rw [HR.out]; rfl, K4.out⟩
            · have h2 : (z1 == 2) = true := by rcases hn.2 with h | h; exact absurd h h1; simpa using h
              have h11 : (x1 == 2) = false := by simpa using h1
              clear hn h1
              go_wp2
              go_ret
              exact ⟨by rw [HR.out]; rfl, K4.out⟩
          · have NN := hid (take_all NJ.out HZ.out hn)
            by_cases h0 : x0 = z0
            · have h1 : (x1 == 2) = false := by rw [beq_eq_false_iff_ne]; exact fun h => hn ⟨h0, .inl h⟩
              have h2 : (z1 == 2) = false := by rw [beq_eq_false_iff_ne]; exact fun h => hn ⟨h0, .inr h⟩
              have h00 : (x0 == z0) = true := by simp [h0]
              clear hn h0
              go_wp2
              go_roundw
              case rel => exact ⟨j + 1, by omega, by go_num, NN.out, K3.out⟩
              case measure => (simp only [RowKit.intOf]; omega)
            · have h00 : (x0 == z0) = false := by simpa using h0
              clear hn h0
              go_wp2
              go_roundw
              case rel => exact ⟨j + 1, by omega, by go_num, NN.out, K3.out⟩
              case measure => (simp only [RowKit.intOf]; omega)
        · obtain rfl : j = M := by omega
          have KN := hid (K2.out.trans KV.out)
          have hall : ∀ y ∈ B, ¬ Cl (x0, x1) y := by
            have := NJ.out
            rwa [← HM.out, List.take_length] at this
          have NN := hid (take_all (P := fun x => ∀ y ∈ B, ¬ Cl x y) NO.out HX.out hall)
          clear hall
          go_wp2
          go_roundw
          case rel => exact ⟨k + 1, by omega, by go_num, NN.out, KN.out⟩
          case measure => (simp only [RowKit.intOf]; omega)
    · obtain rfl : k = N := by omega
      have hcl : clash A B = false := by
        cases h : clash A B with
        | false => rfl
        | true =>
          obtain ⟨x, hx, y, hy, hc⟩ := clash_iff.1 h
          have := NO.out
          rw [← HN.out, List.take_length] at this
          exact absurd hc (this x hx y hy)
      have HC := hid hcl
      clear hcl
      go_wp2
      go_ret
      exact ⟨by rw [HC.out]; rfl, K.out⟩
end Go.Proofs.Ytpjhdpfaogdboaa
/- A row of cells written one by one. -/
namespace Go.Proofs.Ytpjhdpfaogdboaa
set_option linter.unusedSimpArgs false
set_option linter.unusedVariables false
open Go.RowKit

def putRow (b : Nat) : World → Nat → List Value → World
  | w, _, [] => w
  | w, i, v :: l => putRow b (w.setCell ⟨b, i, none⟩ v) (i + 1) l
theorem putRow_block {b : Nat} {T : TypeId} : ∀ (l : List Value) (w : World) (i : Nat) (cs : Array Value), w.heap[b]? = some (.cells cs T (0, 0)) → ∃ cs', (putRow b w i l).heap[b]? = some (.cells cs' T (0, 0)) ∧ cs'.size = cs.size ∧
    (∀ j, j < i → cs'[j]? = cs[j]?) ∧ ∀ j, i ≤ j → j < cs.size → cs'[j]? = if j < i + l.length then l[j - i]? else cs[j]?
  | [], w, i, cs, h => ⟨cs, h, rfl, fun _ _ => rfl, fun j h1 _ => by rw [if_neg]; simp; omega⟩
  | v :: l, w, i, cs, h => by
    obtain ⟨cs', h1, h2, h3, h4⟩ := putRow_block l _ (i + 1) _ (row_set h i v)
    refine ⟨cs', h1, by simpa using h2, fun j hj => ?_, fun j hj hs => ?_⟩
    · rw [h3 j (by omega), Array.getElem?_setIfInBounds_ne (by omega)]
    · by_cases e : j = i
      · subst e
        rw [h3 j (by omega), if_pos (by simp)]
        simp [hs]
      · rw [h4 j (by omega) (by simpa using hs)]
        by_cases hl : j < i + 1 + l.length
        · rw [if_pos hl, if_pos (by simp; omega)]
          have : j - i = (j - (i + 1)) + 1 := by omega
          rw [this, List.getElem?_cons_succ]
        · rw [if_neg hl, if_neg (by simp; omega), Array.getElem?_setIfInBounds_ne (by omega)]
/-- the whole row -/
theorem putRow_all {b : Nat} {T : TypeId} {w : World} {cs : Array Value} (l : List Value) (h : w.heap[b]? = some (.cells cs T (0, 0))) (hl : l.length = cs.size) : (putRow b w 0 l).heap[b]? = some (.cells l.toArray T (0, 0)) := by
  obtain ⟨cs', h1, h2, _, h4⟩ := putRow_block l w 0 cs h
  rw [h1]
  congr 2
  apply Array.ext_getElem?
  intro j
  by_cases hj : j < cs.size
  · rw [h4 j (Nat.zero_le _) hj, if_pos (by omega)]
    simp
  · rw [Array.getElem?_eq_none (by omega), Array.getElem?_eq_none (by simp; omega)]
theorem putRow_kept {b : Nat} {F : Nat → Prop} {a : World} (hb : F b ∨ a.heap.size ≤ b) : ∀ (l : List Value) (w : World) (i : Nat), Kept F a w → Kept F a (putRow b w i l)
  | [], _, _, h => h
  | v :: l, _, i, h => putRow_kept hb l _ (i + 1) (h.setCell (p := ⟨b, i, none⟩) hb v)
/-- behind the first j + 1 of them the j-th stands there -/
theorem putRow_got {b : Nat} {T : TypeId} {w : World} {cs : Array Value} (h : w.heap[b]? = some (.cells cs T (0, 0))) (l : List Value) (hl : l.length ≤ cs.size) (j : Nat) (v : Value) (hj : l[j]? = some v) :
    (putRow b w 0 (l.take (j + 1))).cell? ⟨b, j, none⟩ = some v := by
  obtain ⟨cs', h1, h2, _, h4⟩ := putRow_block (l.take (j + 1)) w 0 cs h
  have hlt := (List.getElem?_eq_some_iff.1 hj).1
  rw [row_cell h1, h4 j (Nat.zero_le _) (by omega), if_pos (by simp; omega), Nat.sub_zero, List.getElem?_take, if_pos (by omega), hj]
end Go.Proofs.Ytpjhdpfaogdboaa
