/- The document's Move. -/
import Derived.Test.YtekapdankpamiaaM
namespace Go.Proofs.Ytekapdankpamiaa
open Go.RowKit
theorem field2 (w : World) (x o p : Int) : (Instr.field 33 (.agg #[.int .u32 x, .int .u8 o, .int .u32 p]) 2).run Try.prog w = .ok (.int .u32 p) w := by
  kernel_rfl
theorem ent_src (w : World) (x o p : Int) {b : Nat} (hb : w.heap.size = b) : Src (w.alloc (.cells #[.int .u32 x, .int .u8 o, .int .u32 p] 33)) 3 (.slice (some ⟨b, 0, none⟩) 1 1) 1 [.int .u32 x, .int .u8 o, .int .u32 p] := by
  subst hb
  exact src_row rfl (fun j u hu => by rw [row_cell (row_new w _)]; simpa using hu) (by simp [Value.oneCell'])
theorem outK_len (v : Int) (l : List Int) : (outK v l).length ≤ l.length + 1 := by
  unfold outK
  rw [List.length_append]
  have h : (l.filter (fun x => decide (x < v))).length + (l.filter (fun x => decide (v < x))).length ≤ l.length := by
    induction l with
    | nil => simp
    | cons y l ih =>
      by_cases h1 : y < v
      · have h2 : ¬ v < y := by omega
        simp [List.filter_cons, h1, h2]; omega
      · by_cases h2 : v < y
        · simp [List.filter_cons, h1, h2]; omega
        · simp [List.filter_cons, h1, h2]; omega
  split <;> simp <;> omega
theorem outK_take {v x : Int} {D : List Int} {k : Nat} (hx : D[k]? = some x) : D.take (k + 1) = D.take k ++ [x] := by rw [List.take_add_one, hx]; rfl
theorem up_take {D : List Int} (h : D.Pairwise (· < ·)) {k : Nat} {x v : Int} (hx : D[k]? = some x) (hv : x ≤ v) : (D.take k).any (fun y => decide (v < y)) = false := by
  have hk := (List.getElem?_eq_some_iff.1 hx)
  obtain ⟨hk, he⟩ := hk
  have e : D = D.take k ++ x :: D.drop (k + 1) := by
    conv => lhs; rw [← List.take_append_drop k D, List.drop_eq_getElem_cons hk, he]
  rw [e] at h
  exact up_any h hv
set_option maxRecDepth 100000 in
set_option maxHeartbeats 2000000 in
theorem docmove_any {w : World} {yb : Nat} {n : Int} {g : Int → Option (Int × Int)} (h : RD w yb n g) (hd : Dom g) (hn : 0 < n ∧ n ≤ 4) (v k ep : Int) (hv : 0 ≤ v ∧ v ≤ 4294967295) (hk : 0 ≤ k ∧ k ≤ 255) :
    Calls Try.prog 18 #[.pointer (some ⟨yb, 0, none⟩), .int .u32 v, .int .u8 k, .int .u32 ep] w fun e w' => e = .returned (.int .i64 (mv n g v k ep).1) ∧ RD w' yb n (mv n g v k ep).2 ∧ Kept (fun i => i = yb) w w' := by
  have HR := hid h
  by_cases ht : thr n v k = 0
  · have hnum : num v = true := by
      unfold thr at ht; split at ht
      · rename_i hh; exact hh.1
      · cases ht
    obtain ⟨o, e0, ho⟩ : ∃ o e, own n g v = (o, e) := ⟨_, _, rfl⟩
    by_cases hle : ep ≤ e0
    · have HX := hid (show mv n g v k ep = (15, g) by simp [mv, ht, ho, hle])
      have HT := hid ht; have HO := hid ho
      clear ht ho h hnum
      go_enter Try.func18, Try.ntmps18
      go_wp2_with fail
      refine (rthere_any HR.out v k hv hn hk).mono ?_; rintro e w' ⟨rfl, rfl⟩
      rw [HT.out]
      go_wp2_with fail
      refine (rowner_any HR.out hd hn v hv).mono ?_
      rintro e w2 ⟨rfl, hk2⟩
      rw [HO.out]
      have K := hid hk2
      have hfl := field2 w2 v o e0
      clear hk2
      go_wp2
      go_ret
      rw [HX.out]
      exact ⟨rfl, HR.out.same K.out, K.out.mono (fun _ _ h => h.elim)⟩
    · have hde : decide (ep ≤ e0) = false := by simpa using hle
      have HX := hid (show mv n g v k ep = (0, upd g v (k, ep)) by simp [mv, ht, ho, hle]; rfl)
      have HG := hid (doms_upd hd hnum (k, ep))
      have HT := hid ht; have HO := hid ho
      obtain ⟨vs, hy, hown⟩ := h
      obtain ⟨a, c, rfl⟩ := hown.isSlice
      have hl := hown.lies (ecells_one g (doms g)) (F := fun _ => False) (fun _ _ => id)
      have hup := doms_up g
      have hdl := doms_len g
      obtain ⟨D, hD⟩ : ∃ D, doms g = D := ⟨_, rfl⟩
      rw [hD] at hl hdl hup hy HG
      obtain ⟨N, hN⟩ : ∃ N, D.length = N := ⟨_, rfl⟩
      rw [hN] at hl hy hdl
      have HN := hid hN; have HL := hid hl; have HY := hid hy; have HUP := hid hup
      have hylt := row_lt hy
      clear ht ho hnum hl hy hD hN hown hup
      go_enter Try.func18, Try.ntmps18
      go_wp2_with fail
      refine (rthere_any HR.out v k hv hn hk).mono ?_; rintro e w' ⟨rfl, rfl⟩
      rw [HT.out]
      go_wp2_with fail
      refine (rowner_any HR.out hd hn v hv).mono ?_
      rintro e w2 ⟨rfl, hk2⟩
      rw [HO.out]
      have K := hid hk2
      have hfl := field2 w2 v o e0
      have c1 : w2.cell? ⟨yb, 1, none⟩ = some (.slice a N c) := by rw [hk2.cell (row_cell HY.out 1) id]; rfl
      clear hk2
      go_wp2_with fail
      clear c1
      obtain ⟨G, hG⟩ : ∃ G, upd g v (k, ep) = G := ⟨_, rfl⟩
      rw [hG] at HX HG
      have HEV := hid (show ecell G v = [.int .u32 v, .int .u8 k, .int .u32 ep] from by rw [← hG]; simp [ecell, upd])
      have HEX := hid (fun (x : Int) (hx : x ≠ v) => show ecell G x = ecell g x from by rw [← hG]; exact ecell_upd hx)
      clear hG
      go_loopw [10, 11, 32] (fun o dn i wr => ∃ (j q : Nat) (a' : Option Addr) (c' : Nat), j ≤ N ∧ i = .int .i64 j ∧ dn = .bool ((D.take j).any (fun y => decide (v < y))) ∧ o = .slice a' q c' ∧ (outK v (D.take j)).length = q ∧ Own wr 33 3 (.slice a' q c') q (ecells G (outK v (D.take j))) ∧ (∀ b, (Value.slice a' q c').ownBlock = some b → w2.heap.size ≤ b) ∧ Kept (fun _ => False) w2 wr) (fun _ _ i _ => N - (RowKit.intOf i).toNat)
      case atStart => exact ⟨0, 0, none, 0, Nat.zero_le _, rfl, rfl, rfl, rfl, Own.nil _ _ _, fun b hb => by simp [Value.ownBlock] at hb, Kept.refl _ _⟩
      case round =>
        rename World => wA
        obtain ⟨j, q, a', c', hj, rfl, rfl, rfl, hq, hown, hf, hkp⟩ := hrel
        have HA := hid hown; have HAF := hid hf; have KA := hid hkp; have HQ := hid hq
        have hq41 : q ≤ N + 1 := by
          have := outK_len v (D.take j)
          rw [hq, List.length_take, HN.out] at this
          omega
        clear hown hf hkp hq
        by_cases hlt : j < N
        · have hltI : (j : Int) < (N : Int) := by omega
          obtain ⟨x, hx⟩ : ∃ x, D[j]? = some x := ⟨_, List.getElem?_eq_getElem (by rw [HN.out]; exact hlt)⟩
          obtain ⟨x0, x1, x2⟩ := ent_cells (g := g) D j x hx
          obtain ⟨ox, ex, hop⟩ : ∃ o ep, (g x).getD (0, 0) = (o, ep) := ⟨_, _, rfl⟩
          rw [hop] at x1 x2
          obtain ⟨g1, o1, q1, e1, m1, m2, _, _, z1⟩ := ((HL.out.same K.out).same KA.out).cell (by omega)
          simp only [Value.slice.injEq] at e1
          obtain ⟨rfl, _, rfl⟩ := e1
          have a0 := z1 _ _ x0
          have a1 := z1 _ _ x1
          have a2 := z1 _ _ x2
          rw [← Nat.add_assoc] at a1 a2
          unfold maxLen at m2
          simp only at a1 a2
          have HTK := hid (outK_take (v := v) hx)
          have HEg := hid (show x ≠ v → ecell G x = [.int .u32 x, .int .u8 ox, .int .u32 ex] from fun h => by rw [HEX.out x h]; simp [ecell, hop])
          have HXX := hid hx
          clear x0 x1 x2 hx z1 hop
          rcases Int.lt_trichotomy x v with hxv | hxv | hxv
          · have h0 := up_take HUP.out HXX.out (Int.le_of_lt hxv)
            have hd1 : decide (v < x) = false := by simp; omega
            have hd2 : (x != v) = true := by simp; omega
            go_wp2_with (at_builtin; refine wpList_app rfl _ _ 41 rfl 33 _ 3 12 Try.underlying41 infoEnt rfl (by decide) _ q (ecells G (outK v (D.take j))) rfl ((by exact (HA.out.alloc _).alloc _)) _ rfl 1 _ (ent_src _ x ox ex (by simp)) (by unfold maxLen; omega) (by omega) ?_; intro a3 c3 w3 ho3 hk3 hf3 _; have HA3 := hid ho3; have HK3 := hid hk3; have HF3 := hid hf3; clear ho3 hk3 hf3)
            go_roundw
            case rel =>
              refine ⟨j + 1, q + 1, a3, c3, by omega, by go_num, by rw [HTK.out, List.any_append]; simp [h0, hd1], rfl, ?_, ?_, ?_, ?_⟩
              · rw [HTK.out, outK_lt hxv h0]; rw [List.length_append, HQ.out]; rfl
              · rw [HTK.out, outK_lt hxv h0]; rw [ecells_app, ecells_single, HEg.out (by omega)]; exact HA3.out
              · exact fun b hb => by
                  rcases HF3.out b hb with h | h
                  · exact HAF.out b h
                  · simp at h; have := KA.out.size; omega
              · exact ((KA.out.alloc _).alloc _).trans' HK3.out (fun i hi => .inr (HAF.out i hi))
            case measure => (simp only [RowKit.intOf]; omega)
          · have h0 := up_take HUP.out HXX.out (Int.le_of_eq hxv)
            have hd1 : decide (v < x) = false := by simp; omega
            have hd2 : (x != v) = false := by simp; omega
            have HXV := hid hxv
            clear hxv
            go_wp2_with fail
            go_roundw
            case rel =>
              have e := HXV.out
              refine ⟨j + 1, q, a', c', by omega, by go_num, by rw [HTK.out, List.any_append]; simp [h0, hd1], rfl, ?_, ?_, HAF.out, KA.out.alloc _⟩
              · rw [HTK.out, e, outK_eq]; exact HQ.out
              · rw [HTK.out, e, outK_eq]; exact HA.out.alloc _
            case measure => (simp only [RowKit.intOf]; omega)
          · have hd1 : decide (v < x) = true := by simp; omega
            have hd2 : (x != v) = true := by simp; omega
            have HGT := hid (outK_gt (l := D.take j) hxv)
            obtain ⟨bd, hbd⟩ : ∃ b, (D.take j).any (fun y => decide (v < y)) = b := ⟨_, rfl⟩
            rw [hbd] at HGT
            cases bd with
            | true =>
              go_wp2_with (at_builtin; refine wpList_app rfl _ _ 41 rfl 33 _ 3 12 Try.underlying41 infoEnt rfl (by decide) _ q (ecells G (outK v (D.take j))) rfl ((by exact (HA.out.alloc _).alloc _)) _ rfl 1 _ (ent_src _ x ox ex (by simp)) (by unfold maxLen; omega) (by omega) ?_; intro a3 c3 w3 ho3 hk3 hf3 _; have HA3 := hid ho3; have HK3 := hid hk3; have HF3 := hid hf3; clear ho3 hk3 hf3)
              go_roundw
              case rel =>
                refine ⟨j + 1, q + 1, a3, c3, by omega, by go_num, by rw [HTK.out, List.any_append]; simp [hbd], rfl, ?_, ?_, ?_, ?_⟩
                · rw [HTK.out, HGT.out, if_pos rfl]; rw [List.length_append, HQ.out]; rfl
                · rw [HTK.out, HGT.out, if_pos rfl]; rw [ecells_app, ecells_single, HEg.out (by omega)]; exact HA3.out
                · exact fun b hb => by
                    rcases HF3.out b hb with h | h
                    · exact HAF.out b h
                    · simp at h; have := KA.out.size; omega
                · exact ((KA.out.alloc _).alloc _).trans' HK3.out (fun i hi => .inr (HAF.out i hi))
              case measure => (simp only [RowKit.intOf]; omega)
            | false =>
              have hub : ∀ b, (Value.slice a' q c').ownBlock = some b → b < wA.heap.size := fun b hb => HA.out.lt hb
              have HUB := hid hub
              clear hub
              go_wp2_with (first
                | (at_builtin; refine wpList_app rfl _ _ 41 rfl 33 _ 3 12 Try.underlying41 infoEnt rfl (by decide) _ q (ecells G (outK v (D.take j))) rfl ((by exact (HA.out.alloc _).alloc _)) _ rfl 1 _ (ent_src _ v k ep (by simp)) (by unfold maxLen; omega) (by omega) ?_; intro a3 c3 w3 ho3 hk3 hf3 _; have HA3 := hid ho3; have HK3 := hid hk3; have HF3 := hid hf3; have HX3 := hid ((hk3.block wA.heap.size (by simp; omega) (fun h => absurd (HUB.out _ h) (Nat.lt_irrefl _))).trans (two_new wA _ _).1); have b0 := (three_cells HX3.out).1; have b1 := (three_cells HX3.out).2.1; have b2 := (three_cells HX3.out).2.2; clear ho3 hk3 hf3)
                | (at_builtin; refine wpList_app rfl _ _ 41 rfl 33 _ 3 12 Try.underlying41 infoEnt rfl (by decide) _ (q + 1) (ecells G (outK v (D.take j)) ++ [.int .u32 v, .int .u8 k, .int .u32 ep]) rfl ((by exact HA3.out.alloc _)) _ rfl 1 _ (ent_src _ x ox ex (by simp)) (by unfold maxLen; omega) (by omega) ?_; intro a4 c4 w4 ho4 hk4 hf4 _; have HA4 := hid ho4; have HK4 := hid hk4; have HF4 := hid hf4; clear ho4 hk4 hf4))
              have hA3F : ∀ b, (Value.slice a3 (q + 1) c3).ownBlock = some b → w2.heap.size ≤ b := fun b hb => by
                rcases HF3.out b hb with h | h
                · exact HAF.out b h
                · simp at h; have := KA.out.size; omega
              have K3 : Kept (fun _ => False) w2 w3 := ((KA.out.alloc _).alloc _).trans' HK3.out (fun i hi => .inr (HAF.out i hi))
              have HX3' := hid hA3F; have K3' := hid K3
              clear hA3F K3
              go_roundw
              case rel =>
                refine ⟨j + 1, q + 1 + 1, a4, c4, by omega, by go_num, by rw [HTK.out, List.any_append]; simp [hd1], rfl, ?_, ?_, ?_, ?_⟩
                · rw [HTK.out, HGT.out, if_neg (by decide), List.length_append, HQ.out]; rfl
                · rw [HTK.out, HGT.out, if_neg (by decide), ecells_app, show ecells G [v, x] = ecell G v ++ ecell G x from by simp [ecells], HEV.out, HEg.out (by omega), ← List.append_assoc]; exact HA4.out
                · exact fun b hb => by
                    rcases HF4.out b hb with h | h
                    · exact HX3'.out b h
                    · simp at h; have := K3'.out.size; omega
                · exact (K3'.out.alloc _).trans' HK4.out (fun i hi => .inr (HX3'.out i hi))
              case measure => (simp only [RowKit.intOf]; omega)
        · obtain rfl : j = N := by omega
          have htk : D.take j = D := by rw [← HN.out, List.take_length]
          have HTK := hid htk
          rw [htk] at HA HQ ⊢
          have HW := hid (K.out.trans KA.out)
          have hyA := (HW.out.block yb hylt id).trans HY.out
          have HIN := hid (outK_all (v := v) (l := D))
          have HNB : ∀ b, (Value.slice a' q c').ownBlock = some b → b ≠ yb := fun b hb => by have := HAF.out b hb; have := K.out.size; omega
          have HNE := hid HNB
          have HYA := hid hyA
          clear htk HNB
          obtain ⟨bd, hbd⟩ : ∃ b, D.any (fun y => decide (v < y)) = b := ⟨_, rfl⟩
          rw [hbd] at HIN ⊢
          have c1 := row_cell hyA 1
          have f1 := row_free hyA 1
          simp only [List.getElem?_toArray, List.getElem?_cons_zero, List.getElem?_cons_succ] at c1
          clear hyA hbd
          cases bd with
          | true =>
            go_wp2
            go_ret
            have hks : Kept (fun i => i = yb) wA (wA.setCell ⟨yb, 1, none⟩ (.slice a' q c')) := (Kept.refl (fun i => i = yb) wA).setCell (p := ⟨yb, 1, none⟩) (.inl rfl) _
            rw [HX.out]
            refine ⟨rfl, ⟨.slice a' q c', row_set HYA.out 1 _, ?_⟩, (HW.out.mono (fun _ _ h => h.elim)).trans hks⟩
            have hdg : doms G = outK v D := by rw [HG.out, HIN.out]; simp
            show Own _ _ _ _ (doms G).length (ecells G (doms G))
            rw [hdg, HQ.out]
            exact HA.out.kept hks (fun b hb => HNE.out b hb)
          | false =>
            have hwz : yb < wA.heap.size := row_lt HYA.out
            go_wp2_with (at_builtin; refine wpList_app rfl _ _ 41 rfl 33 _ 3 12 Try.underlying41 infoEnt rfl (by decide) _ q (ecells G (outK v D)) rfl ((by exact HA.out.alloc _)) _ rfl 1 _ (ent_src _ v k ep (by simp)) (by unfold maxLen; omega) (by omega) ?_; intro a3 c3 w3 ho3 hk3 hf3 _; have HA3 := hid ho3; have HK3 := hid hk3; have HF3 := hid hf3; have HX3 := hid ((hk3.block yb (by simp; omega) (fun h => HNE.out _ h rfl)).trans ((Kept.refl (fun _ => False) wA).alloc _ |>.block yb hwz id |>.trans HYA.out)); have c3' := row_cell HX3.out 1; have f3' := row_free HX3.out 1; simp only [List.getElem?_toArray, List.getElem?_cons_zero, List.getElem?_cons_succ] at c3'; clear ho3 hk3 hf3)
            go_ret
            have hks : Kept (fun i => i = yb) w3 (w3.setCell ⟨yb, 1, none⟩ (.slice a3 (q + 1) c3)) := (Kept.refl (fun i => i = yb) w3).setCell (p := ⟨yb, 1, none⟩) (.inl rfl) _
            have hw3 : Kept (fun i => i = yb) w w3 := ((HW.out.alloc _).trans' HK3.out (fun i hi => .inr (by have := HAF.out i hi; have := K.out.size; omega))).mono (fun _ _ h => h.elim)
            rw [HX.out]
            refine ⟨rfl, ⟨.slice a3 (q + 1) c3, row_set HX3.out 1 _, ?_⟩, hw3.trans hks⟩
            have hdg : doms G = outK v D ++ [v] := by rw [HG.out, HIN.out]; simp
            show Own _ _ _ _ (doms G).length (ecells G (doms G))
            rw [hdg, List.length_append, HQ.out, ecells_app, ecells_single, HEV.out]
            exact HA3.out.kept hks (fun b hb => by
              rcases HF3.out b hb with h | h
              · exact HNE.out b h
              · simp at h; omega)
  · have ht' : (thr n v k != 0) = true := by simpa using ht
    have HX := hid (show mv n g v k ep = (thr n v k, g) by unfold mv; rw [if_pos ht])
    clear ht h
    go_enter Try.func18, Try.ntmps18
    go_wp2_with fail
    refine (rthere_any HR.out v k hv hn hk).mono ?_; rintro e w' ⟨rfl, rfl⟩
    go_wp2
    go_ret
    rw [HX.out]
    exact ⟨rfl, HR.out, Kept.refl _ _⟩
end Go.Proofs.Ytekapdankpamiaa
