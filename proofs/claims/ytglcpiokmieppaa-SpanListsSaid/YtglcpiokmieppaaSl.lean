/- The walk of SpanLists. -/
import Derived.Test.YtglcpiokmieppaaSa
namespace Go.Proofs.Ytglcpiokmieppaa
open Go.RowKit

/-- a set with the document's beside it -/
structure One (N : Nat → Prop) (w : World) (sb rb : Nat) (L : List Sp) : Prop where
  s : SetN N w sb (addAll [] L)
  r : RefN N w rb (yes L)
  ok : okL L = true
  b : ∀ x ∈ L, B32 x
  n : L.length ≤ 25
theorem One.kept {N : Nat → Prop} {w w' : World} {sb rb : Nat} {L : List Sp} (h : One N w sb rb L) (k : Kept (fun g => ¬ N g) w w') : One N w' sb rb L := ⟨h.s.kept k, h.r.kept k, h.ok, h.b, h.n⟩
theorem One.same {N : Nat → Prop} {w w' : World} {sb rb : Nat} {L : List Sp} (h : One N w sb rb L) (k : Kept (fun _ => False) w w') : One N w' sb rb L := h.kept (k.mono (fun _ _ h => h.elim))
theorem One.g {N : Nat → Prop} {w : World} {sb rb : Nat} {L : List Sp} (h : One N w sb rb L) : Good (addAll [] L) := (addAll_law L [] Good.nil h.b).1
theorem meetNN {w : World} {sa sb : Nat} {N M : Nat → Prop} {S T : List Sp} (h : SetN N w sa S) (k : SetN M w sb T) :
    Calls Try.prog 23 #[.pointer (some ⟨sa, 0, none⟩), .pointer (some ⟨sb, 0, none⟩)] w fun e w' => e = .returned (.tuple #[.pointer (some ⟨w.heap.size, 0, none⟩), .int .i64 0]) ∧ S1 w.heap.size w' w.heap.size (meet S T) ∧ Kept (fun _ => False) w w' := by
  obtain ⟨F, h, _⟩ := h
  obtain ⟨G, k, _⟩ := k
  refine (meet_any h k).mono ?_
  rintro e w' ⟨h1, h2, h3⟩
  exact ⟨h1, ⟨_, h2.lt, fun g hg => hg⟩, h3⟩
theorem okL_false_get (L : List Sp) : okL L = false → ∃ x ∈ L, x.2 < x.1 := by
  intro h
  apply Classical.byContradiction
  intro hn
  have : okL L = true := (okL_iff L).2 (fun x hx => by
    apply Classical.byContradiction
    intro h2
    exact hn ⟨x, hx, by omega⟩)
  rw [h] at this
  cases this
theorem RefAt.rs {F : Nat → Prop} {w : World} {rb : Nat} {D : List Dd} (h : RefAt F w rb D) (hb : Bd D) (hl : D.length ≤ 1000000) : RsAt w [(rb, D)] := fun r hr => by
  simp at hr; subst hr
  exact ⟨⟨F, h⟩, hb, hl⟩
theorem two_stores0 {w : World} {pb : Nat} {p0 p1 q0 q1 : Value} {T1 T2 : TypeId} {O : Obj} (hp : w.heap[pb]? = some (.cells #[p0, p1] T1 (0, 0))) (hq : w.heap[pb + 1]? = some (.cells #[q0, q1] T2 (0, 0))) (hr : w.heap[pb + 1 + 1]? = some O) (u v : Value) :
    ((w.setCell ⟨pb, 0, none⟩ u).setCell ⟨pb + 1, 0, none⟩ v).heap[pb]? = some (.cells #[u, p1] T1 (0, 0)) ∧ ((w.setCell ⟨pb, 0, none⟩ u).setCell ⟨pb + 1, 0, none⟩ v).heap[pb + 1]? = some (.cells #[v, q1] T2 (0, 0)) ∧ ((w.setCell ⟨pb, 0, none⟩ u).setCell ⟨pb + 1, 0, none⟩ v).heap[pb + 1 + 1]? = some O := by
  have h1 : (w.setCell ⟨pb, 0, none⟩ u).heap[pb]? = some (.cells #[u, p1] T1 (0, 0)) := set20 hp u
  have k1 : Kept (fun k => k = pb) w (w.setCell ⟨pb, 0, none⟩ u) := (Kept.refl (fun k => k = pb) w).setCell (.inl rfl) u
  have k2 : Kept (fun k => k = pb + 1) (w.setCell ⟨pb, 0, none⟩ u) ((w.setCell ⟨pb, 0, none⟩ u).setCell ⟨pb + 1, 0, none⟩ v) := (Kept.refl (fun k => k = pb + 1) _).setCell (.inl rfl) v
  have h2 : (w.setCell ⟨pb, 0, none⟩ u).heap[pb + 1]? = some (.cells #[q0, q1] T2 (0, 0)) := (k1.block (pb + 1) (row_lt hq) (by omega)).trans hq
  have h3 : (w.setCell ⟨pb, 0, none⟩ u).heap[pb + 1 + 1]? = some O := (k1.block (pb + 1 + 1) (row_lt hr) (by omega)).trans hr
  exact ⟨(k2.block pb (row_lt h1) (by omega)).trans h1, set20 h2 v, (k2.block (pb + 1 + 1) (row_lt h3) (by omega)).trans h3⟩
theorem two_stores1 {w : World} {pb : Nat} {p0 p1 q0 q1 : Value} {T1 T2 : TypeId} {O : Obj} (hp : w.heap[pb]? = some (.cells #[p0, p1] T1 (0, 0))) (hq : w.heap[pb + 1]? = some (.cells #[q0, q1] T2 (0, 0))) (hr : w.heap[pb + 1 + 1]? = some O) (u v : Value) :
    ((w.setCell ⟨pb, 1, none⟩ u).setCell ⟨pb + 1, 1, none⟩ v).heap[pb]? = some (.cells #[p0, u] T1 (0, 0)) ∧ ((w.setCell ⟨pb, 1, none⟩ u).setCell ⟨pb + 1, 1, none⟩ v).heap[pb + 1]? = some (.cells #[q0, v] T2 (0, 0)) ∧ ((w.setCell ⟨pb, 1, none⟩ u).setCell ⟨pb + 1, 1, none⟩ v).heap[pb + 1 + 1]? = some O := by
  have h1 : (w.setCell ⟨pb, 1, none⟩ u).heap[pb]? = some (.cells #[p0, u] T1 (0, 0)) := set21 hp u
  have k1 : Kept (fun k => k = pb) w (w.setCell ⟨pb, 1, none⟩ u) := (Kept.refl (fun k => k = pb) w).setCell (.inl rfl) u
  have k2 : Kept (fun k => k = pb + 1) (w.setCell ⟨pb, 1, none⟩ u) ((w.setCell ⟨pb, 1, none⟩ u).setCell ⟨pb + 1, 1, none⟩ v) := (Kept.refl (fun k => k = pb + 1) _).setCell (.inl rfl) v
  have h2 : (w.setCell ⟨pb, 1, none⟩ u).heap[pb + 1]? = some (.cells #[q0, q1] T2 (0, 0)) := (k1.block (pb + 1) (row_lt hq) (by omega)).trans hq
  have h3 : (w.setCell ⟨pb, 1, none⟩ u).heap[pb + 1 + 1]? = some O := (k1.block (pb + 1 + 1) (row_lt hr) (by omega)).trans hr
  exact ⟨(k2.block pb (row_lt h1) (by omega)).trans h1, set21 h2 v, (k2.block (pb + 1 + 1) (row_lt h3) (by omega)).trans h3⟩
theorem okL_snoc (l : List Sp) (x : Sp) : okL (l ++ [x]) = (okL l && decide (x.1 ≤ x.2)) := by unfold okL; rw [List.all_append]; simp
/-- what the document's set has of the first ones -/
def doAll (L : List Sp) : List Dd := L.foldl (fun D x => doD D x.1 x.2 true) []
theorem doAll_snoc (L : List Sp) (x : Sp) : doAll (L ++ [x]) = doD (doAll L) x.1 x.2 true := by simp [doAll]
theorem doAll_ok : ∀ (L : List Sp), okL L = true → doAll L = yes L := by
  intro L h
  replace h := (okL_iff L).1 h
  unfold doAll yes
  suffices ∀ D : List Dd, L.foldl (fun D (x : Sp) => doD D x.1 x.2 true) D = D ++ L.map fun x => (x.1, x.2, true) by simpa using this []
  induction L with
  | nil => simp
  | cons x L ih =>
    intro D
    have hx := h x (by simp)
    rw [List.foldl_cons, ih (fun y hy => h y (by simp [hy])), doD, if_neg (by omega)]
    simp
theorem doAll_len : ∀ (L : List Sp), (doAll L).length ≤ L.length := by
  intro L
  unfold doAll
  suffices ∀ D : List Dd, (L.foldl (fun D (x : Sp) => doD D x.1 x.2 true) D).length ≤ D.length + L.length by simpa using this []
  induction L with
  | nil => simp
  | cons x L ih =>
    intro D
    have := ih (doD D x.1 x.2 true)
    rw [List.foldl_cons]
    have h2 : (doD D x.1 x.2 true).length ≤ D.length + 1 := by unfold doD; split <;> simp
    simp only [List.length_cons]
    omega
set_option maxRecDepth 100000 in
set_option maxHeartbeats 20000000 in
theorem lists_walk (W : World) (args : Array Value) (h : RdAll Try.prog W Try.f6.params.toList args.toList) :
    Calls Try.prog 6 args W fun e W' => e = .returned (.bool true) ∧ Below W.heap.size W W' := by
  rw [Try.params6] at h
  obtain ⟨v0, v1, rfl⟩ : ∃ v0 v1, args = #[v0, v1] := by
    rcases args with ⟨_ | ⟨v0, _ | ⟨v1, _ | ⟨v2, l⟩⟩⟩⟩ <;> simp [RdAll] at h
    exact ⟨v0, v1, rfl⟩
  obtain ⟨r0, r1, _⟩ := h
  obtain ⟨ao, ac, A, rfl, hA, nA, bA⟩ := list_read r0
  obtain ⟨bo, bc, B, rfl, hB, nB, bB⟩ := list_read r1
  have LA := hid hA; have LB := hid hB; have BA := hid bA; have BB := hid bB
  clear hA hB bA bB r0 r1
  go_enter Try.func6, Try.ntmps6
  go_wp2_with fail
  refine (awake_any _).mono ?_; rintro e w1 ⟨rfl, hk1⟩
  have K1 := hid hk1; clear hk1
  go_wp2_with fail
  obtain ⟨pb, hpb⟩ : ∃ pb, pb = w1.heap.size := ⟨_, rfl⟩
  obtain ⟨N0, hN0⟩ : ∃ N0 : Nat → Prop, N0 = fun g => g ≠ pb ∧ g ≠ pb + 1 := ⟨_, rfl⟩
  have hPB := row_old (row_old (row_new w1 (.cells #[.pointer none, .pointer none] 61)) (.cells #[.pointer none, .pointer none] 62)) (.cells #[.slice ao A.length ac, .slice bo B.length bc] 39)
  have hQB := row_old (row_new (w1.alloc (.cells #[.pointer none, .pointer none] 61)) (.cells #[.pointer none, .pointer none] 62)) (.cells #[.slice ao A.length ac, .slice bo B.length bc] 39)
  have hLB := row_new ((w1.alloc (.cells #[.pointer none, .pointer none] 61)).alloc (.cells #[.pointer none, .pointer none] 62)) (.cells #[.slice ao A.length ac, .slice bo B.length bc] 39)
  simp only [World.size_alloc] at hQB hLB
  have hKK := (((K1.out.alloc (.cells #[.pointer none, .pointer none] 61)).alloc (.cells #[.pointer none, .pointer none] 62)).alloc (.cells #[.slice ao A.length ac, .slice bo B.length bc] 39)).below (B := W.heap.size) (Nat.le_refl _) (fun _ h => h.elim)
  have hWp : W.heap.size ≤ pb := by rw [hpb]; exact K1.out.size
  rw [← hpb] at hPB hQB hLB ⊢
  have PB := hid hPB; have QB := hid hQB; have RB := hid hLB; have B1 := hid hKK
  clear hPB hQB hLB hKK K1 hpb
  go_loopw [31] (fun i wr => ∃ (k : Nat) (p0 p1 q0 q1 : Value), k ≤ 2 ∧ i = .int .i64 k ∧ Below W.heap.size W wr ∧ wr.heap[pb]? = some (.cells #[p0, p1] 61 (0, 0)) ∧ wr.heap[pb + 1]? = some (.cells #[q0, q1] 62 (0, 0)) ∧ wr.heap[pb + 1 + 1]? = some (.cells #[.slice ao A.length ac, .slice bo B.length bc] 39 (0, 0)) ∧
    (1 ≤ k → ∃ s0 x0, p0 = .pointer (some ⟨s0, 0, none⟩) ∧ q0 = .pointer (some ⟨x0, 0, none⟩) ∧ One N0 wr s0 x0 (A.take 25)) ∧ (k = 2 → ∃ s1 x1, p1 = .pointer (some ⟨s1, 0, none⟩) ∧ q1 = .pointer (some ⟨x1, 0, none⟩) ∧ One N0 wr s1 x1 (B.take 25))) (fun i _ => 2 - (intOf i).toNat)
  case atStart => exact ⟨0, _, _, _, _, by omega, rfl, B1.out, PB.out, QB.out, RB.out, fun h => by omega, fun h => by omega⟩
  case round =>
    clear PB QB RB B1
    obtain ⟨k, p0, p1, q0, q1, hk, rfl, hb, hp, hq, hr, c1, c2⟩ := hrel
    have HB := hid hb; have PB := hid hp; have QB := hid hq; have RB := hid hr
    obtain ⟨d0, d1, _⟩ := cell2 hr
    clear hb hp hq hr
    by_cases h0 : k = 0
    · subst h0
      clear c1 c2 hk
      have hlen := LA.out
      obtain ⟨_, _, ee, hac, _⟩ := hlen
      simp only [Value.slice.injEq] at ee
      obtain ⟨rfl, _, rfl⟩ := ee
      by_cases h25 : (25 : Int) < (A.length : Int)
      · have hac2 : (25 : Int) ≤ (ac : Int) := by omega
        obtain ⟨C, hCdef⟩ : ∃ C, C = A.take 25 := ⟨_, rfl⟩
        have hC : C.length = 25 := by rw [hCdef]; simp; omega
        have hlc : Lies (fun g => W.heap.size ≤ g) W 2 (.slice ao 25 ac) 25 (scells C) := by
          have := LA.out.take (m := 25) (by omega)
          rw [← scells_take] at this
          have e : A.take 25 = C := by exact hCdef.symm
          rw [e] at this
          exact this
        have hbc : ∀ x ∈ C, B32 x := fun x hx => BA.out x (by rw [hCdef] at hx; exact List.mem_of_mem_take hx)
        have hm25 : 25 ≤ 25 := by omega
        have LC := hid hlc; have BC := hid hbc; have HC := hid hC; have CD := hid hCdef
        clear hlc hbc hC hCdef
        go_wp2_with fail
        obtain ⟨wo, rfl⟩ : ∃ wo : World, wo = wr := ⟨_, rfl⟩
        have X0 := hid (show RefAt (fun g => g = wo.heap.size) (wo.alloc (.cells #[.slice none 0 0] 29)) wo.heap.size [] from ⟨⟨none, 0, row_new _ _, by simpa [dcells] using Own.nil _ _ _, by simp [Value.ownBlock]⟩, rfl⟩)
        go_loopw [9, 11, 45] (fun mine bad i wr => ∃ (j : Nat) (F : Nat → Prop), j ≤ 25 ∧ i = .int .i64 j ∧ bad = .bool (!okL (C.take j)) ∧ Kept (fun _ => False) wo wr ∧ Fresh wo.heap.size wr mine (C.take j) ∧ RefAt F wr wo.heap.size (doAll (C.take j)) ∧ (∀ g, F g → wo.heap.size ≤ g ∧ g < wr.heap.size) ∧ (∀ g, mine.ownBlock = some g → ¬ F g)) (fun _ _ i _ => 25 - (intOf i).toNat)
        case atStart => exact ⟨0, _, Nat.zero_le _, rfl, by simp [okL], (Kept.refl _ _).alloc _, by simpa using Fresh.nil _ _, X0.out, fun g hg => by subst hg; exact ⟨Nat.le_refl _, by simp⟩, by simp [Value.ownBlock]⟩
        case round =>
          clear X0 d0 d1
          obtain ⟨j, F, hj, rfl, rfl, hkp, hmine, hx, hF, hmF⟩ := hrel
          have HK := hid hkp; have HX := hid hx; have HF := hid hF; have HM := hid hmine
          obtain ⟨mo, mc, rfl, hmo, hmf⟩ := hmine
          have HMO := hid hmo; have HMF := hid hmf; have HNF := hid hmF
          clear hkp hx hF hmF hmo hmf
          by_cases hlt : j < 25
          · obtain ⟨g1, o1, q1, e1, n1, n2, hnF, _, z1⟩ := LC.out.cell (by omega)
            simp only [Value.slice.injEq] at e1
            obtain ⟨rfl, _, rfl⟩ := e1
            have hltC : j < C.length := by rw [HC.out]; exact hlt
            obtain ⟨x0, x1⟩ := scells_at C j C[j] (by simp [hltC])
            have y0 := HK.out.cell ((below_kept HB.out).cell (z1 _ _ x0) hnF) id
            have y1 := HK.out.cell ((below_kept HB.out).cell (z1 _ _ x1) hnF) id
            have hb32 := BC.out _ (List.getElem_mem hltC)
            have htk : C.take (j + 1) = C.take j ++ [C[j]] := List.take_succ_eq_append_getElem hltC
            have hdt : doAll (C.take (j + 1)) = doD (doAll (C.take j)) C[j].1 C[j].2 true := by rw [htk, doAll_snoc]
            have hok : okL (C.take (j + 1)) = (okL (C.take j) && decide (C[j].1 ≤ C[j].2)) := by rw [htk, okL_snoc]
            have hdl := doAll_len (C.take j)
            have hlj : (C.take j).length = j := by simp; omega
            obtain ⟨⟨p, q⟩, hpq⟩ : ∃ x, C[j] = x := ⟨_, rfl⟩
            rw [hpq] at y0 y1 hb32 htk hdt hok
            simp only [← Nat.add_assoc] at y0 y1 hdt hok
            obtain ⟨b1, b2, b3, b4⟩ := hb32
            simp only at b1 b2 b3 b4
            have HTK := hid htk; have HDT := hid hdt; have HOK := hid hok; have HLJ := hid hlj
            clear x0 x1 z1 hpq htk hdt hok hnF hltC hlj
            go_wp2_with (at_builtin; refine wpList_app (o := ⟨some 52, _, _, _, _, _⟩) rfl (.tmp 49) (.tmp 51) 37 rfl 46 (.agg #[.int .u32 0, .int .u32 0]) 2 8 Try.underlying37 infoS rfl (by decide) (.slice mo (C.take j).length mc) (C.take j).length (scells (C.take j)) (by simp [Act.eval, Act.put]) (by exact (HMO.out.alloc _).alloc _) (.slice (some ⟨wr.heap.size + 1, 0, none⟩) 1 1) (by simp [Act.eval, Act.put]) 1 [.int .u32 p, .int .u32 q] (by exact src_two' _ _ rfl rfl (by simp)) (by unfold maxLen; simp; omega) (by simp; omega) ?_; intro a3 c3 w3 ho3 hk3 hf3 _; have HO3 := hid ho3; have HF3 := hid hf3; have HK3 := hid hk3; have u0 := hk3.cell (p := ⟨wr.heap.size, 0, none⟩) (v := .int .u32 p) (by simp) (fun e => by have : wr.heap.size < wr.heap.size := (HM.out.lt e).2; omega); have u1 := hk3.cell (p := ⟨wr.heap.size, 1, none⟩) (v := .int .u32 q) (by simp) (fun e => by have : wr.heap.size < wr.heap.size := (HM.out.lt e).2; omega); clear ho3 hk3 hf3)
            have hx3 : RefAt F w3 wo.heap.size (doAll (C.take j)) := (HX.out.kept (((Kept.refl (fun _ => False) wr).alloc _).alloc _) (fun _ _ h => h)).kept HK3.out (fun g hg e => HNF.out g e hg)
            have hsz3 := HK3.out.size
            simp only [World.size_alloc] at hsz3
            have HX3 := hid hx3; clear hx3
            go_wp2_with fail
            refine (do_any HX3.out (by have := HLJ.out; omega) p q true).mono ?_
            rintro e w6 ⟨rfl, hx6, hk6⟩
            rw [← HDT.out] at hx6
            have HX6 := hid hx6.lt
            have ho := HO3.out
            rw [show scells (C.take j) ++ [.int .u32 p, .int .u32 q] = scells (C.take (j + 1)) by rw [HTK.out, scells_app]; rfl, show (C.take j).length + 1 = (C.take (j + 1)).length by rw [HTK.out]; simp] at ho
            have hf := HF3.out
            rw [show (C.take j).length + 1 = (C.take (j + 1)).length by rw [HTK.out]; simp] at hf
            have hnew : ∀ g, (Value.slice a3 (C.take (j + 1)).length c3).ownBlock = some g → ¬ F g := fun g hg hFg => by
              rcases hf g hg with h | h
              · exact HNF.out g h hFg
              · have := (HF.out g hFg).2; (try simp at h); omega
            have hbase : ∀ g, (Value.slice a3 (C.take (j + 1)).length c3).ownBlock = some g → wo.heap.size ≤ g := fun g hg => by
              rcases hf g hg with h | h
              · exact HMF.out g h
              · have := HK.out.size; (try simp at h); omega
            have HM6 := hid (ho.kept hk6 hnew)
            have HNW := hid (show ∀ g, (Value.slice a3 (C.take (j + 1)).length c3).ownBlock = some g → ¬ ((F g ∨ w3.heap.size ≤ g) ∧ g < w6.heap.size) from fun g hg h2 => by
              rcases h2.1 with h | h
              · exact hnew g hg h
              · have := ho.lt hg; omega)
            have HBS := hid hbase
            have HK6 := hid (Kept.trans' (F := fun _ => False) (Kept.trans' (F := fun _ => False) ((HK.out.alloc _).alloc _) HK3.out (fun i hi => Or.inr (HMF.out i hi))) hk6 (fun i hi => Or.inr (HF.out i hi).1))
            have hs6 := hk6.size
            have hlj1 : (C.take j).length + 1 = (C.take (j + 1)).length := by rw [HTK.out]; simp
            clear hx6 hk6 ho hf hnew hbase
            have HFB := hid (show ∀ g, ((F g ∨ w3.heap.size ≤ g) ∧ g < w6.heap.size) → wo.heap.size ≤ g ∧ g < w6.heap.size from fun g hg => ⟨by
              rcases hg.1 with h | h
              · exact (HF.out g h).1
              · have := HK.out.size; omega, hg.2⟩)
            have hj1 : (C.take (j + 1)).length = j + 1 := by rw [← hlj1, HLJ.out]
            have HJ1 := hid hj1; clear hj1 hlj1
            by_cases hle : q < p
            · have hc : chk p q = 1 := by simp [chk, hle]
              rw [hc]
              have hbad : okL (C.take (j + 1)) = false := by rw [HOK.out]; simp; intro _; omega
              have HBAD := hid hbad; clear hbad
              go_wp2
              go_roundw
              case rel => exact ⟨j + 1, _, hlt, by go_num, by rw [HBAD.out]; rfl, HK6.out, ⟨a3, c3, by rw [HJ1.out]; congr 1; have := HC.out; omega, HM6.out, HBS.out⟩, HX6.out, HFB.out, by have := HNW.out; rw [HJ1.out] at this; rw [show min j C.length + 1 = j + 1 by have := HC.out; omega]; exact this⟩
              case measure => simp [intOf]; omega
            · have hc : chk p q = 0 := by simp [chk, hle]
              rw [hc]
              have hbad : okL (C.take (j + 1)) = okL (C.take j) := by rw [HOK.out]; simp; intro _; omega
              have HBAD := hid hbad; clear hbad
              go_wp2
              go_roundw
              case rel => exact ⟨j + 1, _, hlt, by go_num, by rw [HBAD.out], HK6.out, ⟨a3, c3, by rw [HJ1.out]; congr 1; have := HC.out; omega, HM6.out, HBS.out⟩, HX6.out, HFB.out, by have := HNW.out; rw [HJ1.out] at this; rw [show min j C.length + 1 = j + 1 by have := HC.out; omega]; exact this⟩
              case measure => simp [intOf]; omega
          · obtain rfl : j = 25 := by omega
            have htC : C.take 25 = C := List.take_of_length_le (by rw [HC.out]; exact Nat.le_refl _)
            rw [htC] at HM HX HMO HMF HNF ⊢
            have hwo : W.heap.size ≤ wo.heap.size := HB.out.size
            have LCC := hid (show ∀ w, Below W.heap.size W w → Lies (fun g => W.heap.size ≤ g) w 2 _ C.length (scells C) from fun w hb => by rw [HC.out]; exact LC.out.kept (below_kept hb) (fun _ _ h => h))
            have HWR := hid (show pb + 1 + 1 < wr.heap.size from Nat.lt_of_lt_of_le (row_lt RB.out) HK.out.size)
            go_wp2_with fail
            refine (of_any (L := C) HM.out.lies BC.out).mono ?_
            rintro e w7 ⟨hok, hbad, hk⟩
            by_cases hokC : okL C = true
            · obtain ⟨sb, rfl, hs⟩ := hok hokC
              have S7 := hid hs; have M7 := hid (HM.out.kept hk (fun _ _ h => h)); have X7 := hid (HX.out.kept hk (fun _ _ h => h)); have K7 := hid (HK.out.trans hk)
              have hbd := yes_bd hokC BC.out
              have hda := doAll_ok C hokC
              rw [← hda] at hbd
              have BD := hid hbd; have DA := hid hda
              have DL := hid (show (doAll C).length ≤ 25 by have := doAll_len C; have := HC.out; omega)
              have hspy : spansD [(wo.heap.size, doAll C)] = addAll [] C := by rw [hda]; exact spans_yes hokC BC.out _
              have SPY := hid hspy
              clear hs hk hbd hda hspy hok hbad HM HX HK HMO HMF HNF
              rw [hokC]
              have gS := S7.out.g
              have hag := again gS
              have nS := gS.len
              have AG := hid hag; clear gS hag
              go_wp2_with fail
              refine (conv_any M7.out.lies (by rw [HC.out]; omega)).mono ?_
              rintro e w8 ⟨cv, rfl, hcv, hk⟩
              have S8 := hid (S7.out.same hk)
              have X8 := hid (X7.out.kept hk (fun _ _ h => h))
              have K8 := hid (K7.out.trans hk)
              have CV := hid hcv.lies
              clear hcv M7
              clear hk S7 X7 K7
              go_wp2_with fail
              refine (same_any CV.out (LCC.out w8 (HB.out.trans (K8.out.below (B := W.heap.size) hwo (fun _ h => h.elim))))).mono ?_
              rintro e w9 ⟨rfl, hk⟩
              have S9 := hid (S8.out.same hk)
              have X9 := hid (X8.out.kept hk (fun _ _ h => h))
              have K9 := hid (K8.out.trans hk)
              clear CV
              clear hk S8 X8 K8
              go_wp2_with fail
              refine (S9.out.spans).mono ?_
              rintro e w10 ⟨ua, uc, rfl, hf, hk⟩
              have S10 := hid (S9.out.same hk)
              have X10 := hid (X9.out.kept hk (fun _ _ h => h))
              have K10 := hid (K9.out.trans hk)
              have FU := hid hf
              clear hf
              clear hk S9 X9 K9
              go_wp2_with fail
              refine (conv_any FU.out.lies (by omega)).mono ?_
              rintro e w11 ⟨cv, rfl, hcv, hk⟩
              have S11 := hid (S10.out.same hk)
              have X11 := hid (X10.out.kept hk (fun _ _ h => h))
              have K11 := hid (K10.out.trans hk)
              have CV11 := hid hcv.lies
              clear hcv FU
              clear hk S10 X10 K10
              go_wp2_with fail
              refine (rspans_any (Rs := [(wo.heap.size, doAll C)]) (lies_ptr (cap := 1) (row_new w11 (.cells #[.pointer (some ⟨wo.heap.size, 0, none⟩)] 27)) rfl (by simp) (by decide)) ((X11.out.kept ((Kept.refl (fun _ => False) w11).alloc _) (fun _ _ h => h)).rs BD.out (by have := DL.out; omega))).mono ?_
              rintro e w12 ⟨rv, rfl, hrv, hk0⟩
              have hk := ((Kept.refl (fun _ => False) w11).alloc (.cells #[.pointer (some ⟨wo.heap.size, 0, none⟩)] 27)).trans hk0
              rw [SPY.out] at hrv
              have RV := hid hrv.lies
              have CV12 := hid (CV11.out.same hk)
              have S12 := hid (S11.out.same hk)
              have X12 := hid (X11.out.kept hk (fun _ _ h => h))
              have K12 := hid (K11.out.trans hk)
              clear hrv hk hk0 S11 X11 K11 CV11
              go_wp2_with fail
              refine (same_any CV12.out RV.out).mono ?_
              rintro e w13 ⟨rfl, hk⟩
              have S13 := hid (S12.out.same hk)
              have X13 := hid (X12.out.kept hk (fun _ _ h => h))
              have K13 := hid (K12.out.trans hk)
              clear CV12 RV
              clear hk S12 X12 K12
              go_wp2_with fail
              refine (S13.out.spans).mono ?_
              rintro e w14 ⟨ua, uc, rfl, hf, hk⟩
              have S14 := hid (S13.out.same hk)
              have X14 := hid (X13.out.kept hk (fun _ _ h => h))
              have K14 := hid (K13.out.trans hk)
              have FU := hid hf
              clear hf
              clear hk S13 X13 K13
              go_wp2_with fail
              refine (of_any (L := addAll [] C) FU.out.lies AG.out.2.2).mono ?_
              rintro e w15 ⟨hok, _, hk⟩
              obtain ⟨tb, rfl, ht⟩ := hok AG.out.2.1
              rw [AG.out.1] at ht
              have T15 := hid ht; have S15 := hid (S14.out.same hk); have X15 := hid (X14.out.kept hk (fun _ _ h => h)); have K15 := hid (K14.out.trans hk)
              clear hk ht hok S14 X14 K14 FU
              go_wp2_with fail
              refine (T15.out.spans).mono ?_
              rintro e w16 ⟨ua, uc, rfl, hf, hk⟩
              have S16 := hid (S15.out.same hk)
              have X16 := hid (X15.out.kept hk (fun _ _ h => h))
              have K16 := hid (K15.out.trans hk)
              have FU := hid hf
              clear hf T15
              clear hk S15 X15 K15
              go_wp2_with fail
              refine (conv_any FU.out.lies (by omega)).mono ?_
              rintro e w17 ⟨cv, rfl, hcv, hk⟩
              have S17 := hid (S16.out.same hk)
              have X17 := hid (X16.out.kept hk (fun _ _ h => h))
              have K17 := hid (K16.out.trans hk)
              have CV17 := hid hcv.lies
              clear hcv FU
              clear hk S16 X16 K16
              go_wp2_with fail
              refine (rspans_any (Rs := [(wo.heap.size, doAll C)]) (lies_ptr (cap := 1) (row_new w17 (.cells #[.pointer (some ⟨wo.heap.size, 0, none⟩)] 27)) rfl (by simp) (by decide)) ((X17.out.kept ((Kept.refl (fun _ => False) w17).alloc _) (fun _ _ h => h)).rs BD.out (by have := DL.out; omega))).mono ?_
              rintro e w18 ⟨rv, rfl, hrv, hk0⟩
              have hk := ((Kept.refl (fun _ => False) w17).alloc (.cells #[.pointer (some ⟨wo.heap.size, 0, none⟩)] 27)).trans hk0
              rw [SPY.out] at hrv
              have RV := hid hrv.lies
              have CV18 := hid (CV17.out.same hk)
              have S18 := hid (S17.out.same hk)
              have X18 := hid (X17.out.kept hk (fun _ _ h => h))
              have K18 := hid (K17.out.trans hk)
              clear hrv hk hk0 S17 X17 K17 CV17
              go_wp2_with fail
              refine (same_any CV18.out RV.out).mono ?_
              rintro e w19 ⟨rfl, hk⟩
              have S19 := hid (S18.out.same hk)
              have X19 := hid (X18.out.kept hk (fun _ _ h => h))
              have K19 := hid (K18.out.trans hk)
              clear CV18 RV
              clear hk S18 X18 K18
              have hp19 := (K19.out.block pb (row_lt PB.out) id).trans PB.out
              have hq19 := (K19.out.block (pb + 1) (row_lt QB.out) id).trans QB.out
              have hr19 := (K19.out.block (pb + 1 + 1) (row_lt RB.out) id).trans RB.out
              obtain ⟨m0, m1, mf⟩ := cell2 hp19
              obtain ⟨m2, m3, mg⟩ := cell2 hq19
              have hlt3 := row_lt RB.out
              have hone : One N0 w19 sb wo.heap.size C := ⟨S19.out.setN (fun g h1 h2 => by rw [hN0]; have := HWR.out; constructor <;> omega), ⟨_, by rw [← DA.out]; exact X19.out, fun g hg => by rw [hN0]; have := (HF.out g hg).1; constructor <;> omega⟩, hokC, BC.out, by rw [HC.out]; omega⟩
              have kk : ∀ u v : Value, Kept (fun g => ¬ N0 g) w19 ((w19.setCell ⟨pb, 0, none⟩ u).setCell ⟨pb + 1, 0, none⟩ v) := fun u v => ((Kept.refl (fun g => ¬ N0 g) w19).setCell (.inl (by rw [hN0]; simp)) u).setCell (.inl (by rw [hN0]; simp)) v
              have HP := hid hp19; have HQ := hid hq19; have HR := hid hr19; have ONE := hid hone; have KKK := hid kk
              clear hp19 hq19 hr19 hone kk
              go_wp2
              go_roundw
              case rel =>
                have b1 : Below W.heap.size W ((w19.setCell ⟨pb, 0, none⟩ (.pointer (some ⟨sb, 0, none⟩))).setCell ⟨pb + 1, 0, none⟩ (.pointer (some ⟨wo.heap.size, 0, none⟩))) := ((HB.out.trans (K19.out.below (B := W.heap.size) hwo (fun _ h => h.elim))).setCell (p := ⟨pb, 0, none⟩) hWp _).setCell (p := ⟨pb + 1, 0, none⟩) (by simp only; omega) _
                obtain ⟨t1, t2, t3⟩ := two_stores0 HP.out HQ.out HR.out (.pointer (some ⟨sb, 0, none⟩)) (.pointer (some ⟨wo.heap.size, 0, none⟩))
                have o1 : One N0 ((w19.setCell ⟨pb, 0, none⟩ (.pointer (some ⟨sb, 0, none⟩))).setCell ⟨pb + 1, 0, none⟩ (.pointer (some ⟨wo.heap.size, 0, none⟩))) sb wo.heap.size (A.take 25) := by rw [← CD.out]; exact ONE.out.kept (KKK.out _ _)
                exact ⟨1, _, _, _, _, by omega, by go_num, b1, t1, t2, t3, fun _ => ⟨sb, wo.heap.size, rfl, rfl, o1⟩, fun h => by omega⟩
              case measure => simp [intOf]
            · have hbC : okL C = false := by simpa using hokC
              obtain rfl := hbad hbC
              have M7 := hid (HM.out.kept hk (fun _ _ h => h)); have K7 := hid (HK.out.trans hk)
              clear hok hbad hk
              rw [hbC]
              go_wp2_with fail
              refine (conv_any M7.out.lies (by rw [HC.out]; omega)).mono ?_
              rintro e w8 ⟨cv, rfl, hcv, hk⟩
              have K8 := hid (K7.out.trans hk)
              go_wp2_with fail
              refine (same_any hcv.lies (LCC.out w8 (HB.out.trans (K8.out.below (B := W.heap.size) hwo (fun _ h => h.elim))))).mono ?_
              rintro e w9 ⟨rfl, hk9⟩
              have K9 := hid (K8.out.trans hk9)
              clear hk hk9 hcv
              go_wp2
              go_ret
              exact ⟨rfl, HB.out.trans (K9.out.below (B := W.heap.size) hwo (fun _ h => h.elim))⟩
      · have h25' : A.length ≤ 25 := by omega
        have hac2 : (A.length : Int) ≤ (ac : Int) := by omega
        obtain ⟨C, hCdef⟩ : ∃ C, C = A.take 25 := ⟨_, rfl⟩
        have hC : C.length = A.length := by rw [hCdef]; simp; omega
        have hlc : Lies (fun g => W.heap.size ≤ g) W 2 (.slice ao A.length ac) A.length (scells C) := by
          have := LA.out.take (m := A.length) (by omega)
          rw [← scells_take] at this
          have e : A.take A.length = C := by rw [hCdef, List.take_length]; exact (List.take_of_length_le (by omega)).symm
          rw [e] at this
          exact this
        have hbc : ∀ x ∈ C, B32 x := fun x hx => BA.out x (by rw [hCdef] at hx; exact List.mem_of_mem_take hx)
        have hm25 : A.length ≤ 25 := by omega
        have LC := hid hlc; have BC := hid hbc; have HC := hid hC; have CD := hid hCdef
        clear hlc hbc hC hCdef
        go_wp2_with fail
        obtain ⟨wo, rfl⟩ : ∃ wo : World, wo = wr := ⟨_, rfl⟩
        have X0 := hid (show RefAt (fun g => g = wo.heap.size) (wo.alloc (.cells #[.slice none 0 0] 29)) wo.heap.size [] from ⟨⟨none, 0, row_new _ _, by simpa [dcells] using Own.nil _ _ _, by simp [Value.ownBlock]⟩, rfl⟩)
        go_loopw [9, 11, 45] (fun mine bad i wr => ∃ (j : Nat) (F : Nat → Prop), j ≤ A.length ∧ i = .int .i64 j ∧ bad = .bool (!okL (C.take j)) ∧ Kept (fun _ => False) wo wr ∧ Fresh wo.heap.size wr mine (C.take j) ∧ RefAt F wr wo.heap.size (doAll (C.take j)) ∧ (∀ g, F g → wo.heap.size ≤ g ∧ g < wr.heap.size) ∧ (∀ g, mine.ownBlock = some g → ¬ F g)) (fun _ _ i _ => A.length - (intOf i).toNat)
        case atStart => exact ⟨0, _, Nat.zero_le _, rfl, by simp [okL], (Kept.refl _ _).alloc _, by simpa using Fresh.nil _ _, X0.out, fun g hg => by subst hg; exact ⟨Nat.le_refl _, by simp⟩, by simp [Value.ownBlock]⟩
        case round =>
          clear X0 d0 d1
          obtain ⟨j, F, hj, rfl, rfl, hkp, hmine, hx, hF, hmF⟩ := hrel
          have HK := hid hkp; have HX := hid hx; have HF := hid hF; have HM := hid hmine
          obtain ⟨mo, mc, rfl, hmo, hmf⟩ := hmine
          have HMO := hid hmo; have HMF := hid hmf; have HNF := hid hmF
          clear hkp hx hF hmF hmo hmf
          by_cases hlt : j < A.length
          · obtain ⟨g1, o1, q1, e1, n1, n2, hnF, _, z1⟩ := LC.out.cell (by omega)
            simp only [Value.slice.injEq] at e1
            obtain ⟨rfl, _, rfl⟩ := e1
            have hltC : j < C.length := by rw [HC.out]; exact hlt
            obtain ⟨x0, x1⟩ := scells_at C j C[j] (by simp [hltC])
            have y0 := HK.out.cell ((below_kept HB.out).cell (z1 _ _ x0) hnF) id
            have y1 := HK.out.cell ((below_kept HB.out).cell (z1 _ _ x1) hnF) id
            have hb32 := BC.out _ (List.getElem_mem hltC)
            have htk : C.take (j + 1) = C.take j ++ [C[j]] := List.take_succ_eq_append_getElem hltC
            have hdt : doAll (C.take (j + 1)) = doD (doAll (C.take j)) C[j].1 C[j].2 true := by rw [htk, doAll_snoc]
            have hok : okL (C.take (j + 1)) = (okL (C.take j) && decide (C[j].1 ≤ C[j].2)) := by rw [htk, okL_snoc]
            have hdl := doAll_len (C.take j)
            have hlj : (C.take j).length = j := by simp; omega
            obtain ⟨⟨p, q⟩, hpq⟩ : ∃ x, C[j] = x := ⟨_, rfl⟩
            rw [hpq] at y0 y1 hb32 htk hdt hok
            simp only [← Nat.add_assoc] at y0 y1 hdt hok
            obtain ⟨b1, b2, b3, b4⟩ := hb32
            simp only at b1 b2 b3 b4
            have HTK := hid htk; have HDT := hid hdt; have HOK := hid hok; have HLJ := hid hlj
            clear x0 x1 z1 hpq htk hdt hok hnF hltC hlj
            go_wp2_with (at_builtin; refine wpList_app (o := ⟨some 52, _, _, _, _, _⟩) rfl (.tmp 49) (.tmp 51) 37 rfl 46 (.agg #[.int .u32 0, .int .u32 0]) 2 8 Try.underlying37 infoS rfl (by decide) (.slice mo (C.take j).length mc) (C.take j).length (scells (C.take j)) (by simp [Act.eval, Act.put]) (by exact (HMO.out.alloc _).alloc _) (.slice (some ⟨wr.heap.size + 1, 0, none⟩) 1 1) (by simp [Act.eval, Act.put]) 1 [.int .u32 p, .int .u32 q] (by exact src_two' _ _ rfl rfl (by simp)) (by unfold maxLen; simp; omega) (by simp; omega) ?_; intro a3 c3 w3 ho3 hk3 hf3 _; have HO3 := hid ho3; have HF3 := hid hf3; have HK3 := hid hk3; have u0 := hk3.cell (p := ⟨wr.heap.size, 0, none⟩) (v := .int .u32 p) (by simp) (fun e => by have : wr.heap.size < wr.heap.size := (HM.out.lt e).2; omega); have u1 := hk3.cell (p := ⟨wr.heap.size, 1, none⟩) (v := .int .u32 q) (by simp) (fun e => by have : wr.heap.size < wr.heap.size := (HM.out.lt e).2; omega); clear ho3 hk3 hf3)
            have hx3 : RefAt F w3 wo.heap.size (doAll (C.take j)) := (HX.out.kept (((Kept.refl (fun _ => False) wr).alloc _).alloc _) (fun _ _ h => h)).kept HK3.out (fun g hg e => HNF.out g e hg)
            have hsz3 := HK3.out.size
            simp only [World.size_alloc] at hsz3
            have HX3 := hid hx3; clear hx3
            go_wp2_with fail
            refine (do_any HX3.out (by have := HLJ.out; omega) p q true).mono ?_
            rintro e w6 ⟨rfl, hx6, hk6⟩
            rw [← HDT.out] at hx6
            have HX6 := hid hx6.lt
            have ho := HO3.out
            rw [show scells (C.take j) ++ [.int .u32 p, .int .u32 q] = scells (C.take (j + 1)) by rw [HTK.out, scells_app]; rfl, show (C.take j).length + 1 = (C.take (j + 1)).length by rw [HTK.out]; simp] at ho
            have hf := HF3.out
            rw [show (C.take j).length + 1 = (C.take (j + 1)).length by rw [HTK.out]; simp] at hf
            have hnew : ∀ g, (Value.slice a3 (C.take (j + 1)).length c3).ownBlock = some g → ¬ F g := fun g hg hFg => by
              rcases hf g hg with h | h
              · exact HNF.out g h hFg
              · have := (HF.out g hFg).2; (try simp at h); omega
            have hbase : ∀ g, (Value.slice a3 (C.take (j + 1)).length c3).ownBlock = some g → wo.heap.size ≤ g := fun g hg => by
              rcases hf g hg with h | h
              · exact HMF.out g h
              · have := HK.out.size; (try simp at h); omega
            have HM6 := hid (ho.kept hk6 hnew)
            have HNW := hid (show ∀ g, (Value.slice a3 (C.take (j + 1)).length c3).ownBlock = some g → ¬ ((F g ∨ w3.heap.size ≤ g) ∧ g < w6.heap.size) from fun g hg h2 => by
              rcases h2.1 with h | h
              · exact hnew g hg h
              · have := ho.lt hg; omega)
            have HBS := hid hbase
            have HK6 := hid (Kept.trans' (F := fun _ => False) (Kept.trans' (F := fun _ => False) ((HK.out.alloc _).alloc _) HK3.out (fun i hi => Or.inr (HMF.out i hi))) hk6 (fun i hi => Or.inr (HF.out i hi).1))
            have hs6 := hk6.size
            have hlj1 : (C.take j).length + 1 = (C.take (j + 1)).length := by rw [HTK.out]; simp
            clear hx6 hk6 ho hf hnew hbase
            have HFB := hid (show ∀ g, ((F g ∨ w3.heap.size ≤ g) ∧ g < w6.heap.size) → wo.heap.size ≤ g ∧ g < w6.heap.size from fun g hg => ⟨by
              rcases hg.1 with h | h
              · exact (HF.out g h).1
              · have := HK.out.size; omega, hg.2⟩)
            have hj1 : (C.take (j + 1)).length = j + 1 := by rw [← hlj1, HLJ.out]
            have HJ1 := hid hj1; clear hj1 hlj1
            by_cases hle : q < p
            · have hc : chk p q = 1 := by simp [chk, hle]
              rw [hc]
              have hbad : okL (C.take (j + 1)) = false := by rw [HOK.out]; simp; intro _; omega
              have HBAD := hid hbad; clear hbad
              go_wp2
              go_roundw
              case rel => exact ⟨j + 1, _, hlt, by go_num, by rw [HBAD.out]; rfl, HK6.out, ⟨a3, c3, by rw [HJ1.out]; congr 1; have := HC.out; omega, HM6.out, HBS.out⟩, HX6.out, HFB.out, by have := HNW.out; rw [HJ1.out] at this; rw [show min j C.length + 1 = j + 1 by have := HC.out; omega]; exact this⟩
              case measure => simp [intOf]; omega
            · have hc : chk p q = 0 := by simp [chk, hle]
              rw [hc]
              have hbad : okL (C.take (j + 1)) = okL (C.take j) := by rw [HOK.out]; simp; intro _; omega
              have HBAD := hid hbad; clear hbad
              go_wp2
              go_roundw
              case rel => exact ⟨j + 1, _, hlt, by go_num, by rw [HBAD.out], HK6.out, ⟨a3, c3, by rw [HJ1.out]; congr 1; have := HC.out; omega, HM6.out, HBS.out⟩, HX6.out, HFB.out, by have := HNW.out; rw [HJ1.out] at this; rw [show min j C.length + 1 = j + 1 by have := HC.out; omega]; exact this⟩
              case measure => simp [intOf]; omega
          · obtain rfl : j = A.length := by omega
            have htC : C.take A.length = C := List.take_of_length_le (by rw [HC.out]; exact Nat.le_refl _)
            rw [htC] at HM HX HMO HMF HNF ⊢
            have hwo : W.heap.size ≤ wo.heap.size := HB.out.size
            have LCC := hid (show ∀ w, Below W.heap.size W w → Lies (fun g => W.heap.size ≤ g) w 2 _ C.length (scells C) from fun w hb => by rw [HC.out]; exact LC.out.kept (below_kept hb) (fun _ _ h => h))
            have HWR := hid (show pb + 1 + 1 < wr.heap.size from Nat.lt_of_lt_of_le (row_lt RB.out) HK.out.size)
            go_wp2_with fail
            refine (of_any (L := C) HM.out.lies BC.out).mono ?_
            rintro e w7 ⟨hok, hbad, hk⟩
            by_cases hokC : okL C = true
            · obtain ⟨sb, rfl, hs⟩ := hok hokC
              have S7 := hid hs; have M7 := hid (HM.out.kept hk (fun _ _ h => h)); have X7 := hid (HX.out.kept hk (fun _ _ h => h)); have K7 := hid (HK.out.trans hk)
              have hbd := yes_bd hokC BC.out
              have hda := doAll_ok C hokC
              rw [← hda] at hbd
              have BD := hid hbd; have DA := hid hda
              have DL := hid (show (doAll C).length ≤ 25 by have := doAll_len C; have := HC.out; omega)
              have hspy : spansD [(wo.heap.size, doAll C)] = addAll [] C := by rw [hda]; exact spans_yes hokC BC.out _
              have SPY := hid hspy
              clear hs hk hbd hda hspy hok hbad HM HX HK HMO HMF HNF
              rw [hokC]
              have gS := S7.out.g
              have hag := again gS
              have nS := gS.len
              have AG := hid hag; clear gS hag
              go_wp2_with fail
              refine (conv_any M7.out.lies (by rw [HC.out]; omega)).mono ?_
              rintro e w8 ⟨cv, rfl, hcv, hk⟩
              have S8 := hid (S7.out.same hk)
              have X8 := hid (X7.out.kept hk (fun _ _ h => h))
              have K8 := hid (K7.out.trans hk)
              have CV := hid hcv.lies
              clear hcv M7
              clear hk S7 X7 K7
              go_wp2_with fail
              refine (same_any CV.out (LCC.out w8 (HB.out.trans (K8.out.below (B := W.heap.size) hwo (fun _ h => h.elim))))).mono ?_
              rintro e w9 ⟨rfl, hk⟩
              have S9 := hid (S8.out.same hk)
              have X9 := hid (X8.out.kept hk (fun _ _ h => h))
              have K9 := hid (K8.out.trans hk)
              clear CV
              clear hk S8 X8 K8
              go_wp2_with fail
              refine (S9.out.spans).mono ?_
              rintro e w10 ⟨ua, uc, rfl, hf, hk⟩
              have S10 := hid (S9.out.same hk)
              have X10 := hid (X9.out.kept hk (fun _ _ h => h))
              have K10 := hid (K9.out.trans hk)
              have FU := hid hf
              clear hf
              clear hk S9 X9 K9
              go_wp2_with fail
              refine (conv_any FU.out.lies (by omega)).mono ?_
              rintro e w11 ⟨cv, rfl, hcv, hk⟩
              have S11 := hid (S10.out.same hk)
              have X11 := hid (X10.out.kept hk (fun _ _ h => h))
              have K11 := hid (K10.out.trans hk)
              have CV11 := hid hcv.lies
              clear hcv FU
              clear hk S10 X10 K10
              go_wp2_with fail
              refine (rspans_any (Rs := [(wo.heap.size, doAll C)]) (lies_ptr (cap := 1) (row_new w11 (.cells #[.pointer (some ⟨wo.heap.size, 0, none⟩)] 27)) rfl (by simp) (by decide)) ((X11.out.kept ((Kept.refl (fun _ => False) w11).alloc _) (fun _ _ h => h)).rs BD.out (by have := DL.out; omega))).mono ?_
              rintro e w12 ⟨rv, rfl, hrv, hk0⟩
              have hk := ((Kept.refl (fun _ => False) w11).alloc (.cells #[.pointer (some ⟨wo.heap.size, 0, none⟩)] 27)).trans hk0
              rw [SPY.out] at hrv
              have RV := hid hrv.lies
              have CV12 := hid (CV11.out.same hk)
              have S12 := hid (S11.out.same hk)
              have X12 := hid (X11.out.kept hk (fun _ _ h => h))
              have K12 := hid (K11.out.trans hk)
              clear hrv hk hk0 S11 X11 K11 CV11
              go_wp2_with fail
              refine (same_any CV12.out RV.out).mono ?_
              rintro e w13 ⟨rfl, hk⟩
              have S13 := hid (S12.out.same hk)
              have X13 := hid (X12.out.kept hk (fun _ _ h => h))
              have K13 := hid (K12.out.trans hk)
              clear CV12 RV
              clear hk S12 X12 K12
              go_wp2_with fail
              refine (S13.out.spans).mono ?_
              rintro e w14 ⟨ua, uc, rfl, hf, hk⟩
              have S14 := hid (S13.out.same hk)
              have X14 := hid (X13.out.kept hk (fun _ _ h => h))
              have K14 := hid (K13.out.trans hk)
              have FU := hid hf
              clear hf
              clear hk S13 X13 K13
              go_wp2_with fail
              refine (of_any (L := addAll [] C) FU.out.lies AG.out.2.2).mono ?_
              rintro e w15 ⟨hok, _, hk⟩
              obtain ⟨tb, rfl, ht⟩ := hok AG.out.2.1
              rw [AG.out.1] at ht
              have T15 := hid ht; have S15 := hid (S14.out.same hk); have X15 := hid (X14.out.kept hk (fun _ _ h => h)); have K15 := hid (K14.out.trans hk)
              clear hk ht hok S14 X14 K14 FU
              go_wp2_with fail
              refine (T15.out.spans).mono ?_
              rintro e w16 ⟨ua, uc, rfl, hf, hk⟩
              have S16 := hid (S15.out.same hk)
              have X16 := hid (X15.out.kept hk (fun _ _ h => h))
              have K16 := hid (K15.out.trans hk)
              have FU := hid hf
              clear hf T15
              clear hk S15 X15 K15
              go_wp2_with fail
              refine (conv_any FU.out.lies (by omega)).mono ?_
              rintro e w17 ⟨cv, rfl, hcv, hk⟩
              have S17 := hid (S16.out.same hk)
              have X17 := hid (X16.out.kept hk (fun _ _ h => h))
              have K17 := hid (K16.out.trans hk)
              have CV17 := hid hcv.lies
              clear hcv FU
              clear hk S16 X16 K16
              go_wp2_with fail
              refine (rspans_any (Rs := [(wo.heap.size, doAll C)]) (lies_ptr (cap := 1) (row_new w17 (.cells #[.pointer (some ⟨wo.heap.size, 0, none⟩)] 27)) rfl (by simp) (by decide)) ((X17.out.kept ((Kept.refl (fun _ => False) w17).alloc _) (fun _ _ h => h)).rs BD.out (by have := DL.out; omega))).mono ?_
              rintro e w18 ⟨rv, rfl, hrv, hk0⟩
              have hk := ((Kept.refl (fun _ => False) w17).alloc (.cells #[.pointer (some ⟨wo.heap.size, 0, none⟩)] 27)).trans hk0
              rw [SPY.out] at hrv
              have RV := hid hrv.lies
              have CV18 := hid (CV17.out.same hk)
              have S18 := hid (S17.out.same hk)
              have X18 := hid (X17.out.kept hk (fun _ _ h => h))
              have K18 := hid (K17.out.trans hk)
              clear hrv hk hk0 S17 X17 K17 CV17
              go_wp2_with fail
              refine (same_any CV18.out RV.out).mono ?_
              rintro e w19 ⟨rfl, hk⟩
              have S19 := hid (S18.out.same hk)
              have X19 := hid (X18.out.kept hk (fun _ _ h => h))
              have K19 := hid (K18.out.trans hk)
              clear CV18 RV
              clear hk S18 X18 K18
              have hp19 := (K19.out.block pb (row_lt PB.out) id).trans PB.out
              have hq19 := (K19.out.block (pb + 1) (row_lt QB.out) id).trans QB.out
              have hr19 := (K19.out.block (pb + 1 + 1) (row_lt RB.out) id).trans RB.out
              obtain ⟨m0, m1, mf⟩ := cell2 hp19
              obtain ⟨m2, m3, mg⟩ := cell2 hq19
              have hlt3 := row_lt RB.out
              have hone : One N0 w19 sb wo.heap.size C := ⟨S19.out.setN (fun g h1 h2 => by rw [hN0]; have := HWR.out; constructor <;> omega), ⟨_, by rw [← DA.out]; exact X19.out, fun g hg => by rw [hN0]; have := (HF.out g hg).1; constructor <;> omega⟩, hokC, BC.out, by rw [HC.out]; omega⟩
              have kk : ∀ u v : Value, Kept (fun g => ¬ N0 g) w19 ((w19.setCell ⟨pb, 0, none⟩ u).setCell ⟨pb + 1, 0, none⟩ v) := fun u v => ((Kept.refl (fun g => ¬ N0 g) w19).setCell (.inl (by rw [hN0]; simp)) u).setCell (.inl (by rw [hN0]; simp)) v
              have HP := hid hp19; have HQ := hid hq19; have HR := hid hr19; have ONE := hid hone; have KKK := hid kk
              clear hp19 hq19 hr19 hone kk
              go_wp2
              go_roundw
              case rel =>
                have b1 : Below W.heap.size W ((w19.setCell ⟨pb, 0, none⟩ (.pointer (some ⟨sb, 0, none⟩))).setCell ⟨pb + 1, 0, none⟩ (.pointer (some ⟨wo.heap.size, 0, none⟩))) := ((HB.out.trans (K19.out.below (B := W.heap.size) hwo (fun _ h => h.elim))).setCell (p := ⟨pb, 0, none⟩) hWp _).setCell (p := ⟨pb + 1, 0, none⟩) (by simp only; omega) _
                obtain ⟨t1, t2, t3⟩ := two_stores0 HP.out HQ.out HR.out (.pointer (some ⟨sb, 0, none⟩)) (.pointer (some ⟨wo.heap.size, 0, none⟩))
                have o1 : One N0 ((w19.setCell ⟨pb, 0, none⟩ (.pointer (some ⟨sb, 0, none⟩))).setCell ⟨pb + 1, 0, none⟩ (.pointer (some ⟨wo.heap.size, 0, none⟩))) sb wo.heap.size (A.take 25) := by rw [← CD.out]; exact ONE.out.kept (KKK.out _ _)
                exact ⟨1, _, _, _, _, by omega, by go_num, b1, t1, t2, t3, fun _ => ⟨sb, wo.heap.size, rfl, rfl, o1⟩, fun h => by omega⟩
              case measure => simp [intOf]
            · have hbC : okL C = false := by simpa using hokC
              obtain rfl := hbad hbC
              have M7 := hid (HM.out.kept hk (fun _ _ h => h)); have K7 := hid (HK.out.trans hk)
              clear hok hbad hk
              rw [hbC]
              go_wp2_with fail
              refine (conv_any M7.out.lies (by rw [HC.out]; omega)).mono ?_
              rintro e w8 ⟨cv, rfl, hcv, hk⟩
              have K8 := hid (K7.out.trans hk)
              go_wp2_with fail
              refine (same_any hcv.lies (LCC.out w8 (HB.out.trans (K8.out.below (B := W.heap.size) hwo (fun _ h => h.elim))))).mono ?_
              rintro e w9 ⟨rfl, hk9⟩
              have K9 := hid (K8.out.trans hk9)
              clear hk hk9 hcv
              go_wp2
              go_ret
              exact ⟨rfl, HB.out.trans (K9.out.below (B := W.heap.size) hwo (fun _ h => h.elim))⟩
    · by_cases h1 : k = 1
      · have ONE0 := hid (c1 (by omega))
        subst h1
        clear c1 c2 hk h0
        have hlen := LB.out
        obtain ⟨_, _, ee, hac, _⟩ := hlen
        simp only [Value.slice.injEq] at ee
        obtain ⟨rfl, _, rfl⟩ := ee
        by_cases h25 : (25 : Int) < (B.length : Int)
        · have hac2 : (25 : Int) ≤ (bc : Int) := by omega
          obtain ⟨C, hCdef⟩ : ∃ C, C = B.take 25 := ⟨_, rfl⟩
          have hC : C.length = 25 := by rw [hCdef]; simp; omega
          have hlc : Lies (fun g => W.heap.size ≤ g) W 2 (.slice bo 25 bc) 25 (scells C) := by
            have := LB.out.take (m := 25) (by omega)
            rw [← scells_take] at this
            have e : B.take 25 = C := by exact hCdef.symm
            rw [e] at this
            exact this
          have hbc : ∀ x ∈ C, B32 x := fun x hx => BB.out x (by rw [hCdef] at hx; exact List.mem_of_mem_take hx)
          have hm25 : 25 ≤ 25 := by omega
          have LC := hid hlc; have BC := hid hbc; have HC := hid hC; have CD := hid hCdef
          clear hlc hbc hC hCdef
          go_wp2_with fail
          obtain ⟨wo, rfl⟩ : ∃ wo : World, wo = wr := ⟨_, rfl⟩
          have X0 := hid (show RefAt (fun g => g = wo.heap.size) (wo.alloc (.cells #[.slice none 0 0] 29)) wo.heap.size [] from ⟨⟨none, 0, row_new _ _, by simpa [dcells] using Own.nil _ _ _, by simp [Value.ownBlock]⟩, rfl⟩)
          go_loopw [9, 11, 45] (fun mine bad i wr => ∃ (j : Nat) (F : Nat → Prop), j ≤ 25 ∧ i = .int .i64 j ∧ bad = .bool (!okL (C.take j)) ∧ Kept (fun _ => False) wo wr ∧ Fresh wo.heap.size wr mine (C.take j) ∧ RefAt F wr wo.heap.size (doAll (C.take j)) ∧ (∀ g, F g → wo.heap.size ≤ g ∧ g < wr.heap.size) ∧ (∀ g, mine.ownBlock = some g → ¬ F g)) (fun _ _ i _ => 25 - (intOf i).toNat)
          case atStart => exact ⟨0, _, Nat.zero_le _, rfl, by simp [okL], (Kept.refl _ _).alloc _, by simpa using Fresh.nil _ _, X0.out, fun g hg => by subst hg; exact ⟨Nat.le_refl _, by simp⟩, by simp [Value.ownBlock]⟩
          case round =>
            clear X0 d0 d1
            obtain ⟨j, F, hj, rfl, rfl, hkp, hmine, hx, hF, hmF⟩ := hrel
            have HK := hid hkp; have HX := hid hx; have HF := hid hF; have HM := hid hmine
            obtain ⟨mo, mc, rfl, hmo, hmf⟩ := hmine
            have HMO := hid hmo; have HMF := hid hmf; have HNF := hid hmF
            clear hkp hx hF hmF hmo hmf
            by_cases hlt : j < 25
            · obtain ⟨g1, o1, q1, e1, n1, n2, hnF, _, z1⟩ := LC.out.cell (by omega)
              simp only [Value.slice.injEq] at e1
              obtain ⟨rfl, _, rfl⟩ := e1
              have hltC : j < C.length := by rw [HC.out]; exact hlt
              obtain ⟨x0, x1⟩ := scells_at C j C[j] (by simp [hltC])
              have y0 := HK.out.cell ((below_kept HB.out).cell (z1 _ _ x0) hnF) id
              have y1 := HK.out.cell ((below_kept HB.out).cell (z1 _ _ x1) hnF) id
              have hb32 := BC.out _ (List.getElem_mem hltC)
              have htk : C.take (j + 1) = C.take j ++ [C[j]] := List.take_succ_eq_append_getElem hltC
              have hdt : doAll (C.take (j + 1)) = doD (doAll (C.take j)) C[j].1 C[j].2 true := by rw [htk, doAll_snoc]
              have hok : okL (C.take (j + 1)) = (okL (C.take j) && decide (C[j].1 ≤ C[j].2)) := by rw [htk, okL_snoc]
              have hdl := doAll_len (C.take j)
              have hlj : (C.take j).length = j := by simp; omega
              obtain ⟨⟨p, q⟩, hpq⟩ : ∃ x, C[j] = x := ⟨_, rfl⟩
              rw [hpq] at y0 y1 hb32 htk hdt hok
              simp only [← Nat.add_assoc] at y0 y1 hdt hok
              obtain ⟨b1, b2, b3, b4⟩ := hb32
              simp only at b1 b2 b3 b4
              have HTK := hid htk; have HDT := hid hdt; have HOK := hid hok; have HLJ := hid hlj
              clear x0 x1 z1 hpq htk hdt hok hnF hltC hlj
              go_wp2_with (at_builtin; refine wpList_app (o := ⟨some 52, _, _, _, _, _⟩) rfl (.tmp 49) (.tmp 51) 37 rfl 46 (.agg #[.int .u32 0, .int .u32 0]) 2 8 Try.underlying37 infoS rfl (by decide) (.slice mo (C.take j).length mc) (C.take j).length (scells (C.take j)) (by simp [Act.eval, Act.put]) (by exact (HMO.out.alloc _).alloc _) (.slice (some ⟨wr.heap.size + 1, 0, none⟩) 1 1) (by simp [Act.eval, Act.put]) 1 [.int .u32 p, .int .u32 q] (by exact src_two' _ _ rfl rfl (by simp)) (by unfold maxLen; simp; omega) (by simp; omega) ?_; intro a3 c3 w3 ho3 hk3 hf3 _; have HO3 := hid ho3; have HF3 := hid hf3; have HK3 := hid hk3; have u0 := hk3.cell (p := ⟨wr.heap.size, 0, none⟩) (v := .int .u32 p) (by simp) (fun e => by have : wr.heap.size < wr.heap.size := (HM.out.lt e).2; omega); have u1 := hk3.cell (p := ⟨wr.heap.size, 1, none⟩) (v := .int .u32 q) (by simp) (fun e => by have : wr.heap.size < wr.heap.size := (HM.out.lt e).2; omega); clear ho3 hk3 hf3)
              have hx3 : RefAt F w3 wo.heap.size (doAll (C.take j)) := (HX.out.kept (((Kept.refl (fun _ => False) wr).alloc _).alloc _) (fun _ _ h => h)).kept HK3.out (fun g hg e => HNF.out g e hg)
              have hsz3 := HK3.out.size
              simp only [World.size_alloc] at hsz3
              have HX3 := hid hx3; clear hx3
              go_wp2_with fail
              refine (do_any HX3.out (by have := HLJ.out; omega) p q true).mono ?_
              rintro e w6 ⟨rfl, hx6, hk6⟩
              rw [← HDT.out] at hx6
              have HX6 := hid hx6.lt
              have ho := HO3.out
              rw [show scells (C.take j) ++ [.int .u32 p, .int .u32 q] = scells (C.take (j + 1)) by rw [HTK.out, scells_app]; rfl, show (C.take j).length + 1 = (C.take (j + 1)).length by rw [HTK.out]; simp] at ho
              have hf := HF3.out
              rw [show (C.take j).length + 1 = (C.take (j + 1)).length by rw [HTK.out]; simp] at hf
              have hnew : ∀ g, (Value.slice a3 (C.take (j + 1)).length c3).ownBlock = some g → ¬ F g := fun g hg hFg => by
                rcases hf g hg with h | h
                · exact HNF.out g h hFg
                · have := (HF.out g hFg).2; (try simp at h); omega
              have hbase : ∀ g, (Value.slice a3 (C.take (j + 1)).length c3).ownBlock = some g → wo.heap.size ≤ g := fun g hg => by
                rcases hf g hg with h | h
                · exact HMF.out g h
                · have := HK.out.size; (try simp at h); omega
              have HM6 := hid (ho.kept hk6 hnew)
              have HNW := hid (show ∀ g, (Value.slice a3 (C.take (j + 1)).length c3).ownBlock = some g → ¬ ((F g ∨ w3.heap.size ≤ g) ∧ g < w6.heap.size) from fun g hg h2 => by
                rcases h2.1 with h | h
                · exact hnew g hg h
                · have := ho.lt hg; omega)
              have HBS := hid hbase
              have HK6 := hid (Kept.trans' (F := fun _ => False) (Kept.trans' (F := fun _ => False) ((HK.out.alloc _).alloc _) HK3.out (fun i hi => Or.inr (HMF.out i hi))) hk6 (fun i hi => Or.inr (HF.out i hi).1))
              have hs6 := hk6.size
              have hlj1 : (C.take j).length + 1 = (C.take (j + 1)).length := by rw [HTK.out]; simp
              clear hx6 hk6 ho hf hnew hbase
              have HFB := hid (show ∀ g, ((F g ∨ w3.heap.size ≤ g) ∧ g < w6.heap.size) → wo.heap.size ≤ g ∧ g < w6.heap.size from fun g hg => ⟨by
                rcases hg.1 with h | h
                · exact (HF.out g h).1
                · have := HK.out.size; omega, hg.2⟩)
              have hj1 : (C.take (j + 1)).length = j + 1 := by rw [← hlj1, HLJ.out]
              have HJ1 := hid hj1; clear hj1 hlj1
              by_cases hle : q < p
              · have hc : chk p q = 1 := by simp [chk, hle]
                rw [hc]
                have hbad : okL (C.take (j + 1)) = false := by rw [HOK.out]; simp; intro _; omega
                have HBAD := hid hbad; clear hbad
                go_wp2
                go_roundw
                case rel => exact ⟨j + 1, _, hlt, by go_num, by rw [HBAD.out]; rfl, HK6.out, ⟨a3, c3, by rw [HJ1.out]; congr 1; have := HC.out; omega, HM6.out, HBS.out⟩, HX6.out, HFB.out, by have := HNW.out; rw [HJ1.out] at this; rw [show min j C.length + 1 = j + 1 by have := HC.out; omega]; exact this⟩
                case measure => simp [intOf]; omega
              · have hc : chk p q = 0 := by simp [chk, hle]
                rw [hc]
                have hbad : okL (C.take (j + 1)) = okL (C.take j) := by rw [HOK.out]; simp; intro _; omega
                have HBAD := hid hbad; clear hbad
                go_wp2
                go_roundw
                case rel => exact ⟨j + 1, _, hlt, by go_num, by rw [HBAD.out], HK6.out, ⟨a3, c3, by rw [HJ1.out]; congr 1; have := HC.out; omega, HM6.out, HBS.out⟩, HX6.out, HFB.out, by have := HNW.out; rw [HJ1.out] at this; rw [show min j C.length + 1 = j + 1 by have := HC.out; omega]; exact this⟩
                case measure => simp [intOf]; omega
            · obtain rfl : j = 25 := by omega
              have htC : C.take 25 = C := List.take_of_length_le (by rw [HC.out]; exact Nat.le_refl _)
              rw [htC] at HM HX HMO HMF HNF ⊢
              have hwo : W.heap.size ≤ wo.heap.size := HB.out.size
              have LCC := hid (show ∀ w, Below W.heap.size W w → Lies (fun g => W.heap.size ≤ g) w 2 _ C.length (scells C) from fun w hb => by rw [HC.out]; exact LC.out.kept (below_kept hb) (fun _ _ h => h))
              have HWR := hid (show pb + 1 + 1 < wr.heap.size from Nat.lt_of_lt_of_le (row_lt RB.out) HK.out.size)
              go_wp2_with fail
              refine (of_any (L := C) HM.out.lies BC.out).mono ?_
              rintro e w7 ⟨hok, hbad, hk⟩
              by_cases hokC : okL C = true
              · obtain ⟨sb, rfl, hs⟩ := hok hokC
                have S7 := hid hs; have M7 := hid (HM.out.kept hk (fun _ _ h => h)); have X7 := hid (HX.out.kept hk (fun _ _ h => h)); have K7 := hid (HK.out.trans hk)
                have hbd := yes_bd hokC BC.out
                have hda := doAll_ok C hokC
                rw [← hda] at hbd
                have BD := hid hbd; have DA := hid hda
                have DL := hid (show (doAll C).length ≤ 25 by have := doAll_len C; have := HC.out; omega)
                have hspy : spansD [(wo.heap.size, doAll C)] = addAll [] C := by rw [hda]; exact spans_yes hokC BC.out _
                have SPY := hid hspy
                clear hs hk hbd hda hspy hok hbad HM HX HK HMO HMF HNF
                rw [hokC]
                have gS := S7.out.g
                have hag := again gS
                have nS := gS.len
                have AG := hid hag; clear gS hag
                go_wp2_with fail
                refine (conv_any M7.out.lies (by rw [HC.out]; omega)).mono ?_
                rintro e w8 ⟨cv, rfl, hcv, hk⟩
                have S8 := hid (S7.out.same hk)
                have X8 := hid (X7.out.kept hk (fun _ _ h => h))
                have K8 := hid (K7.out.trans hk)
                have CV := hid hcv.lies
                clear hcv M7
                clear hk S7 X7 K7
                go_wp2_with fail
                refine (same_any CV.out (LCC.out w8 (HB.out.trans (K8.out.below (B := W.heap.size) hwo (fun _ h => h.elim))))).mono ?_
                rintro e w9 ⟨rfl, hk⟩
                have S9 := hid (S8.out.same hk)
                have X9 := hid (X8.out.kept hk (fun _ _ h => h))
                have K9 := hid (K8.out.trans hk)
                clear CV
                clear hk S8 X8 K8
                go_wp2_with fail
                refine (S9.out.spans).mono ?_
                rintro e w10 ⟨ua, uc, rfl, hf, hk⟩
                have S10 := hid (S9.out.same hk)
                have X10 := hid (X9.out.kept hk (fun _ _ h => h))
                have K10 := hid (K9.out.trans hk)
                have FU := hid hf
                clear hf
                clear hk S9 X9 K9
                go_wp2_with fail
                refine (conv_any FU.out.lies (by omega)).mono ?_
                rintro e w11 ⟨cv, rfl, hcv, hk⟩
                have S11 := hid (S10.out.same hk)
                have X11 := hid (X10.out.kept hk (fun _ _ h => h))
                have K11 := hid (K10.out.trans hk)
                have CV11 := hid hcv.lies
                clear hcv FU
                clear hk S10 X10 K10
                go_wp2_with fail
                refine (rspans_any (Rs := [(wo.heap.size, doAll C)]) (lies_ptr (cap := 1) (row_new w11 (.cells #[.pointer (some ⟨wo.heap.size, 0, none⟩)] 27)) rfl (by simp) (by decide)) ((X11.out.kept ((Kept.refl (fun _ => False) w11).alloc _) (fun _ _ h => h)).rs BD.out (by have := DL.out; omega))).mono ?_
                rintro e w12 ⟨rv, rfl, hrv, hk0⟩
                have hk := ((Kept.refl (fun _ => False) w11).alloc (.cells #[.pointer (some ⟨wo.heap.size, 0, none⟩)] 27)).trans hk0
                rw [SPY.out] at hrv
                have RV := hid hrv.lies
                have CV12 := hid (CV11.out.same hk)
                have S12 := hid (S11.out.same hk)
                have X12 := hid (X11.out.kept hk (fun _ _ h => h))
                have K12 := hid (K11.out.trans hk)
                clear hrv hk hk0 S11 X11 K11 CV11
                go_wp2_with fail
                refine (same_any CV12.out RV.out).mono ?_
                rintro e w13 ⟨rfl, hk⟩
                have S13 := hid (S12.out.same hk)
                have X13 := hid (X12.out.kept hk (fun _ _ h => h))
                have K13 := hid (K12.out.trans hk)
                clear CV12 RV
                clear hk S12 X12 K12
                go_wp2_with fail
                refine (S13.out.spans).mono ?_
                rintro e w14 ⟨ua, uc, rfl, hf, hk⟩
                have S14 := hid (S13.out.same hk)
                have X14 := hid (X13.out.kept hk (fun _ _ h => h))
                have K14 := hid (K13.out.trans hk)
                have FU := hid hf
                clear hf
                clear hk S13 X13 K13
                go_wp2_with fail
                refine (of_any (L := addAll [] C) FU.out.lies AG.out.2.2).mono ?_
                rintro e w15 ⟨hok, _, hk⟩
                obtain ⟨tb, rfl, ht⟩ := hok AG.out.2.1
                rw [AG.out.1] at ht
                have T15 := hid ht; have S15 := hid (S14.out.same hk); have X15 := hid (X14.out.kept hk (fun _ _ h => h)); have K15 := hid (K14.out.trans hk)
                clear hk ht hok S14 X14 K14 FU
                go_wp2_with fail
                refine (T15.out.spans).mono ?_
                rintro e w16 ⟨ua, uc, rfl, hf, hk⟩
                have S16 := hid (S15.out.same hk)
                have X16 := hid (X15.out.kept hk (fun _ _ h => h))
                have K16 := hid (K15.out.trans hk)
                have FU := hid hf
                clear hf T15
                clear hk S15 X15 K15
                go_wp2_with fail
                refine (conv_any FU.out.lies (by omega)).mono ?_
                rintro e w17 ⟨cv, rfl, hcv, hk⟩
                have S17 := hid (S16.out.same hk)
                have X17 := hid (X16.out.kept hk (fun _ _ h => h))
                have K17 := hid (K16.out.trans hk)
                have CV17 := hid hcv.lies
                clear hcv FU
                clear hk S16 X16 K16
                go_wp2_with fail
                refine (rspans_any (Rs := [(wo.heap.size, doAll C)]) (lies_ptr (cap := 1) (row_new w17 (.cells #[.pointer (some ⟨wo.heap.size, 0, none⟩)] 27)) rfl (by simp) (by decide)) ((X17.out.kept ((Kept.refl (fun _ => False) w17).alloc _) (fun _ _ h => h)).rs BD.out (by have := DL.out; omega))).mono ?_
                rintro e w18 ⟨rv, rfl, hrv, hk0⟩
                have hk := ((Kept.refl (fun _ => False) w17).alloc (.cells #[.pointer (some ⟨wo.heap.size, 0, none⟩)] 27)).trans hk0
                rw [SPY.out] at hrv
                have RV := hid hrv.lies
                have CV18 := hid (CV17.out.same hk)
                have S18 := hid (S17.out.same hk)
                have X18 := hid (X17.out.kept hk (fun _ _ h => h))
                have K18 := hid (K17.out.trans hk)
                clear hrv hk hk0 S17 X17 K17 CV17
                go_wp2_with fail
                refine (same_any CV18.out RV.out).mono ?_
                rintro e w19 ⟨rfl, hk⟩
                have S19 := hid (S18.out.same hk)
                have X19 := hid (X18.out.kept hk (fun _ _ h => h))
                have K19 := hid (K18.out.trans hk)
                clear CV18 RV
                clear hk S18 X18 K18
                have hp19 := (K19.out.block pb (row_lt PB.out) id).trans PB.out
                have hq19 := (K19.out.block (pb + 1) (row_lt QB.out) id).trans QB.out
                have hr19 := (K19.out.block (pb + 1 + 1) (row_lt RB.out) id).trans RB.out
                obtain ⟨m0, m1, mf⟩ := cell2 hp19
                obtain ⟨m2, m3, mg⟩ := cell2 hq19
                have hlt3 := row_lt RB.out
                have hone : One N0 w19 sb wo.heap.size C := ⟨S19.out.setN (fun g h1 h2 => by rw [hN0]; have := HWR.out; constructor <;> omega), ⟨_, by rw [← DA.out]; exact X19.out, fun g hg => by rw [hN0]; have := (HF.out g hg).1; constructor <;> omega⟩, hokC, BC.out, by rw [HC.out]; omega⟩
                have kk : ∀ u v : Value, Kept (fun g => ¬ N0 g) w19 ((w19.setCell ⟨pb, 1, none⟩ u).setCell ⟨pb + 1, 1, none⟩ v) := fun u v => ((Kept.refl (fun g => ¬ N0 g) w19).setCell (.inl (by rw [hN0]; simp)) u).setCell (.inl (by rw [hN0]; simp)) v
                have HP := hid hp19; have HQ := hid hq19; have HR := hid hr19; have ONE := hid hone; have KKK := hid kk
                clear hp19 hq19 hr19 hone kk
                go_wp2
                go_roundw
                case rel =>
                  have b1 : Below W.heap.size W ((w19.setCell ⟨pb, 1, none⟩ (.pointer (some ⟨sb, 0, none⟩))).setCell ⟨pb + 1, 1, none⟩ (.pointer (some ⟨wo.heap.size, 0, none⟩))) := ((HB.out.trans (K19.out.below (B := W.heap.size) hwo (fun _ h => h.elim))).setCell (p := ⟨pb, 1, none⟩) hWp _).setCell (p := ⟨pb + 1, 1, none⟩) (by simp only; omega) _
                  obtain ⟨t1, t2, t3⟩ := two_stores1 HP.out HQ.out HR.out (.pointer (some ⟨sb, 0, none⟩)) (.pointer (some ⟨wo.heap.size, 0, none⟩))
                  have o1 : One N0 ((w19.setCell ⟨pb, 1, none⟩ (.pointer (some ⟨sb, 0, none⟩))).setCell ⟨pb + 1, 1, none⟩ (.pointer (some ⟨wo.heap.size, 0, none⟩))) sb wo.heap.size (B.take 25) := by rw [← CD.out]; exact ONE.out.kept (KKK.out _ _)
                  obtain ⟨s0, x0, e1, e2, ho⟩ := ONE0.out
                  exact ⟨2, _, _, _, _, by omega, by go_num, b1, t1, t2, t3, fun _ => ⟨s0, x0, e1, e2, (ho.same K19.out).kept (KKK.out _ _)⟩, fun _ => ⟨sb, wo.heap.size, rfl, rfl, o1⟩⟩
                case measure => simp [intOf]
              · have hbC : okL C = false := by simpa using hokC
                obtain rfl := hbad hbC
                have M7 := hid (HM.out.kept hk (fun _ _ h => h)); have K7 := hid (HK.out.trans hk)
                clear hok hbad hk
                rw [hbC]
                go_wp2_with fail
                refine (conv_any M7.out.lies (by rw [HC.out]; omega)).mono ?_
                rintro e w8 ⟨cv, rfl, hcv, hk⟩
                have K8 := hid (K7.out.trans hk)
                go_wp2_with fail
                refine (same_any hcv.lies (LCC.out w8 (HB.out.trans (K8.out.below (B := W.heap.size) hwo (fun _ h => h.elim))))).mono ?_
                rintro e w9 ⟨rfl, hk9⟩
                have K9 := hid (K8.out.trans hk9)
                clear hk hk9 hcv
                go_wp2
                go_ret
                exact ⟨rfl, HB.out.trans (K9.out.below (B := W.heap.size) hwo (fun _ h => h.elim))⟩
        · have h25' : B.length ≤ 25 := by omega
          have hac2 : (B.length : Int) ≤ (bc : Int) := by omega
          obtain ⟨C, hCdef⟩ : ∃ C, C = B.take 25 := ⟨_, rfl⟩
          have hC : C.length = B.length := by rw [hCdef]; simp; omega
          have hlc : Lies (fun g => W.heap.size ≤ g) W 2 (.slice bo B.length bc) B.length (scells C) := by
            have := LB.out.take (m := B.length) (by omega)
            rw [← scells_take] at this
            have e : B.take B.length = C := by rw [hCdef, List.take_length]; exact (List.take_of_length_le (by omega)).symm
            rw [e] at this
            exact this
          have hbc : ∀ x ∈ C, B32 x := fun x hx => BB.out x (by rw [hCdef] at hx; exact List.mem_of_mem_take hx)
          have hm25 : B.length ≤ 25 := by omega
          have LC := hid hlc; have BC := hid hbc; have HC := hid hC; have CD := hid hCdef
          clear hlc hbc hC hCdef
          go_wp2_with fail
          obtain ⟨wo, rfl⟩ : ∃ wo : World, wo = wr := ⟨_, rfl⟩
          have X0 := hid (show RefAt (fun g => g = wo.heap.size) (wo.alloc (.cells #[.slice none 0 0] 29)) wo.heap.size [] from ⟨⟨none, 0, row_new _ _, by simpa [dcells] using Own.nil _ _ _, by simp [Value.ownBlock]⟩, rfl⟩)
          go_loopw [9, 11, 45] (fun mine bad i wr => ∃ (j : Nat) (F : Nat → Prop), j ≤ B.length ∧ i = .int .i64 j ∧ bad = .bool (!okL (C.take j)) ∧ Kept (fun _ => False) wo wr ∧ Fresh wo.heap.size wr mine (C.take j) ∧ RefAt F wr wo.heap.size (doAll (C.take j)) ∧ (∀ g, F g → wo.heap.size ≤ g ∧ g < wr.heap.size) ∧ (∀ g, mine.ownBlock = some g → ¬ F g)) (fun _ _ i _ => B.length - (intOf i).toNat)
          case atStart => exact ⟨0, _, Nat.zero_le _, rfl, by simp [okL], (Kept.refl _ _).alloc _, by simpa using Fresh.nil _ _, X0.out, fun g hg => by subst hg; exact ⟨Nat.le_refl _, by simp⟩, by simp [Value.ownBlock]⟩
          case round =>
            clear X0 d0 d1
            obtain ⟨j, F, hj, rfl, rfl, hkp, hmine, hx, hF, hmF⟩ := hrel
            have HK := hid hkp; have HX := hid hx; have HF := hid hF; have HM := hid hmine
            obtain ⟨mo, mc, rfl, hmo, hmf⟩ := hmine
            have HMO := hid hmo; have HMF := hid hmf; have HNF := hid hmF
            clear hkp hx hF hmF hmo hmf
            by_cases hlt : j < B.length
            · obtain ⟨g1, o1, q1, e1, n1, n2, hnF, _, z1⟩ := LC.out.cell (by omega)
              simp only [Value.slice.injEq] at e1
              obtain ⟨rfl, _, rfl⟩ := e1
              have hltC : j < C.length := by rw [HC.out]; exact hlt
              obtain ⟨x0, x1⟩ := scells_at C j C[j] (by simp [hltC])
              have y0 := HK.out.cell ((below_kept HB.out).cell (z1 _ _ x0) hnF) id
              have y1 := HK.out.cell ((below_kept HB.out).cell (z1 _ _ x1) hnF) id
              have hb32 := BC.out _ (List.getElem_mem hltC)
              have htk : C.take (j + 1) = C.take j ++ [C[j]] := List.take_succ_eq_append_getElem hltC
              have hdt : doAll (C.take (j + 1)) = doD (doAll (C.take j)) C[j].1 C[j].2 true := by rw [htk, doAll_snoc]
              have hok : okL (C.take (j + 1)) = (okL (C.take j) && decide (C[j].1 ≤ C[j].2)) := by rw [htk, okL_snoc]
              have hdl := doAll_len (C.take j)
              have hlj : (C.take j).length = j := by simp; omega
              obtain ⟨⟨p, q⟩, hpq⟩ : ∃ x, C[j] = x := ⟨_, rfl⟩
              rw [hpq] at y0 y1 hb32 htk hdt hok
              simp only [← Nat.add_assoc] at y0 y1 hdt hok
              obtain ⟨b1, b2, b3, b4⟩ := hb32
              simp only at b1 b2 b3 b4
              have HTK := hid htk; have HDT := hid hdt; have HOK := hid hok; have HLJ := hid hlj
              clear x0 x1 z1 hpq htk hdt hok hnF hltC hlj
              go_wp2_with (at_builtin; refine wpList_app (o := ⟨some 52, _, _, _, _, _⟩) rfl (.tmp 49) (.tmp 51) 37 rfl 46 (.agg #[.int .u32 0, .int .u32 0]) 2 8 Try.underlying37 infoS rfl (by decide) (.slice mo (C.take j).length mc) (C.take j).length (scells (C.take j)) (by simp [Act.eval, Act.put]) (by exact (HMO.out.alloc _).alloc _) (.slice (some ⟨wr.heap.size + 1, 0, none⟩) 1 1) (by simp [Act.eval, Act.put]) 1 [.int .u32 p, .int .u32 q] (by exact src_two' _ _ rfl rfl (by simp)) (by unfold maxLen; simp; omega) (by simp; omega) ?_; intro a3 c3 w3 ho3 hk3 hf3 _; have HO3 := hid ho3; have HF3 := hid hf3; have HK3 := hid hk3; have u0 := hk3.cell (p := ⟨wr.heap.size, 0, none⟩) (v := .int .u32 p) (by simp) (fun e => by have : wr.heap.size < wr.heap.size := (HM.out.lt e).2; omega); have u1 := hk3.cell (p := ⟨wr.heap.size, 1, none⟩) (v := .int .u32 q) (by simp) (fun e => by have : wr.heap.size < wr.heap.size := (HM.out.lt e).2; omega); clear ho3 hk3 hf3)
              have hx3 : RefAt F w3 wo.heap.size (doAll (C.take j)) := (HX.out.kept (((Kept.refl (fun _ => False) wr).alloc _).alloc _) (fun _ _ h => h)).kept HK3.out (fun g hg e => HNF.out g e hg)
              have hsz3 := HK3.out.size
              simp only [World.size_alloc] at hsz3
              have HX3 := hid hx3; clear hx3
              go_wp2_with fail
              refine (do_any HX3.out (by have := HLJ.out; omega) p q true).mono ?_
              rintro e w6 ⟨rfl, hx6, hk6⟩
              rw [← HDT.out] at hx6
              have HX6 := hid hx6.lt
              have ho := HO3.out
              rw [show scells (C.take j) ++ [.int .u32 p, .int .u32 q] = scells (C.take (j + 1)) by rw [HTK.out, scells_app]; rfl, show (C.take j).length + 1 = (C.take (j + 1)).length by rw [HTK.out]; simp] at ho
              have hf := HF3.out
              rw [show (C.take j).length + 1 = (C.take (j + 1)).length by rw [HTK.out]; simp] at hf
              have hnew : ∀ g, (Value.slice a3 (C.take (j + 1)).length c3).ownBlock = some g → ¬ F g := fun g hg hFg => by
                rcases hf g hg with h | h
                · exact HNF.out g h hFg
                · have := (HF.out g hFg).2; (try simp at h); omega
              have hbase : ∀ g, (Value.slice a3 (C.take (j + 1)).length c3).ownBlock = some g → wo.heap.size ≤ g := fun g hg => by
                rcases hf g hg with h | h
                · exact HMF.out g h
                · have := HK.out.size; (try simp at h); omega
              have HM6 := hid (ho.kept hk6 hnew)
              have HNW := hid (show ∀ g, (Value.slice a3 (C.take (j + 1)).length c3).ownBlock = some g → ¬ ((F g ∨ w3.heap.size ≤ g) ∧ g < w6.heap.size) from fun g hg h2 => by
                rcases h2.1 with h | h
                · exact hnew g hg h
                · have := ho.lt hg; omega)
              have HBS := hid hbase
              have HK6 := hid (Kept.trans' (F := fun _ => False) (Kept.trans' (F := fun _ => False) ((HK.out.alloc _).alloc _) HK3.out (fun i hi => Or.inr (HMF.out i hi))) hk6 (fun i hi => Or.inr (HF.out i hi).1))
              have hs6 := hk6.size
              have hlj1 : (C.take j).length + 1 = (C.take (j + 1)).length := by rw [HTK.out]; simp
              clear hx6 hk6 ho hf hnew hbase
              have HFB := hid (show ∀ g, ((F g ∨ w3.heap.size ≤ g) ∧ g < w6.heap.size) → wo.heap.size ≤ g ∧ g < w6.heap.size from fun g hg => ⟨by
                rcases hg.1 with h | h
                · exact (HF.out g h).1
                · have := HK.out.size; omega, hg.2⟩)
              have hj1 : (C.take (j + 1)).length = j + 1 := by rw [← hlj1, HLJ.out]
              have HJ1 := hid hj1; clear hj1 hlj1
              by_cases hle : q < p
              · have hc : chk p q = 1 := by simp [chk, hle]
                rw [hc]
                have hbad : okL (C.take (j + 1)) = false := by rw [HOK.out]; simp; intro _; omega
                have HBAD := hid hbad; clear hbad
                go_wp2
                go_roundw
                case rel => exact ⟨j + 1, _, hlt, by go_num, by rw [HBAD.out]; rfl, HK6.out, ⟨a3, c3, by rw [HJ1.out]; congr 1; have := HC.out; omega, HM6.out, HBS.out⟩, HX6.out, HFB.out, by have := HNW.out; rw [HJ1.out] at this; rw [show min j C.length + 1 = j + 1 by have := HC.out; omega]; exact this⟩
                case measure => simp [intOf]; omega
              · have hc : chk p q = 0 := by simp [chk, hle]
                rw [hc]
                have hbad : okL (C.take (j + 1)) = okL (C.take j) := by rw [HOK.out]; simp; intro _; omega
                have HBAD := hid hbad; clear hbad
                go_wp2
                go_roundw
                case rel => exact ⟨j + 1, _, hlt, by go_num, by rw [HBAD.out], HK6.out, ⟨a3, c3, by rw [HJ1.out]; congr 1; have := HC.out; omega, HM6.out, HBS.out⟩, HX6.out, HFB.out, by have := HNW.out; rw [HJ1.out] at this; rw [show min j C.length + 1 = j + 1 by have := HC.out; omega]; exact this⟩
                case measure => simp [intOf]; omega
            · obtain rfl : j = B.length := by omega
              have htC : C.take B.length = C := List.take_of_length_le (by rw [HC.out]; exact Nat.le_refl _)
              rw [htC] at HM HX HMO HMF HNF ⊢
              have hwo : W.heap.size ≤ wo.heap.size := HB.out.size
              have LCC := hid (show ∀ w, Below W.heap.size W w → Lies (fun g => W.heap.size ≤ g) w 2 _ C.length (scells C) from fun w hb => by rw [HC.out]; exact LC.out.kept (below_kept hb) (fun _ _ h => h))
              have HWR := hid (show pb + 1 + 1 < wr.heap.size from Nat.lt_of_lt_of_le (row_lt RB.out) HK.out.size)
              go_wp2_with fail
              refine (of_any (L := C) HM.out.lies BC.out).mono ?_
              rintro e w7 ⟨hok, hbad, hk⟩
              by_cases hokC : okL C = true
              · obtain ⟨sb, rfl, hs⟩ := hok hokC
                have S7 := hid hs; have M7 := hid (HM.out.kept hk (fun _ _ h => h)); have X7 := hid (HX.out.kept hk (fun _ _ h => h)); have K7 := hid (HK.out.trans hk)
                have hbd := yes_bd hokC BC.out
                have hda := doAll_ok C hokC
                rw [← hda] at hbd
                have BD := hid hbd; have DA := hid hda
                have DL := hid (show (doAll C).length ≤ 25 by have := doAll_len C; have := HC.out; omega)
                have hspy : spansD [(wo.heap.size, doAll C)] = addAll [] C := by rw [hda]; exact spans_yes hokC BC.out _
                have SPY := hid hspy
                clear hs hk hbd hda hspy hok hbad HM HX HK HMO HMF HNF
                rw [hokC]
                have gS := S7.out.g
                have hag := again gS
                have nS := gS.len
                have AG := hid hag; clear gS hag
                go_wp2_with fail
                refine (conv_any M7.out.lies (by rw [HC.out]; omega)).mono ?_
                rintro e w8 ⟨cv, rfl, hcv, hk⟩
                have S8 := hid (S7.out.same hk)
                have X8 := hid (X7.out.kept hk (fun _ _ h => h))
                have K8 := hid (K7.out.trans hk)
                have CV := hid hcv.lies
                clear hcv M7
                clear hk S7 X7 K7
                go_wp2_with fail
                refine (same_any CV.out (LCC.out w8 (HB.out.trans (K8.out.below (B := W.heap.size) hwo (fun _ h => h.elim))))).mono ?_
                rintro e w9 ⟨rfl, hk⟩
                have S9 := hid (S8.out.same hk)
                have X9 := hid (X8.out.kept hk (fun _ _ h => h))
                have K9 := hid (K8.out.trans hk)
                clear CV
                clear hk S8 X8 K8
                go_wp2_with fail
                refine (S9.out.spans).mono ?_
                rintro e w10 ⟨ua, uc, rfl, hf, hk⟩
                have S10 := hid (S9.out.same hk)
                have X10 := hid (X9.out.kept hk (fun _ _ h => h))
                have K10 := hid (K9.out.trans hk)
                have FU := hid hf
                clear hf
                clear hk S9 X9 K9
                go_wp2_with fail
                refine (conv_any FU.out.lies (by omega)).mono ?_
                rintro e w11 ⟨cv, rfl, hcv, hk⟩
                have S11 := hid (S10.out.same hk)
                have X11 := hid (X10.out.kept hk (fun _ _ h => h))
                have K11 := hid (K10.out.trans hk)
                have CV11 := hid hcv.lies
                clear hcv FU
                clear hk S10 X10 K10
                go_wp2_with fail
                refine (rspans_any (Rs := [(wo.heap.size, doAll C)]) (lies_ptr (cap := 1) (row_new w11 (.cells #[.pointer (some ⟨wo.heap.size, 0, none⟩)] 27)) rfl (by simp) (by decide)) ((X11.out.kept ((Kept.refl (fun _ => False) w11).alloc _) (fun _ _ h => h)).rs BD.out (by have := DL.out; omega))).mono ?_
                rintro e w12 ⟨rv, rfl, hrv, hk0⟩
                have hk := ((Kept.refl (fun _ => False) w11).alloc (.cells #[.pointer (some ⟨wo.heap.size, 0, none⟩)] 27)).trans hk0
                rw [SPY.out] at hrv
                have RV := hid hrv.lies
                have CV12 := hid (CV11.out.same hk)
                have S12 := hid (S11.out.same hk)
                have X12 := hid (X11.out.kept hk (fun _ _ h => h))
                have K12 := hid (K11.out.trans hk)
                clear hrv hk hk0 S11 X11 K11 CV11
                go_wp2_with fail
                refine (same_any CV12.out RV.out).mono ?_
                rintro e w13 ⟨rfl, hk⟩
                have S13 := hid (S12.out.same hk)
                have X13 := hid (X12.out.kept hk (fun _ _ h => h))
                have K13 := hid (K12.out.trans hk)
                clear CV12 RV
                clear hk S12 X12 K12
                go_wp2_with fail
                refine (S13.out.spans).mono ?_
                rintro e w14 ⟨ua, uc, rfl, hf, hk⟩
                have S14 := hid (S13.out.same hk)
                have X14 := hid (X13.out.kept hk (fun _ _ h => h))
                have K14 := hid (K13.out.trans hk)
                have FU := hid hf
                clear hf
                clear hk S13 X13 K13
                go_wp2_with fail
                refine (of_any (L := addAll [] C) FU.out.lies AG.out.2.2).mono ?_
                rintro e w15 ⟨hok, _, hk⟩
                obtain ⟨tb, rfl, ht⟩ := hok AG.out.2.1
                rw [AG.out.1] at ht
                have T15 := hid ht; have S15 := hid (S14.out.same hk); have X15 := hid (X14.out.kept hk (fun _ _ h => h)); have K15 := hid (K14.out.trans hk)
                clear hk ht hok S14 X14 K14 FU
                go_wp2_with fail
                refine (T15.out.spans).mono ?_
                rintro e w16 ⟨ua, uc, rfl, hf, hk⟩
                have S16 := hid (S15.out.same hk)
                have X16 := hid (X15.out.kept hk (fun _ _ h => h))
                have K16 := hid (K15.out.trans hk)
                have FU := hid hf
                clear hf T15
                clear hk S15 X15 K15
                go_wp2_with fail
                refine (conv_any FU.out.lies (by omega)).mono ?_
                rintro e w17 ⟨cv, rfl, hcv, hk⟩
                have S17 := hid (S16.out.same hk)
                have X17 := hid (X16.out.kept hk (fun _ _ h => h))
                have K17 := hid (K16.out.trans hk)
                have CV17 := hid hcv.lies
                clear hcv FU
                clear hk S16 X16 K16
                go_wp2_with fail
                refine (rspans_any (Rs := [(wo.heap.size, doAll C)]) (lies_ptr (cap := 1) (row_new w17 (.cells #[.pointer (some ⟨wo.heap.size, 0, none⟩)] 27)) rfl (by simp) (by decide)) ((X17.out.kept ((Kept.refl (fun _ => False) w17).alloc _) (fun _ _ h => h)).rs BD.out (by have := DL.out; omega))).mono ?_
                rintro e w18 ⟨rv, rfl, hrv, hk0⟩
                have hk := ((Kept.refl (fun _ => False) w17).alloc (.cells #[.pointer (some ⟨wo.heap.size, 0, none⟩)] 27)).trans hk0
                rw [SPY.out] at hrv
                have RV := hid hrv.lies
                have CV18 := hid (CV17.out.same hk)
                have S18 := hid (S17.out.same hk)
                have X18 := hid (X17.out.kept hk (fun _ _ h => h))
                have K18 := hid (K17.out.trans hk)
                clear hrv hk hk0 S17 X17 K17 CV17
                go_wp2_with fail
                refine (same_any CV18.out RV.out).mono ?_
                rintro e w19 ⟨rfl, hk⟩
                have S19 := hid (S18.out.same hk)
                have X19 := hid (X18.out.kept hk (fun _ _ h => h))
                have K19 := hid (K18.out.trans hk)
                clear CV18 RV
                clear hk S18 X18 K18
                have hp19 := (K19.out.block pb (row_lt PB.out) id).trans PB.out
                have hq19 := (K19.out.block (pb + 1) (row_lt QB.out) id).trans QB.out
                have hr19 := (K19.out.block (pb + 1 + 1) (row_lt RB.out) id).trans RB.out
                obtain ⟨m0, m1, mf⟩ := cell2 hp19
                obtain ⟨m2, m3, mg⟩ := cell2 hq19
                have hlt3 := row_lt RB.out
                have hone : One N0 w19 sb wo.heap.size C := ⟨S19.out.setN (fun g h1 h2 => by rw [hN0]; have := HWR.out; constructor <;> omega), ⟨_, by rw [← DA.out]; exact X19.out, fun g hg => by rw [hN0]; have := (HF.out g hg).1; constructor <;> omega⟩, hokC, BC.out, by rw [HC.out]; omega⟩
                have kk : ∀ u v : Value, Kept (fun g => ¬ N0 g) w19 ((w19.setCell ⟨pb, 1, none⟩ u).setCell ⟨pb + 1, 1, none⟩ v) := fun u v => ((Kept.refl (fun g => ¬ N0 g) w19).setCell (.inl (by rw [hN0]; simp)) u).setCell (.inl (by rw [hN0]; simp)) v
                have HP := hid hp19; have HQ := hid hq19; have HR := hid hr19; have ONE := hid hone; have KKK := hid kk
                clear hp19 hq19 hr19 hone kk
                go_wp2
                go_roundw
                case rel =>
                  have b1 : Below W.heap.size W ((w19.setCell ⟨pb, 1, none⟩ (.pointer (some ⟨sb, 0, none⟩))).setCell ⟨pb + 1, 1, none⟩ (.pointer (some ⟨wo.heap.size, 0, none⟩))) := ((HB.out.trans (K19.out.below (B := W.heap.size) hwo (fun _ h => h.elim))).setCell (p := ⟨pb, 1, none⟩) hWp _).setCell (p := ⟨pb + 1, 1, none⟩) (by simp only; omega) _
                  obtain ⟨t1, t2, t3⟩ := two_stores1 HP.out HQ.out HR.out (.pointer (some ⟨sb, 0, none⟩)) (.pointer (some ⟨wo.heap.size, 0, none⟩))
                  have o1 : One N0 ((w19.setCell ⟨pb, 1, none⟩ (.pointer (some ⟨sb, 0, none⟩))).setCell ⟨pb + 1, 1, none⟩ (.pointer (some ⟨wo.heap.size, 0, none⟩))) sb wo.heap.size (B.take 25) := by rw [← CD.out]; exact ONE.out.kept (KKK.out _ _)
                  obtain ⟨s0, x0, e1, e2, ho⟩ := ONE0.out
                  exact ⟨2, _, _, _, _, by omega, by go_num, b1, t1, t2, t3, fun _ => ⟨s0, x0, e1, e2, (ho.same K19.out).kept (KKK.out _ _)⟩, fun _ => ⟨sb, wo.heap.size, rfl, rfl, o1⟩⟩
                case measure => simp [intOf]
              · have hbC : okL C = false := by simpa using hokC
                obtain rfl := hbad hbC
                have M7 := hid (HM.out.kept hk (fun _ _ h => h)); have K7 := hid (HK.out.trans hk)
                clear hok hbad hk
                rw [hbC]
                go_wp2_with fail
                refine (conv_any M7.out.lies (by rw [HC.out]; omega)).mono ?_
                rintro e w8 ⟨cv, rfl, hcv, hk⟩
                have K8 := hid (K7.out.trans hk)
                go_wp2_with fail
                refine (same_any hcv.lies (LCC.out w8 (HB.out.trans (K8.out.below (B := W.heap.size) hwo (fun _ h => h.elim))))).mono ?_
                rintro e w9 ⟨rfl, hk9⟩
                have K9 := hid (K8.out.trans hk9)
                clear hk hk9 hcv
                go_wp2
                go_ret
                exact ⟨rfl, HB.out.trans (K9.out.below (B := W.heap.size) hwo (fun _ h => h.elim))⟩
      · have h2 : k = 2 := by omega
        subst h2
        have C1 := hid (c1 (by omega)); have C2 := hid (c2 rfl)
        clear c1 c2 hk h0 h1 d0 d1
        obtain ⟨s0, x0, rfl, rfl, o0⟩ := C1.out
        obtain ⟨s1, x1, rfl, rfl, o1⟩ := C2.out
        clear C1 C2
        have hBm : W.heap.size ≤ wr.heap.size := HB.out.size
        have P0 := hid (show ∀ w, Below wr.heap.size wr w → SetN (fun g => g < wr.heap.size) w s0 (addAll [] (A.take 25)) from fun w hb => by
          obtain ⟨F, h1, _⟩ := o0.s
          exact ⟨_, (h1.lt).kept (below_kept hb) (fun g hg hx => by have := hg.2; omega), fun g hg => by have := hg.2; omega⟩)
        have P1 := hid (show ∀ w, Below wr.heap.size wr w → SetN (fun g => g < wr.heap.size) w s1 (addAll [] (B.take 25)) from fun w hb => by
          obtain ⟨F, h1, _⟩ := o1.s
          exact ⟨_, (h1.lt).kept (below_kept hb) (fun g hg hx => by have := hg.2; omega), fun g hg => by have := hg.2; omega⟩)
        have RR0 := hid (show ∀ w, Below wr.heap.size wr w → ∃ F, RefAt F w x0 (yes (A.take 25)) from fun w hb => by
          obtain ⟨F, h1, _⟩ := o0.r
          exact ⟨_, (h1.lt).kept (below_kept hb) (fun g hg hx => by have := hg.2; omega)⟩)
        have RR1 := hid (show ∀ w, Below wr.heap.size wr w → ∃ F, RefAt F w x1 (yes (B.take 25)) from fun w hb => by
          obtain ⟨F, h1, _⟩ := o1.r
          exact ⟨_, (h1.lt).kept (below_kept hb) (fun g hg hx => by have := hg.2; omega)⟩)
        have hy0 := yes_bd o0.ok o0.b; have hy1 := yes_bd o1.ok o1.b
        have hl0 : (yes (A.take 25)).length ≤ 1000000 := by simp [yes]; omega
        have hl1 : (yes (B.take 25)).length ≤ 1000000 := by simp [yes]; omega
        have R0 := hid (show ∀ w, Below wr.heap.size wr w → RsAt w [(x0, yes (A.take 25))] from fun w hb r hr => by
          simp at hr; subst hr; exact ⟨RR0.out w hb, hy0, hl0⟩)
        have R2 := hid (show ∀ w, Below wr.heap.size wr w → RsAt w [(x0, yes (A.take 25)), (x1, yes (B.take 25))] from fun w hb r hr => by
          simp at hr
          rcases hr with rfl | rfl
          · exact ⟨RR0.out w hb, hy0, hl0⟩
          · exact ⟨RR1.out w hb, hy1, hl1⟩)
        have hboth := both_yes o0.ok o0.b o1.ok o1.b x0 x1
        have SPY := hid (spans_yes o0.ok o0.b x0)
        have gm := (meet_law o0.g o1.g).1
        have ngm := gm.len
        have nS := hid o0.g.len
        have hdw := drop_whole gm
        have BOTH := hid hboth; have GM := hid gm; have DW := hid hdw
        have hlp := row_lt PB.out; have hlq := row_lt QB.out
        have CE := hid (show ∀ w, Below wr.heap.size wr w → (w.cell? ⟨pb, 0, none⟩ = some (.pointer (some ⟨s0, 0, none⟩)) ∧ w.cell? ⟨pb + 1, 0, none⟩ = some (.pointer (some ⟨x0, 0, none⟩))) from fun w hb => by
          have h1 := (cell2 PB.out).1; have h2 := (cell2 QB.out).1
          exact ⟨(below_kept hb).cell h1 (by simp only; omega), (below_kept hb).cell h2 (by simp only; omega)⟩)
        have CF := hid (show ∀ w, Below wr.heap.size wr w → (w.cell? ⟨pb, 1, none⟩ = some (.pointer (some ⟨s1, 0, none⟩)) ∧ w.cell? ⟨pb + 1, 1, none⟩ = some (.pointer (some ⟨x1, 0, none⟩))) from fun w hb => by
          have h1 := (cell2 PB.out).2.1; have h2 := (cell2 QB.out).2.1
          exact ⟨(below_kept hb).cell h1 (by simp only; omega), (below_kept hb).cell h2 (by simp only; omega)⟩)
        have B0 := hid (Below.refl wr.heap.size wr)
        clear hy0 hy1 hl0 hl1 hboth gm hdw hlp hlq o0 o1 RR0 RR1
        obtain ⟨d0, d2⟩ := CE.out _ B0.out
        obtain ⟨d1, d3⟩ := CF.out _ B0.out
        go_wp2_with fail
        refine (meetNN (P0.out _ B0.out) (P1.out _ B0.out)).mono ?_
        rintro e w1 ⟨rfl, hm, hk⟩
        have B1 := hid (B0.out.trans (hk.below (B := wr.heap.size) (Nat.le_refl _) (fun _ h => h.elim)))
        have M1 := hid hm
        clear hm hk d0 d1 d2 d3 B0
        obtain ⟨d0, d2⟩ := CE.out _ B1.out
        obtain ⟨d1, d3⟩ := CF.out _ B1.out
        go_wp2_with fail
        refine (meetNN (P1.out _ B1.out) (P0.out _ B1.out)).mono ?_
        rintro e w2 ⟨rfl, hm, hk⟩
        have B2 := hid (B1.out.trans (hk.below (B := wr.heap.size) B1.out.size (fun _ h => h.elim)))
        have hNN : ∃ ns, ns = w1.heap.size := ⟨_, rfl⟩
        have M2 := hid (M1.out.same hk); have T2 := hid hm
        clear hm hk d0 d1 d2 d3 B1 M1
        obtain ⟨d0, d2⟩ := CE.out _ B2.out
        obtain ⟨d1, d3⟩ := CF.out _ B2.out
        go_wp2_with fail
        refine (meet_none s0 _).mono ?_
        rintro e w3 ⟨rfl, rfl⟩
        go_wp2_with fail
        refine (rspans_any (Rs := [(x0, yes (A.take 25)), (x1, yes (B.take 25))]) (lies_ptr (cap := 2) (row_new w2 (.cells #[.pointer (some ⟨x0, 0, none⟩), .pointer (some ⟨x1, 0, none⟩)] 27)) rfl (by simp) (by decide)) (R2.out _ (B2.out.alloc B2.out.size _))).mono ?_
        rintro e w3 ⟨rv, rfl, hrv, hk0⟩
        have hk := ((Kept.refl (fun _ => False) w2).alloc (.cells #[.pointer (some ⟨x0, 0, none⟩), .pointer (some ⟨x1, 0, none⟩)] 27)).trans hk0
        have B3 := hid (B2.out.trans (hk.below (B := wr.heap.size) B2.out.size (fun _ h => h.elim)))
        rw [BOTH.out.1] at hrv
        have RV3 := hid hrv.lies
        have M3 := hid (M2.out.same hk); have T3 := hid (T2.out.same hk)
        clear hrv hk0 hk d0 d1 d2 d3 B2 M2 T2
        go_wp2_with fail
        refine (M3.out.spans).mono ?_
        rintro e w4 ⟨ua, uc, rfl, hf, hk⟩
        have B4 := hid (B3.out.trans (hk.below (B := wr.heap.size) B3.out.size (fun _ h => h.elim)))
        have M4 := hid (M3.out.same hk); have T4 := hid (T3.out.same hk); have RV4 := hid (RV3.out.same hk); have FU := hid hf
        clear hf hk B3 M3 T3 RV3
        go_wp2_with fail
        refine (conv_any FU.out.lies (by omega)).mono ?_
        rintro e w5 ⟨cv, rfl, hf, hk⟩
        have B5 := hid (B4.out.trans (hk.below (B := wr.heap.size) B4.out.size (fun _ h => h.elim)))
        have M5 := hid (M4.out.same hk); have T5 := hid (T4.out.same hk); have RV5 := hid (RV4.out.same hk); have CV := hid hf.lies
        clear hf hk B4 M4 T4 RV4 FU
        go_wp2_with fail
        refine (same_any CV.out RV5.out).mono ?_
        rintro e w6 ⟨rfl, hk⟩
        have B6 := hid (B5.out.trans (hk.below (B := wr.heap.size) B5.out.size (fun _ h => h.elim)))
        have M6 := hid (M5.out.same hk); have T6 := hid (T5.out.same hk); have RV6 := hid (RV5.out.same hk)
        clear hk B5 M5 T5 RV5 CV
        go_wp2_with fail
        refine (T6.out.spans).mono ?_
        rintro e w7 ⟨ua, uc, rfl, hf, hk⟩
        have B7 := hid (B6.out.trans (hk.below (B := wr.heap.size) B6.out.size (fun _ h => h.elim)))
        have heq : meet (addAll [] (B.take 25)) (addAll [] (A.take 25)) = meet (addAll [] (A.take 25)) (addAll [] (B.take 25)) := by rw [← BOTH.out.1, BOTH.out.2]
        rw [heq] at hf ⊢
        have M7 := hid (M6.out.same hk); have RV7 := hid (RV6.out.same hk); have FU := hid hf
        clear hf hk B6 M6 T6 RV6
        go_wp2_with fail
        refine (conv_any FU.out.lies (by omega)).mono ?_
        rintro e w8 ⟨cv, rfl, hf, hk⟩
        have B8 := hid (B7.out.trans (hk.below (B := wr.heap.size) B7.out.size (fun _ h => h.elim)))
        have M8 := hid (M7.out.same hk); have RV8 := hid (RV7.out.same hk); have CV := hid hf.lies
        clear hf hk B7 M7 RV7 FU
        go_wp2_with fail
        refine (same_any CV.out RV8.out).mono ?_
        rintro e w9 ⟨rfl, hk⟩
        have B9 := hid (B8.out.trans (hk.below (B := wr.heap.size) B8.out.size (fun _ h => h.elim)))
        have M9 := hid (M8.out.same hk)
        clear hk B8 M8 RV8 CV heq
        go_wp2_with fail
        refine (M9.out.drop 0 4294967295 (by decide) (by decide)).mono ?_
        rintro e w10 ⟨rfl, hm, hb⟩
        rw [DW.out] at hm
        have M10 := hid hm; have B10 := hid (B9.out.trans hb)
        clear hm hb M9 B9
        obtain ⟨d0, d2⟩ := CE.out _ B10.out
        go_wp2_with fail
        refine wp_region_held_drew (S := fun w' => w'.cell? ⟨pb, 0, none⟩ = some (.pointer (some ⟨s0, 0, none⟩)) ∧ w'.cell? ⟨pb + 1, 0, none⟩ = some (.pointer (some ⟨x0, 0, none⟩))) (by kernel_rfl) (by exact ⟨d0, d2⟩) (fun hHeld => ?_)
        clear d0 d2
        have M11 := hid (M10.out.same (Kept.refl (fun _ => False) w10).drew); have B11 := hid (B10.out.trans ((Below.refl wr.heap.size w10).drew))
        generalize w10.drew = w11 at M11 B11 hHeld ⊢
        clear M10 B10
        refine wpAnyH_at 0 (some 174) (v := ?v40001) (by decide) rfl (by kernel_rfl) (by kernel_rfl) (by kernel_rfl) (fun _ _ _ h => h) (Or.inl ⟨by rfl, ?y40001⟩) (by assumption) ?r40001
        case y40001 => (intro w hSw; (try dsimp only at hSw); go_simp; (try with_reducible rfl))
        simp only [Act.put, List.setIfInBounds_toArray, List.set_cons_zero, List.set_cons_succ]
        refine wpAnyH_at 1 (some 175) (v := ?v40002) (by decide) rfl (by kernel_rfl) (by kernel_rfl) (by kernel_rfl) (fun _ _ _ h => h) (Or.inl ⟨by rfl, ?y40002⟩) (by assumption) ?r40002
        case y40002 => (intro w hSw; (try dsimp only at hSw); go_simp; (try with_reducible rfl))
        simp only [Act.put, List.setIfInBounds_toArray, List.set_cons_zero, List.set_cons_succ]
        refine wpAnyH_at 4 (some 178) (v := ?v40003) (by decide) rfl (by kernel_rfl) (by kernel_rfl) (by kernel_rfl) (fun _ _ _ h => h) (Or.inl ⟨by rfl, ?y40003⟩) (by assumption) ?r40003
        case y40003 => (intro w hSw; (try dsimp only at hSw); go_simp; (try with_reducible rfl))
        simp only [Act.put, List.setIfInBounds_toArray, List.set_cons_zero, List.set_cons_succ]
        refine wpAnyH_at 5 (some 179) (v := ?v40004) (by decide) rfl (by kernel_rfl) (by kernel_rfl) (by kernel_rfl) (fun _ _ _ h => h) (Or.inl ⟨by rfl, ?y40004⟩) (by assumption) ?r40004
        case y40004 => (intro w hSw; (try dsimp only at hSw); go_simp; (try with_reducible rfl))
        simp only [Act.put, List.setIfInBounds_toArray, List.set_cons_zero, List.set_cons_succ]
        refine wpAnyH_ready (rs := [2, 6]) (by kernel_rfl) (by simp) ?_
        refine AllReadyH.cons rfl (fun K hK => ?_) (AllReadyH.cons rfl (fun K hK => ?_) AllReadyH.nil)
        · go_simp
          refine ((P0.out _ B11.out).spans).mono ?_
          rintro e w12 ⟨ua, uc, rfl, hf, hk⟩
          have B12 := hid (B11.out.trans (hk.below (B := wr.heap.size) B11.out.size (fun _ h => h.elim))); have M12 := hid (M11.out.same hk)
          have FU := hid (hf.lies)
          clear hf hk
          try dsimp only []
          refine hK.out _ _ (by exact CE.out _ B12.out) (fun hHeld => ?_)
          clear hK K
          try simp only [Act.put, List.setIfInBounds_toArray, List.set_cons_zero, List.set_cons_succ]
          refine wpAnyH_ready (rs := [3, 6]) (by kernel_rfl) (by simp) ?_
          refine AllReadyH.cons rfl (fun K hK => ?_) (AllReadyH.cons rfl (fun K hK => ?_) AllReadyH.nil)
          · go_simp
            refine (conv_any FU.out (by have := nS.out; omega)).mono ?_
            rintro e w13 ⟨cv, rfl, hf, hk⟩
            have B13 := hid (B12.out.trans (hk.below (B := wr.heap.size) B12.out.size (fun _ h => h.elim))); have M13 := hid (M12.out.same hk)
            have CV := hid (hf.lies)
            clear hf hk
            try dsimp only []
            refine hK.out _ _ (by exact CE.out _ B13.out) (fun hHeld => ?_)
            clear hK K
            try simp only [Act.put, List.setIfInBounds_toArray, List.set_cons_zero, List.set_cons_succ]
            refine wpAnyH_ready (rs := [6]) (by kernel_rfl) (by simp) ?_
            refine AllReadyH.cons rfl (fun K hK => ?_) AllReadyH.nil
            go_simp
            have hk := (Kept.refl (fun _ => False) w13).alloc (.cells #[.pointer (some ⟨x0, 0, none⟩)] 27)
            have CV := hid (CV.out.same hk)
            have B14 := hid (B13.out.trans (hk.below (B := wr.heap.size) B13.out.size (fun _ h => h.elim))); have M14 := hid (M13.out.same hk)
            have PL := hid (lies_ptr (cap := 1) (Rs := [(x0, yes (A.take 25))]) (row_new w13 (.cells #[.pointer (some ⟨x0, 0, none⟩)] 27)) rfl (by simp) (by decide))
            clear hk
            try dsimp only []
            refine hK.out _ _ (by exact CE.out _ B14.out) (fun hHeld => ?_)
            clear hK K
            try simp only [Act.put, List.setIfInBounds_toArray, List.set_cons_zero, List.set_cons_succ]
            generalize w13.alloc (.cells #[.pointer (some ⟨x0, 0, none⟩)] 27) = w14 at B14 M14 PL hHeld CV ⊢
            refine wpAnyH_ready (rs := [7]) (by kernel_rfl) (by simp) ?_
            refine AllReadyH.cons rfl (fun K hK => ?_) AllReadyH.nil
            go_simp
            refine (rspans_any (Rs := [(x0, yes (A.take 25))]) PL.out (R0.out _ B14.out)).mono ?_
            rintro e w15 ⟨rv, rfl, hrv, hk⟩
            rw [SPY.out] at hrv
            have CV := hid (CV.out.same hk)
            have B15 := hid (B14.out.trans (hk.below (B := wr.heap.size) B14.out.size (fun _ h => h.elim))); have M15 := hid (M14.out.same hk)
            have RV := hid (hrv.lies)
            clear hrv hk
            try dsimp only []
            refine hK.out _ _ (by exact CE.out _ B15.out) (fun hHeld => ?_)
            clear hK K
            try simp only [Act.put, List.setIfInBounds_toArray, List.set_cons_zero, List.set_cons_succ]
            refine wpAnyH_ready (rs := [8]) (by kernel_rfl) (by simp) ?_
            refine AllReadyH.cons rfl (fun K hK => ?_) AllReadyH.nil
            go_simp
            refine (same_any CV.out RV.out).mono ?_
            rintro e w16 ⟨rfl, hk⟩
            have B16 := hid (B15.out.trans (hk.below (B := wr.heap.size) B15.out.size (fun _ h => h.elim))); have M16 := hid (M15.out.same hk)
            try dsimp only []
            refine hK.out _ _ (by exact CE.out _ B16.out) (fun hHeld => ?_)
            clear hK K
            try simp only [Act.put, List.setIfInBounds_toArray, List.set_cons_zero, List.set_cons_succ]
            refine wpAnyH_at 9 (some 183) (v := ?v40005) (by decide) rfl (by kernel_rfl) (by kernel_rfl) (by kernel_rfl) (fun _ _ _ h => h) (Or.inl ⟨by rfl, ?y40005⟩) (by assumption) ?r40005
            case y40005 => (intro w hSw; (try dsimp only at hSw); go_simp; (try with_reducible rfl))
            simp only [Act.put, List.setIfInBounds_toArray, List.set_cons_zero, List.set_cons_succ]
            refine wpAnyH_at 10 (some 184) (v := ?v40006) (by decide) rfl (by kernel_rfl) (by kernel_rfl) (by kernel_rfl) (fun _ _ _ h => h) (Or.inl ⟨by rfl, ?y40006⟩) (by assumption) ?r40006
            case y40006 => (intro w hSw; (try dsimp only at hSw); go_simp; (try with_reducible rfl))
            simp only [Act.put, List.setIfInBounds_toArray, List.set_cons_zero, List.set_cons_succ]
            refine wpAnyH_ready (rs := [11]) (by kernel_rfl) (by simp) ?_
            refine AllReadyH.cons rfl (fun K hK => ?_) AllReadyH.nil
            go_simp
            refine (M16.out.count).mono ?_
            rintro e w17 ⟨rfl, hk2⟩
            have B17 := hid (B16.out.trans (hk2.below (B := wr.heap.size) B16.out.size (fun _ h => h.elim)))
            try dsimp only []
            refine hK.out _ _ (by exact CE.out _ B17.out) (fun hHeld => ?_)
            clear hK K
            try simp only [Act.put, List.setIfInBounds_toArray, List.set_cons_zero, List.set_cons_succ]
            rw [show cntS [] = 0 from rfl]
            refine wpAnyH_at 12 (some 186) (v := ?v40007) (by decide) rfl (by kernel_rfl) (by kernel_rfl) (by kernel_rfl) (fun _ _ _ h => h) (Or.inl ⟨by rfl, ?y40007⟩) (by assumption) ?r40007
            case y40007 => (intro w hSw; (try dsimp only at hSw); go_simp; (try with_reducible rfl))
            simp only [Act.put, List.setIfInBounds_toArray, List.set_cons_zero, List.set_cons_succ]
            refine wpAnyH_at 13 (some 187) (v := ?v40008) (by decide) rfl (by kernel_rfl) (by kernel_rfl) (by kernel_rfl) (fun _ _ _ h => h) (Or.inl ⟨by rfl, ?y40008⟩) (by assumption) ?r40008
            case y40008 => (intro w hSw; (try dsimp only at hSw); go_simp; (try with_reducible rfl))
            simp only [Act.put, List.setIfInBounds_toArray, List.set_cons_zero, List.set_cons_succ]
            refine wpAnyH_at 14 (some 4) (v := ?v40009) (by decide) rfl (by kernel_rfl) (by kernel_rfl) (by kernel_rfl) (fun _ _ _ h => h) (Or.inl ⟨by rfl, ?y40009⟩) (by assumption) ?r40009
            case y40009 => (intro w hSw; (try dsimp only at hSw); go_simp; (try with_reducible rfl))
            simp only [Act.put, List.setIfInBounds_toArray, List.set_cons_zero, List.set_cons_succ]
            refine wpAnyH_done (by kernel_rfl) ?_ _
            clear hHeld
            go_wp2
            go_ret
            exact ⟨rfl, HB.out.trans (B17.out.mono hBm)⟩
          · go_simp
            have hk := (Kept.refl (fun _ => False) w12).alloc (.cells #[.pointer (some ⟨x0, 0, none⟩)] 27)
            have FU := hid (FU.out.same hk)
            have B13 := hid (B12.out.trans (hk.below (B := wr.heap.size) B12.out.size (fun _ h => h.elim))); have M13 := hid (M12.out.same hk)
            have PL := hid (lies_ptr (cap := 1) (Rs := [(x0, yes (A.take 25))]) (row_new w12 (.cells #[.pointer (some ⟨x0, 0, none⟩)] 27)) rfl (by simp) (by decide))
            clear hk
            try dsimp only []
            refine hK.out _ _ (by exact CE.out _ B13.out) (fun hHeld => ?_)
            clear hK K
            try simp only [Act.put, List.setIfInBounds_toArray, List.set_cons_zero, List.set_cons_succ]
            generalize w12.alloc (.cells #[.pointer (some ⟨x0, 0, none⟩)] 27) = w13 at B13 M13 PL hHeld FU ⊢
            refine wpAnyH_ready (rs := [3]) (by kernel_rfl) (by simp) ?_
            refine AllReadyH.cons rfl (fun K hK => ?_) AllReadyH.nil
            go_simp
            refine (conv_any FU.out (by have := nS.out; omega)).mono ?_
            rintro e w14 ⟨cv, rfl, hf, hk⟩
            have PL := hid (PL.out.same hk)
            have B14 := hid (B13.out.trans (hk.below (B := wr.heap.size) B13.out.size (fun _ h => h.elim))); have M14 := hid (M13.out.same hk)
            have CV := hid (hf.lies)
            clear hf hk
            try dsimp only []
            refine hK.out _ _ (by exact CE.out _ B14.out) (fun hHeld => ?_)
            clear hK K
            try simp only [Act.put, List.setIfInBounds_toArray, List.set_cons_zero, List.set_cons_succ]
            refine wpAnyH_ready (rs := [7]) (by kernel_rfl) (by simp) ?_
            refine AllReadyH.cons rfl (fun K hK => ?_) AllReadyH.nil
            go_simp
            refine (rspans_any (Rs := [(x0, yes (A.take 25))]) PL.out (R0.out _ B14.out)).mono ?_
            rintro e w15 ⟨rv, rfl, hrv, hk⟩
            rw [SPY.out] at hrv
            have CV := hid (CV.out.same hk)
            have B15 := hid (B14.out.trans (hk.below (B := wr.heap.size) B14.out.size (fun _ h => h.elim))); have M15 := hid (M14.out.same hk)
            have RV := hid (hrv.lies)
            clear hrv hk
            try dsimp only []
            refine hK.out _ _ (by exact CE.out _ B15.out) (fun hHeld => ?_)
            clear hK K
            try simp only [Act.put, List.setIfInBounds_toArray, List.set_cons_zero, List.set_cons_succ]
            refine wpAnyH_ready (rs := [8]) (by kernel_rfl) (by simp) ?_
            refine AllReadyH.cons rfl (fun K hK => ?_) AllReadyH.nil
            go_simp
            refine (same_any CV.out RV.out).mono ?_
            rintro e w16 ⟨rfl, hk⟩
            have B16 := hid (B15.out.trans (hk.below (B := wr.heap.size) B15.out.size (fun _ h => h.elim))); have M16 := hid (M15.out.same hk)
            try dsimp only []
            refine hK.out _ _ (by exact CE.out _ B16.out) (fun hHeld => ?_)
            clear hK K
            try simp only [Act.put, List.setIfInBounds_toArray, List.set_cons_zero, List.set_cons_succ]
            refine wpAnyH_at 9 (some 183) (v := ?v40010) (by decide) rfl (by kernel_rfl) (by kernel_rfl) (by kernel_rfl) (fun _ _ _ h => h) (Or.inl ⟨by rfl, ?y40010⟩) (by assumption) ?r40010
            case y40010 => (intro w hSw; (try dsimp only at hSw); go_simp; (try with_reducible rfl))
            simp only [Act.put, List.setIfInBounds_toArray, List.set_cons_zero, List.set_cons_succ]
            refine wpAnyH_at 10 (some 184) (v := ?v40011) (by decide) rfl (by kernel_rfl) (by kernel_rfl) (by kernel_rfl) (fun _ _ _ h => h) (Or.inl ⟨by rfl, ?y40011⟩) (by assumption) ?r40011
            case y40011 => (intro w hSw; (try dsimp only at hSw); go_simp; (try with_reducible rfl))
            simp only [Act.put, List.setIfInBounds_toArray, List.set_cons_zero, List.set_cons_succ]
            refine wpAnyH_ready (rs := [11]) (by kernel_rfl) (by simp) ?_
            refine AllReadyH.cons rfl (fun K hK => ?_) AllReadyH.nil
            go_simp
            refine (M16.out.count).mono ?_
            rintro e w17 ⟨rfl, hk2⟩
            have B17 := hid (B16.out.trans (hk2.below (B := wr.heap.size) B16.out.size (fun _ h => h.elim)))
            try dsimp only []
            refine hK.out _ _ (by exact CE.out _ B17.out) (fun hHeld => ?_)
            clear hK K
            try simp only [Act.put, List.setIfInBounds_toArray, List.set_cons_zero, List.set_cons_succ]
            rw [show cntS [] = 0 from rfl]
            refine wpAnyH_at 12 (some 186) (v := ?v40012) (by decide) rfl (by kernel_rfl) (by kernel_rfl) (by kernel_rfl) (fun _ _ _ h => h) (Or.inl ⟨by rfl, ?y40012⟩) (by assumption) ?r40012
            case y40012 => (intro w hSw; (try dsimp only at hSw); go_simp; (try with_reducible rfl))
            simp only [Act.put, List.setIfInBounds_toArray, List.set_cons_zero, List.set_cons_succ]
            refine wpAnyH_at 13 (some 187) (v := ?v40013) (by decide) rfl (by kernel_rfl) (by kernel_rfl) (by kernel_rfl) (fun _ _ _ h => h) (Or.inl ⟨by rfl, ?y40013⟩) (by assumption) ?r40013
            case y40013 => (intro w hSw; (try dsimp only at hSw); go_simp; (try with_reducible rfl))
            simp only [Act.put, List.setIfInBounds_toArray, List.set_cons_zero, List.set_cons_succ]
            refine wpAnyH_at 14 (some 4) (v := ?v40014) (by decide) rfl (by kernel_rfl) (by kernel_rfl) (by kernel_rfl) (fun _ _ _ h => h) (Or.inl ⟨by rfl, ?y40014⟩) (by assumption) ?r40014
            case y40014 => (intro w hSw; (try dsimp only at hSw); go_simp; (try with_reducible rfl))
            simp only [Act.put, List.setIfInBounds_toArray, List.set_cons_zero, List.set_cons_succ]
            refine wpAnyH_done (by kernel_rfl) ?_ _
            clear hHeld
            go_wp2
            go_ret
            exact ⟨rfl, HB.out.trans (B17.out.mono hBm)⟩
        · go_simp
          have hk := (Kept.refl (fun _ => False) w11).alloc (.cells #[.pointer (some ⟨x0, 0, none⟩)] 27)
          have B12 := hid (B11.out.trans (hk.below (B := wr.heap.size) B11.out.size (fun _ h => h.elim))); have M12 := hid (M11.out.same hk)
          have PL := hid (lies_ptr (cap := 1) (Rs := [(x0, yes (A.take 25))]) (row_new w11 (.cells #[.pointer (some ⟨x0, 0, none⟩)] 27)) rfl (by simp) (by decide))
          clear hk
          try dsimp only []
          refine hK.out _ _ (by exact CE.out _ B12.out) (fun hHeld => ?_)
          clear hK K
          try simp only [Act.put, List.setIfInBounds_toArray, List.set_cons_zero, List.set_cons_succ]
          generalize w11.alloc (.cells #[.pointer (some ⟨x0, 0, none⟩)] 27) = w12 at B12 M12 PL hHeld  ⊢
          refine wpAnyH_ready (rs := [2]) (by kernel_rfl) (by simp) ?_
          refine AllReadyH.cons rfl (fun K hK => ?_) AllReadyH.nil
          go_simp
          refine ((P0.out _ B12.out).spans).mono ?_
          rintro e w13 ⟨ua, uc, rfl, hf, hk⟩
          have PL := hid (PL.out.same hk)
          have B13 := hid (B12.out.trans (hk.below (B := wr.heap.size) B12.out.size (fun _ h => h.elim))); have M13 := hid (M12.out.same hk)
          have FU := hid (hf.lies)
          clear hf hk
          try dsimp only []
          refine hK.out _ _ (by exact CE.out _ B13.out) (fun hHeld => ?_)
          clear hK K
          try simp only [Act.put, List.setIfInBounds_toArray, List.set_cons_zero, List.set_cons_succ]
          refine wpAnyH_ready (rs := [3]) (by kernel_rfl) (by simp) ?_
          refine AllReadyH.cons rfl (fun K hK => ?_) AllReadyH.nil
          go_simp
          refine (conv_any FU.out (by have := nS.out; omega)).mono ?_
          rintro e w14 ⟨cv, rfl, hf, hk⟩
          have PL := hid (PL.out.same hk)
          have B14 := hid (B13.out.trans (hk.below (B := wr.heap.size) B13.out.size (fun _ h => h.elim))); have M14 := hid (M13.out.same hk)
          have CV := hid (hf.lies)
          clear hf hk
          try dsimp only []
          refine hK.out _ _ (by exact CE.out _ B14.out) (fun hHeld => ?_)
          clear hK K
          try simp only [Act.put, List.setIfInBounds_toArray, List.set_cons_zero, List.set_cons_succ]
          refine wpAnyH_ready (rs := [7]) (by kernel_rfl) (by simp) ?_
          refine AllReadyH.cons rfl (fun K hK => ?_) AllReadyH.nil
          go_simp
          refine (rspans_any (Rs := [(x0, yes (A.take 25))]) PL.out (R0.out _ B14.out)).mono ?_
          rintro e w15 ⟨rv, rfl, hrv, hk⟩
          rw [SPY.out] at hrv
          have CV := hid (CV.out.same hk)
          have B15 := hid (B14.out.trans (hk.below (B := wr.heap.size) B14.out.size (fun _ h => h.elim))); have M15 := hid (M14.out.same hk)
          have RV := hid (hrv.lies)
          clear hrv hk
          try dsimp only []
          refine hK.out _ _ (by exact CE.out _ B15.out) (fun hHeld => ?_)
          clear hK K
          try simp only [Act.put, List.setIfInBounds_toArray, List.set_cons_zero, List.set_cons_succ]
          refine wpAnyH_ready (rs := [8]) (by kernel_rfl) (by simp) ?_
          refine AllReadyH.cons rfl (fun K hK => ?_) AllReadyH.nil
          go_simp
          refine (same_any CV.out RV.out).mono ?_
          rintro e w16 ⟨rfl, hk⟩
          have B16 := hid (B15.out.trans (hk.below (B := wr.heap.size) B15.out.size (fun _ h => h.elim))); have M16 := hid (M15.out.same hk)
          try dsimp only []
          refine hK.out _ _ (by exact CE.out _ B16.out) (fun hHeld => ?_)
          clear hK K
          try simp only [Act.put, List.setIfInBounds_toArray, List.set_cons_zero, List.set_cons_succ]
          refine wpAnyH_at 9 (some 183) (v := ?v40015) (by decide) rfl (by kernel_rfl) (by kernel_rfl) (by kernel_rfl) (fun _ _ _ h => h) (Or.inl ⟨by rfl, ?y40015⟩) (by assumption) ?r40015
          case y40015 => (intro w hSw; (try dsimp only at hSw); go_simp; (try with_reducible rfl))
          simp only [Act.put, List.setIfInBounds_toArray, List.set_cons_zero, List.set_cons_succ]
          refine wpAnyH_at 10 (some 184) (v := ?v40016) (by decide) rfl (by kernel_rfl) (by kernel_rfl) (by kernel_rfl) (fun _ _ _ h => h) (Or.inl ⟨by rfl, ?y40016⟩) (by assumption) ?r40016
          case y40016 => (intro w hSw; (try dsimp only at hSw); go_simp; (try with_reducible rfl))
          simp only [Act.put, List.setIfInBounds_toArray, List.set_cons_zero, List.set_cons_succ]
          refine wpAnyH_ready (rs := [11]) (by kernel_rfl) (by simp) ?_
          refine AllReadyH.cons rfl (fun K hK => ?_) AllReadyH.nil
          go_simp
          refine (M16.out.count).mono ?_
          rintro e w17 ⟨rfl, hk2⟩
          have B17 := hid (B16.out.trans (hk2.below (B := wr.heap.size) B16.out.size (fun _ h => h.elim)))
          try dsimp only []
          refine hK.out _ _ (by exact CE.out _ B17.out) (fun hHeld => ?_)
          clear hK K
          try simp only [Act.put, List.setIfInBounds_toArray, List.set_cons_zero, List.set_cons_succ]
          rw [show cntS [] = 0 from rfl]
          refine wpAnyH_at 12 (some 186) (v := ?v40017) (by decide) rfl (by kernel_rfl) (by kernel_rfl) (by kernel_rfl) (fun _ _ _ h => h) (Or.inl ⟨by rfl, ?y40017⟩) (by assumption) ?r40017
          case y40017 => (intro w hSw; (try dsimp only at hSw); go_simp; (try with_reducible rfl))
          simp only [Act.put, List.setIfInBounds_toArray, List.set_cons_zero, List.set_cons_succ]
          refine wpAnyH_at 13 (some 187) (v := ?v40018) (by decide) rfl (by kernel_rfl) (by kernel_rfl) (by kernel_rfl) (fun _ _ _ h => h) (Or.inl ⟨by rfl, ?y40018⟩) (by assumption) ?r40018
          case y40018 => (intro w hSw; (try dsimp only at hSw); go_simp; (try with_reducible rfl))
          simp only [Act.put, List.setIfInBounds_toArray, List.set_cons_zero, List.set_cons_succ]
          refine wpAnyH_at 14 (some 4) (v := ?v40019) (by decide) rfl (by kernel_rfl) (by kernel_rfl) (by kernel_rfl) (fun _ _ _ h => h) (Or.inl ⟨by rfl, ?y40019⟩) (by assumption) ?r40019
          case y40019 => (intro w hSw; (try dsimp only at hSw); go_simp; (try with_reducible rfl))
          simp only [Act.put, List.setIfInBounds_toArray, List.set_cons_zero, List.set_cons_succ]
          refine wpAnyH_done (by kernel_rfl) ?_ _
          clear hHeld
          go_wp2
          go_ret
          exact ⟨rfl, HB.out.trans (B17.out.mono hBm)⟩
end Go.Proofs.Ytglcpiokmieppaa
