/- IndexPlays: the walk. -/
import Derived.Test.YtfmohmlpcielnaaRg
import Derived.Deep.CutBlock
namespace Go.Proofs.Ytfmohmlpcielnaa
open Go.RowKit
abbrev Po := Int × Int × Int
def pocell (x : Po) : List Value := [.int .u8 x.1, .int .u64 x.2.1, .int .u64 x.2.2]
def pocells (l : List Po) : List Value := l.flatMap pocell
theorem pocells_at : ∀ (l : List Po) (i : Nat) (x : Po), l[i]? = some x → (pocells l)[i * 3]? = some (.int .u8 x.1) ∧ (pocells l)[i * 3 + 1]? = some (.int .u64 x.2.1) ∧ (pocells l)[i * 3 + 2]? = some (.int .u64 x.2.2)
  | y :: l, 0, x, h => by simp at h; subst h; simp [pocells, pocell]
  | y :: l, i + 1, x, h => by
    have := pocells_at l i x (by simpa using h)
    have e : ∀ k, (pocells (y :: l))[k + 3]? = (pocells l)[k]? := fun k => by simp [pocells, pocell, List.flatMap_cons]
    rw [show (i + 1) * 3 = i * 3 + 3 from by omega, show i * 3 + 3 + 1 = i * 3 + 1 + 3 from by omega, show i * 3 + 3 + 2 = i * 3 + 2 + 3 from by omega, e, e, e]
    exact this
theorem cellsPo : Try.prog.cellsOf 51 = 3 := by kernel_rfl
theorem cells8 : Try.prog.cellsOf 5 = 1 := by kernel_rfl
abbrev PoB (x : Po) : Prop := 0 ≤ x.2.1 ∧ x.2.1 ≤ 18446744073709551615
theorem po_read {w : World} {es : List Value} (hl : es.length = 3) (h : Rd Try.prog w 51 es) : ∃ x : Po, es = pocell x ∧ PoB x := by
  match es, hl with
  | [x0, x1, x2], _ =>
    have h0 : Rd Try.prog w 5 [x0] := h.field Try.underlying51 0 5 0 1 rfl cells8
    have h1 : Rd Try.prog w 26 [x1] := h.field Try.underlying51 1 26 1 1 rfl cells64
    have h2 : Rd Try.prog w 26 [x2] := h.field Try.underlying51 2 26 2 1 rfl cells64
    obtain ⟨a, e0, _⟩ := h0.int Try.underlying5
    obtain ⟨b, e1, wb⟩ := h1.int Try.underlying26
    obtain ⟨c, e2, _⟩ := h2.int Try.underlying26
    simp only [List.cons.injEq, and_true] at e0 e1 e2
    subst e0 e1 e2
    exact ⟨(a, b, c), rfl, wf64 wb⟩
theorem pos_read {w : World} {v : Value} (h : RdV Try.prog w 49 v) : ∃ (a : Option Addr) (cap : Nat) (L : List Po), v = .slice a L.length cap ∧ Lies (fun g => w.heap.size ≤ g) w 3 (.slice a L.length cap) L.length (pocells L) ∧ ∀ x ∈ L, PoB x := by
  obtain ⟨a, len, cap, rfl, h0⟩ := h.slice Try.underlying49
  obtain ⟨l, hl, hv, hb, hq⟩ := lies_of pocell 3 (fun _ => rfl) (by decide) (fun x u hu => by simp [pocell] at hu; rcases hu with rfl | rfl | rfl <;> rfl) (0, 0, 0) Try.underlying49 cellsPo PoB (fun es h1 h2 => po_read h1 h2) h0
  subst hl
  exact ⟨a, cap, l, rfl, hv, hq⟩
/-- all keys are numbers of 64 bits -/
def K64 (M : List It) : Prop := ∀ x ∈ M, 0 ≤ x.1 ∧ x.1 ≤ 18446744073709551615
theorem K64.put {M : List It} (h : K64 M) {k v : Int} (hk : 0 ≤ k ∧ k ≤ 18446744073709551615) : K64 (putM M k v) := by
  have hl : K64 (layL M k v) := fun x hx => by
    rcases mem_layL.1 hx with rfl | ⟨h1, _⟩
    · exact hk
    · exact h x h1
  unfold putM
  split
  · exact hl
  · split
    · exact h
    · exact hl
theorem K64.drop {M : List It} (h : K64 M) (k : Int) : K64 (dropL M k) := fun x hx => h x (mem_dropL.1 hx).1
theorem XN.keptN {W w w' : World} {xb yb : Nat} {N K : Nat → Prop} {A B : List It} (h : XN W w xb yb N A B) (k : Kept K w w') (hK : ∀ g, K g → N g) (hW : ∀ g, K g → W.heap.size ≤ g) : XN W w' xb yb N A B := by
  obtain ⟨F, G, v, hx, hy, hF, hG, hk, hN⟩ := h
  have hz := k.size
  exact ⟨F, G, v, hx.kept k (fun g _ hf hg => (hN g (hK g hg)).1 hf), hy.kept k (fun g _ hf hg => (hN g (hK g hg)).2.1 hf), fun g hg => ⟨(hF g hg).1, by have := (hF g hg).2.1; omega, (hF g hg).2.2⟩, fun g hg => ⟨(hG g hg).1, by have := (hG g hg).2; omega⟩, hk.trans' k (fun g hg => .inr (hW g hg)), fun g hg => ⟨(hN g hg).1, (hN g hg).2.1, by have := (hN g hg).2.2; omega⟩⟩
/-- each page's first number, in memory -/
def PC (PL : List (List It)) (vs : List Value) (N : Nat → Prop) (w : World) : Prop := ∀ (i : Nat) (L : List It), PL[i]? = some L → ∃ (g c : Nat) (cur : Array Value) (x : Int), vs[i]? = some (.slice (some ⟨g, 0, none⟩) L.length c) ∧ L.length ≤ c ∧ c ≤ maxLen ∧ w.heap[g]? = some (.cells cur 33 (0, 0)) ∧ cur[1]? = some (.int .u64 x) ∧ N g
set_option maxRecDepth 100000 in
set_option maxHeartbeats 2000000 in
theorem plays_walk (W : World) (args : Array Value) (h : RdAll Try.prog W Try.f5.params.toList args.toList) :
    Calls Try.prog 5 args W fun e W' => e = .returned (.bool true) ∧ Below W.heap.size W W' := by
  rw [Try.params5] at h
  obtain ⟨v0, v1, v2, rfl⟩ : ∃ v0 v1 v2, args = #[v0, v1, v2] := by
    rcases args with ⟨_ | ⟨v0, _ | ⟨v1, _ | ⟨v2, _ | ⟨v3, l⟩⟩⟩⟩⟩ <;> simp [RdAll] at h
    exact ⟨v0, v1, v2, rfl⟩
  obtain ⟨r0, r1, r2, _⟩ := h
  obtain ⟨ao, cap, L, rfl, hL, bL⟩ := pos_read r0
  obtain ⟨fr, rfl, _⟩ := r1.int Try.underlying26
  obtain ⟨tt, rfl, _⟩ := r2.int Try.underlying26
  have HL := hid hL; have BL := hid bL
  clear r0 r1 r2 hL bL
  have hcap : L.length ≤ cap ∧ cap ≤ maxLen := by
    obtain ⟨_, _, e, h1, h2, _⟩ := HL.out
    simp only [Value.slice.injEq] at e
    obtain ⟨_, _, rfl⟩ := e
    exact ⟨h1, h2⟩
  unfold maxLen at hcap
  go_enter Try.func5, Try.ntmps5
  go_wp2_with fail
  refine (awake_any _).mono ?_; rintro e w1 ⟨rfl, hk1⟩
  have K1 := hid hk1; clear hk1
  go_wp2_with fail
  refine (new_flat w1).mono ?_
  rintro e w2 ⟨rfl, hx2, hk2⟩
  obtain ⟨xb, hxb⟩ : ∃ xb, xb = w1.heap.size := ⟨_, rfl⟩
  have K2 := hid (K1.out.trans hk2); have z1 := K1.out.size
  rw [← hxb] at hx2 z1 ⊢
  have X2 := hid (XY.start K2.out hx2 z1 (.slice none 0 0) rfl)
  clear hx2 hk2 hxb K1
  obtain ⟨yb, hyb⟩ : ∃ yb, w2.heap.size = yb := ⟨_, rfl⟩
  rw [hyb] at X2
  have HYB := hid hyb; clear hyb
  go_upto_block 0 with fail
  rw [HYB.out]
  go_cut [9] from 9 to 132 (fun _ wx => ∃ M : List It, K64 M ∧ XY W wx xb yb M M)
  case first =>
    go_wp2_with fail
    go_loopw [9, 10, 11, 12, 13, 14, 15, 16, 17, 18, 30] (fun _ _ _ _ _ _ _ _ _ _ i wr => ∃ (k : Nat) (M : List It), k ≤ L.length ∧ i = .int .i64 k ∧ K64 M ∧ XY W wr xb yb M M) (fun _ _ _ _ _ _ _ _ _ _ i _ => L.length - (intOf i).toNat)
    case atStart => exact ⟨0, [], Nat.zero_le _, rfl, fun x hx => (by cases hx), X2.out⟩
    case round =>
      clear X2 K2 HYB
      rename World => wA
      obtain ⟨k, M, hk, rfl, hkm, hx⟩ := hrel
      have X := hid hx; have HKM := hid hkm
      clear hx hkm
      by_cases hlt : k < L.length
      · have hltI : (k : Int) < (L.length : Int) := by omega
        obtain ⟨⟨kd, key, val⟩, hxx⟩ : ∃ x, L[k]? = some x := ⟨_, List.getElem?_eq_getElem hlt⟩
        obtain ⟨g1, o1, q1, e1, m1, m2, hnF, _, zc⟩ := HL.out.cell (by omega)
        simp only [Value.slice.injEq] at e1
        obtain ⟨rfl, _, rfl⟩ := e1
        obtain ⟨x0, x1, x2⟩ := pocells_at L k _ hxx
        have c0 := X.out.k.cell (zc _ _ x0) (fun h => h)
        have c1 := X.out.k.cell (zc _ _ x1) (fun h => h)
        have c2 := X.out.k.cell (zc _ _ x2) (fun h => h)
        rw [show o1 + (k * 3 + 1) = o1 + k * 3 + 1 by omega] at c1
        rw [show o1 + (k * 3 + 2) = o1 + k * 3 + 2 by omega] at c2
        have hkb := BL.out _ (List.mem_of_getElem? hxx)
        simp only [PoB] at hkb
        have HKB := hid hkb
        clear zc m1 m2 hnF x0 x1 x2 hxx hkb
        by_cases h300 : k < 300
        · have d300 : decide ((300 : Int) ≤ (k : Int)) = false := by rw [decide_eq_false_iff_not]; omega
          obtain ⟨ob, hob⟩ : ∃ ob, wA.heap.size = ob := ⟨_, rfl⟩
          obtain ⟨wO, hwO⟩ : ∃ wO, wA.alloc (.cells #[.int .u8 kd, .int .u64 key, .int .u64 val] 51) = wO := ⟨_, rfl⟩
          have z0 := row_cell (row_new wA (.cells #[.int .u8 kd, .int .u64 key, .int .u64 val] 51)) 0
          have z1 := row_cell (row_new wA (.cells #[.int .u8 kd, .int .u64 key, .int .u64 val] 51)) 1
          have z2 := row_cell (row_new wA (.cells #[.int .u8 kd, .int .u64 key, .int .u64 val] 51)) 2
          simp only [List.getElem?_toArray, List.getElem?_cons_zero, List.getElem?_cons_succ] at z0 z1 z2
          have Z0 := hid z0
          have hn := X.out.wide ((Kept.refl (fun _ => False) wA).alloc (.cells #[.int .u8 kd, .int .u64 key, .int .u64 val] 51))
          have hN : (fun g => wA.heap.size ≤ g ∧ g < (wA.alloc (.cells #[.int .u8 kd, .int .u64 key, .int .u64 val] 51)).heap.size) wA.heap.size := ⟨Nat.le_refl _, by simp⟩
          obtain ⟨N, hNe⟩ : ∃ N, (fun g => wA.heap.size ≤ g ∧ g < (wA.alloc (.cells #[.int .u8 kd, .int .u64 key, .int .u64 val] 51)).heap.size) = N := ⟨_, rfl⟩
          rw [hNe] at hn hN
          rw [hwO] at z1 z2 hn
          rw [hob] at z1 z2 hN
          have XNO := hid hn; have HN := hid hN; have HWO := hid hwO; have HOB0 := hid hob
          clear hn hN hNe hwO hob X z0
          rcases (show kd = 0 ∨ kd = 1 ∨ (kd ≠ 0 ∧ kd ≠ 1) by omega) with rfl | rfl | ⟨hk0, hk1⟩
          · have z0 := Z0.out
            go_wp2_with fail
            rw [HWO.out, HOB0.out]
            refine wp_region_till (fun w' => w'.cell? ⟨ob, 1, none⟩ = some (.int .u64 key) ∧ w'.cell? ⟨ob, 2, none⟩ = some (.int .u64 val)) 11 (by kernel_rfl) ⟨z1, z2⟩ (fun hHeld => ?_)
            refine till_pure 0 (some 41) (v := ?v160) (by decide) rfl (by kernel_rfl) (by kernel_rfl) (by kernel_rfl) (by kernel_rfl) (by decide) (fun _ _ _ h => h) (Or.inl ⟨by rfl, ?y160⟩) (by assumption) ?r160
            case y160 => (intro w hSw; clear hSw; go_simp; (try with_reducible rfl))
            simp only [Act.put, List.setIfInBounds_toArray, List.set_cons_zero, List.set_cons_succ]
            refine till_pure 1 (some 42) (v := ?v161) (by decide) rfl (by kernel_rfl) (by kernel_rfl) (by kernel_rfl) (by kernel_rfl) (by decide) (fun _ _ _ h => h) (Or.inl ⟨by rfl, ?y161⟩) (by assumption) ?r161
            case y161 => (intro w hSw; clear hSw; go_simp; (try with_reducible rfl))
            simp only [Act.put, List.setIfInBounds_toArray, List.set_cons_zero, List.set_cons_succ]
            refine till_load 2 (some 43) [5] (v := ?v162) (by decide) rfl (by kernel_rfl) (by kernel_rfl) (by kernel_rfl) (by kernel_rfl) (by kernel_rfl) (by decide) (by decide) (fun _ _ _ h => h) (Or.inl ⟨by rfl, ?y162⟩) (by assumption) ?r162
            case y162 => (intro w hSw; (try dsimp only at hSw); go_simp; (try with_reducible rfl))
            simp only [Act.put, List.setIfInBounds_toArray, List.set_cons_zero, List.set_cons_succ]
            refine till_pure 3 (some 44) (v := ?v163) (by decide) rfl (by kernel_rfl) (by kernel_rfl) (by kernel_rfl) (by kernel_rfl) (by decide) (fun _ _ _ h => h) (Or.inl ⟨by rfl, ?y163⟩) (by assumption) ?r163
            case y163 => (intro w hSw; clear hSw; go_simp; (try with_reducible rfl))
            simp only [Act.put, List.setIfInBounds_toArray, List.set_cons_zero, List.set_cons_succ]
            refine till_load 4 (some 45) [5] (v := ?v164) (by decide) rfl (by kernel_rfl) (by kernel_rfl) (by kernel_rfl) (by kernel_rfl) (by kernel_rfl) (by decide) (by decide) (fun _ _ _ h => h) (Or.inl ⟨by rfl, ?y164⟩) (by assumption) ?r164
            case y164 => (intro w hSw; (try dsimp only at hSw); go_simp; (try with_reducible rfl))
            simp only [Act.put, List.setIfInBounds_toArray, List.set_cons_zero, List.set_cons_succ]
            refine till_pure 6 (some 47) (v := ?v165) (by decide) rfl (by kernel_rfl) (by kernel_rfl) (by kernel_rfl) (by kernel_rfl) (by decide) (fun _ _ _ h => h) (Or.inl ⟨by rfl, ?y165⟩) (by assumption) ?r165
            case y165 => (intro w hSw; clear hSw; go_simp; (try with_reducible rfl))
            simp only [Act.put, List.setIfInBounds_toArray, List.set_cons_zero, List.set_cons_succ]
            refine till_pure 7 (some 48) (v := ?v166) (by decide) rfl (by kernel_rfl) (by kernel_rfl) (by kernel_rfl) (by kernel_rfl) (by decide) (fun _ _ _ h => h) (Or.inl ⟨by rfl, ?y166⟩) (by assumption) ?r166
            case y166 => (intro w hSw; clear hSw; go_simp; (try with_reducible rfl))
            simp only [Act.put, List.setIfInBounds_toArray, List.set_cons_zero, List.set_cons_succ]
            refine till_load 8 (some 49) [] (v := ?v167) (by decide) rfl (by kernel_rfl) (by kernel_rfl) (by kernel_rfl) (by kernel_rfl) (by kernel_rfl) (by decide) (by decide) (fun _ _ _ h => h) (Or.inl ⟨by rfl, ?y167⟩) (by assumption) ?r167
            case y167 => (intro w hSw; (try dsimp only at hSw); go_simp; (try with_reducible rfl))
            simp only [Act.put, List.setIfInBounds_toArray, List.set_cons_zero, List.set_cons_succ]
            refine till_pure 9 (some 50) (v := ?v168) (by decide) rfl (by kernel_rfl) (by kernel_rfl) (by kernel_rfl) (by kernel_rfl) (by decide) (fun _ _ _ h => h) (Or.inl ⟨by rfl, ?y168⟩) (by assumption) ?r168
            case y168 => (intro w hSw; clear hSw; go_simp; (try with_reducible rfl))
            simp only [Act.put, List.setIfInBounds_toArray, List.set_cons_zero, List.set_cons_succ]
            refine till_load 10 (some 51) [] (v := ?v169) (by decide) rfl (by kernel_rfl) (by kernel_rfl) (by kernel_rfl) (by kernel_rfl) (by kernel_rfl) (by decide) (by decide) (fun _ _ _ h => h) (Or.inl ⟨by rfl, ?y169⟩) (by assumption) ?r169
            case y169 => (intro w hSw; (try dsimp only at hSw); go_simp; (try with_reducible rfl))
            simp only [Act.put, List.setIfInBounds_toArray, List.set_cons_zero, List.set_cons_succ]
            refine till_call 5 (by kernel_rfl) rfl (fun K hK => ?_)
            go_simp
            refine (XN.putx (by exact XNO.out.kept0 ((Kept.refl _ _).drew)) key val).mono ?_
            rintro e wP ⟨rfl, hx, hk⟩
            have XP := hid hx
            replace z1 := hk.cell z1 (fun h => h HN.out)
            replace z2 := hk.cell z2 (fun h => h HN.out)
            clear hx hk
            have hS2 := And.intro z1 z2
            try dsimp only []
            refine hK.out _ _ (by exact hS2) (fun hHeld => ?_)
            clear hK K
            try simp only [Act.put, List.setIfInBounds_toArray, List.set_cons_zero, List.set_cons_succ]
            clear hHeld hS2
            refine till_list [12] (by kernel_rfl) (by kernel_rfl) (by decide) (by decide) ?_
            simp only [pickOps, List.getElem?_toArray, List.getElem?_cons_zero, List.getElem?_cons_succ]
            go_wp2_with fail
            refine (XP.out.puty (by have := XNO.out.xy.lenA; omega) XNO.out.xy.upA key val).mono ?_
            rintro e wT ⟨rfl, hx, hk⟩
            have XT := hid hx
            replace z1 := hk.cell z1 (fun h => h HN.out)
            have HKT := hid (HKM.out.put (v := val) HKB.out)
            obtain ⟨MT, hMT⟩ : ∃ MT, putM M key val = MT := ⟨_, rfl⟩
            rw [hMT] at XT HKT
            clear hx hk hMT z0 z2
            go_wp2_with fail
            obtain ⟨F, hix⟩ := XT.out.xy.ix
            refine (get_flat hix key).mono ?_
            rintro e wU ⟨rfl, hk⟩
            have XU := hid (XT.out.kept0 hk); replace z1 := hk.cell z1 (fun h => h)
            clear hk hix
            obtain ⟨gb, hgb⟩ : ∃ gb, (getI MT key).isSome = gb := ⟨_, rfl⟩
            obtain ⟨gv, hgv⟩ : ∃ gv, (getI MT key).getD 0 = gv := ⟨_, rfl⟩
            rw [hgb, hgv]
            have HGB := hid hgb; have HGV := hid hgv
            clear hgb hgv
            go_wp2_with fail
            obtain ⟨G, u, hry⟩ := XU.out.xy.ry
            refine (rget_any hry (by have := XU.out.xy.lenA; omega) key).mono ?_
            rintro e wV ⟨rfl, hk⟩
            have XV := hid (XU.out.kept0 hk)
            clear hk hry z1
            rw [HGB.out, HGV.out]
            go_wp2_with fail
            obtain ⟨F, hix⟩ := XV.out.xy.ix
            refine (next_flat hix fr).mono ?_
            rintro e wX ⟨rfl, hk⟩
            have XX := hid (XV.out.kept0 hk)
            clear hk hix
            obtain ⟨nb, hnb⟩ : ∃ nb, (nextI MT fr).isSome = nb := ⟨_, rfl⟩
            obtain ⟨n1, hn1⟩ : ∃ n1, ((nextI MT fr).getD (0, 0)).1 = n1 := ⟨_, rfl⟩
            obtain ⟨n2, hn2⟩ : ∃ n2, ((nextI MT fr).getD (0, 0)).2 = n2 := ⟨_, rfl⟩
            rw [hnb, hn1, hn2]
            have HNB := hid hnb; have HN1 := hid hn1; have HN2 := hid hn2
            clear hnb hn1 hn2
            go_wp2_with fail
            have XY1 := hid (XX.out.kept0 ((Kept.refl (fun _ => False) wX).alloc (.cells #[.int .u64 n1, .int .u64 n2] 33)))
            obtain ⟨G, u, hry⟩ := XY1.out.xy.ry
            refine (rnext_any hry (by have := XU.out.xy.lenA; omega) (fun x hx => (HKT.out x hx).2) fr).mono ?_
            rintro e wY ⟨rfl, hk⟩
            have XY2 := hid (XY1.out.kept0 (hk.alloc (.cells #[.int .u64 n1, .int .u64 n2] 55)))
            have s0 := (hk.alloc (.cells #[.int .u64 n1, .int .u64 n2] 55)).cell (row_cell (row_new wX (.cells #[.int .u64 n1, .int .u64 n2] 33)) 0) (fun h => h)
            have s1 := (hk.alloc (.cells #[.int .u64 n1, .int .u64 n2] 55)).cell (row_cell (row_new wX (.cells #[.int .u64 n1, .int .u64 n2] 33)) 1) (fun h => h)
            have s2 : (wY.alloc (.cells #[.int .u64 n1, .int .u64 n2] 55)).cell? ⟨wY.heap.size, 0, none⟩ = some (.int .u64 n1) := row_cell (row_new wY _) 0
            have s3 : (wY.alloc (.cells #[.int .u64 n1, .int .u64 n2] 55)).cell? ⟨wY.heap.size, 1, none⟩ = some (.int .u64 n2) := row_cell (row_new wY _) 1
            obtain ⟨ob1, hob1⟩ : ∃ ob1, wX.heap.size = ob1 := ⟨_, rfl⟩
            obtain ⟨ob2, hob2⟩ : ∃ ob2, wY.heap.size = ob2 := ⟨_, rfl⟩
            obtain ⟨wZ, hwZ⟩ : ∃ wZ, wY.alloc (.cells #[.int .u64 n1, .int .u64 n2] 55) = wZ := ⟨_, rfl⟩
            rw [hob1] at s0 s1 ⊢
            rw [hob2] at s2 s3
            rw [hwZ] at s0 s1 s2 s3 XY2
            have HOB := hid hob2; have HWZ := hid hwZ
            clear hk hry hob1 hob2 hwZ
            rw [HNB.out, HN1.out, HN2.out]
            obtain ⟨v, cv, sv⟩ := XY2.out.xy.cell
            obtain ⟨av, cpv, hav⟩ := sv.isSlice
            subst hav
            have SV := hid sv; clear sv
            go_wp2_with fail
            rw [HOB.out, HWZ.out]
            refine wp_region_till (fun w' => w'.cell? ⟨ob1, 0, none⟩ = some (.int .u64 n1) ∧ w'.cell? ⟨ob1, 1, none⟩ = some (.int .u64 n2) ∧ w'.cell? ⟨ob2, 0, none⟩ = some (.int .u64 n1) ∧ w'.cell? ⟨ob2, 1, none⟩ = some (.int .u64 n2) ∧ w'.cell? ⟨yb, 0, none⟩ = some (.slice av MT.length cpv)) 26 (by kernel_rfl) ⟨s0, s1, s2, s3, cv⟩ (fun hHeld => ?_)
            refine till_pure 0 (some 91) (v := ?v300) (by decide) rfl (by kernel_rfl) (by kernel_rfl) (by kernel_rfl) (by kernel_rfl) (by decide) (fun _ _ _ h => h) (Or.inl ⟨by rfl, ?y300⟩) (by assumption) ?r300
            case y300 => (intro w hSw; clear hSw; go_simp; (try with_reducible rfl))
            simp only [Act.put, List.setIfInBounds_toArray, List.set_cons_zero, List.set_cons_succ]
            refine till_pure 1 (some 92) (v := ?v301) (by decide) rfl (by kernel_rfl) (by kernel_rfl) (by kernel_rfl) (by kernel_rfl) (by decide) (fun _ _ _ h => h) (Or.inl ⟨by rfl, ?y301⟩) (by assumption) ?r301
            case y301 => (intro w hSw; clear hSw; go_simp; (try with_reducible rfl))
            simp only [Act.put, List.setIfInBounds_toArray, List.set_cons_zero, List.set_cons_succ]
            refine till_pure 2 (some 93) (v := ?v302) (by decide) rfl (by kernel_rfl) (by kernel_rfl) (by kernel_rfl) (by kernel_rfl) (by decide) (fun _ _ _ h => h) (Or.inl ⟨by rfl, ?y302⟩) (by assumption) ?r302
            case y302 => (intro w hSw; clear hSw; go_simp; (try with_reducible rfl))
            simp only [Act.put, List.setIfInBounds_toArray, List.set_cons_zero, List.set_cons_succ]
            refine till_pure 3 (some 94) (v := ?v303) (by decide) rfl (by kernel_rfl) (by kernel_rfl) (by kernel_rfl) (by kernel_rfl) (by decide) (fun _ _ _ h => h) (Or.inl ⟨by rfl, ?y303⟩) (by assumption) ?r303
            case y303 => (intro w hSw; clear hSw; go_simp; (try with_reducible rfl))
            simp only [Act.put, List.setIfInBounds_toArray, List.set_cons_zero, List.set_cons_succ]
            refine till_pure 4 (some 95) (v := ?v304) (by decide) rfl (by kernel_rfl) (by kernel_rfl) (by kernel_rfl) (by kernel_rfl) (by decide) (fun _ _ _ h => h) (Or.inl ⟨by rfl, ?y304⟩) (by assumption) ?r304
            case y304 => (intro w hSw; clear hSw; go_simp; (try with_reducible rfl))
            simp only [Act.put, List.setIfInBounds_toArray, List.set_cons_zero, List.set_cons_succ]
            refine till_pure 5 (some 96) (v := ?v305) (by decide) rfl (by kernel_rfl) (by kernel_rfl) (by kernel_rfl) (by kernel_rfl) (by decide) (fun _ _ _ h => h) (Or.inl ⟨by rfl, ?y305⟩) (by assumption) ?r305
            case y305 => (intro w hSw; clear hSw; go_simp; (try with_reducible rfl))
            simp only [Act.put, List.setIfInBounds_toArray, List.set_cons_zero, List.set_cons_succ]
            refine till_pure 6 (some 97) (v := ?v306) (by decide) rfl (by kernel_rfl) (by kernel_rfl) (by kernel_rfl) (by kernel_rfl) (by decide) (fun _ _ _ h => h) (Or.inl ⟨by rfl, ?y306⟩) (by assumption) ?r306
            case y306 => (intro w hSw; clear hSw; go_simp; (try with_reducible rfl))
            simp only [Act.put, List.setIfInBounds_toArray, List.set_cons_zero, List.set_cons_succ]
            refine till_pure 7 (some 98) (v := ?v307) (by decide) rfl (by kernel_rfl) (by kernel_rfl) (by kernel_rfl) (by kernel_rfl) (by decide) (fun _ _ _ h => h) (Or.inl ⟨by rfl, ?y307⟩) (by assumption) ?r307
            case y307 => (intro w hSw; clear hSw; go_simp; (try with_reducible rfl))
            simp only [Act.put, List.setIfInBounds_toArray, List.set_cons_zero, List.set_cons_succ]
            refine till_pure 8 (some 99) (v := ?v308) (by decide) rfl (by kernel_rfl) (by kernel_rfl) (by kernel_rfl) (by kernel_rfl) (by decide) (fun _ _ _ h => h) (Or.inl ⟨by rfl, ?y308⟩) (by assumption) ?r308
            case y308 => (intro w hSw; clear hSw; go_simp; (try with_reducible rfl))
            simp only [Act.put, List.setIfInBounds_toArray, List.set_cons_zero, List.set_cons_succ]
            refine till_load 9 (some 100) [20, 18, 17, 13, 12, 11] (v := ?v309) (by decide) rfl (by kernel_rfl) (by kernel_rfl) (by kernel_rfl) (by kernel_rfl) (by kernel_rfl) (by decide) (by decide) (fun _ _ _ h => h) (Or.inl ⟨by rfl, ?y309⟩) (by assumption) ?r309
            case y309 => (intro w hSw; (try dsimp only at hSw); go_simp; (try with_reducible rfl))
            simp only [Act.put, List.setIfInBounds_toArray, List.set_cons_zero, List.set_cons_succ]
            refine till_load 10 (some 101) [20, 18, 17, 13, 12, 11] (v := ?v310) (by decide) rfl (by kernel_rfl) (by kernel_rfl) (by kernel_rfl) (by kernel_rfl) (by kernel_rfl) (by decide) (by decide) (fun _ _ _ h => h) (Or.inl ⟨by rfl, ?y310⟩) (by assumption) ?r310
            case y310 => (intro w hSw; (try dsimp only at hSw); go_simp; (try with_reducible rfl))
            simp only [Act.put, List.setIfInBounds_toArray, List.set_cons_zero, List.set_cons_succ]
            refine till_pure 11 (some 102) (v := ?v311) (by decide) rfl (by kernel_rfl) (by kernel_rfl) (by kernel_rfl) (by kernel_rfl) (by decide) (fun _ _ _ h => h) (Or.inl ⟨by rfl, ?y311⟩) (by assumption) ?r311
            case y311 => (intro w hSw; clear hSw; go_simp; (try with_reducible rfl))
            simp only [Act.put, List.setIfInBounds_toArray, List.set_cons_zero, List.set_cons_succ]
            refine till_pure 12 (some 103) (v := ?v312) (by decide) rfl (by kernel_rfl) (by kernel_rfl) (by kernel_rfl) (by kernel_rfl) (by decide) (fun _ _ _ h => h) (Or.inl ⟨by rfl, ?y312⟩) (by assumption) ?r312
            case y312 => (intro w hSw; clear hSw; go_simp; (try with_reducible rfl))
            simp only [Act.put, List.setIfInBounds_toArray, List.set_cons_zero, List.set_cons_succ]
            refine till_pure 13 (some 104) (v := ?v313) (by decide) rfl (by kernel_rfl) (by kernel_rfl) (by kernel_rfl) (by kernel_rfl) (by decide) (fun _ _ _ h => h) (Or.inl ⟨by rfl, ?y313⟩) (by assumption) ?r313
            case y313 => (intro w hSw; clear hSw; go_simp; (try with_reducible rfl))
            simp only [Act.put, List.setIfInBounds_toArray, List.set_cons_zero, List.set_cons_succ]
            refine till_pure 14 (some 105) (v := ?v314) (by decide) rfl (by kernel_rfl) (by kernel_rfl) (by kernel_rfl) (by kernel_rfl) (by decide) (fun _ _ _ h => h) (Or.inl ⟨by rfl, ?y314⟩) (by assumption) ?r314
            case y314 => (intro w hSw; clear hSw; go_simp; (try with_reducible rfl))
            simp only [Act.put, List.setIfInBounds_toArray, List.set_cons_zero, List.set_cons_succ]
            refine till_pure 15 (some 106) (v := ?v315) (by decide) rfl (by kernel_rfl) (by kernel_rfl) (by kernel_rfl) (by kernel_rfl) (by decide) (fun _ _ _ h => h) (Or.inl ⟨by rfl, ?y315⟩) (by assumption) ?r315
            case y315 => (intro w hSw; clear hSw; go_simp; (try with_reducible rfl))
            simp only [Act.put, List.setIfInBounds_toArray, List.set_cons_zero, List.set_cons_succ]
            refine till_pure 16 (some 107) (v := ?v316) (by decide) rfl (by kernel_rfl) (by kernel_rfl) (by kernel_rfl) (by kernel_rfl) (by decide) (fun _ _ _ h => h) (Or.inl ⟨by rfl, ?y316⟩) (by assumption) ?r316
            case y316 => (intro w hSw; clear hSw; go_simp; (try with_reducible rfl))
            simp only [Act.put, List.setIfInBounds_toArray, List.set_cons_zero, List.set_cons_succ]
            refine till_pure 17 (some 108) (v := ?v317) (by decide) rfl (by kernel_rfl) (by kernel_rfl) (by kernel_rfl) (by kernel_rfl) (by decide) (fun _ _ _ h => h) (Or.inl ⟨by rfl, ?y317⟩) (by assumption) ?r317
            case y317 => (intro w hSw; clear hSw; go_simp; (try with_reducible rfl))
            simp only [Act.put, List.setIfInBounds_toArray, List.set_cons_zero, List.set_cons_succ]
            refine till_pure 18 (some 109) (v := ?v318) (by decide) rfl (by kernel_rfl) (by kernel_rfl) (by kernel_rfl) (by kernel_rfl) (by decide) (fun _ _ _ h => h) (Or.inl ⟨by rfl, ?y318⟩) (by assumption) ?r318
            case y318 => (intro w hSw; clear hSw; go_simp; (try with_reducible rfl))
            simp only [Act.put, List.setIfInBounds_toArray, List.set_cons_zero, List.set_cons_succ]
            refine till_pure 19 (some 110) (v := ?v319) (by decide) rfl (by kernel_rfl) (by kernel_rfl) (by kernel_rfl) (by kernel_rfl) (by decide) (fun _ _ _ h => h) (Or.inl ⟨by rfl, ?y319⟩) (by assumption) ?r319
            case y319 => (intro w hSw; clear hSw; go_simp; (try with_reducible rfl))
            simp only [Act.put, List.setIfInBounds_toArray, List.set_cons_zero, List.set_cons_succ]
            refine till_pure 21 (some 112) (v := ?v321) (by decide) rfl (by kernel_rfl) (by kernel_rfl) (by kernel_rfl) (by kernel_rfl) (by decide) (fun _ _ _ h => h) (Or.inl ⟨by rfl, ?y321⟩) (by assumption) ?r321
            case y321 => (intro w hSw; clear hSw; go_simp; (try with_reducible rfl))
            simp only [Act.put, List.setIfInBounds_toArray, List.set_cons_zero, List.set_cons_succ]
            refine till_pure 22 (some 113) (v := ?v322) (by decide) rfl (by kernel_rfl) (by kernel_rfl) (by kernel_rfl) (by kernel_rfl) (by decide) (fun _ _ _ h => h) (Or.inl ⟨by rfl, ?y322⟩) (by assumption) ?r322
            case y322 => (intro w hSw; clear hSw; go_simp; (try with_reducible rfl))
            simp only [Act.put, List.setIfInBounds_toArray, List.set_cons_zero, List.set_cons_succ]
            refine till_pure 23 (some 114) (v := ?v323) (by decide) rfl (by kernel_rfl) (by kernel_rfl) (by kernel_rfl) (by kernel_rfl) (by decide) (fun _ _ _ h => h) (Or.inl ⟨by rfl, ?y323⟩) (by assumption) ?r323
            case y323 => (intro w hSw; clear hSw; go_simp; (try with_reducible rfl))
            simp only [Act.put, List.setIfInBounds_toArray, List.set_cons_zero, List.set_cons_succ]
            refine till_load 24 (some 115) [25] (v := ?v324) (by decide) rfl (by kernel_rfl) (by kernel_rfl) (by kernel_rfl) (by kernel_rfl) (by kernel_rfl) (by decide) (by decide) (fun _ _ _ h => h) (Or.inl ⟨by rfl, ?y324⟩) (by assumption) ?r324
            case y324 => (intro w hSw; (try dsimp only at hSw); go_simp; (try with_reducible rfl))
            simp only [Act.put, List.setIfInBounds_toArray, List.set_cons_zero, List.set_cons_succ]
            refine till_pure 25 (some 116) (v := ?v325) (by decide) rfl (by kernel_rfl) (by kernel_rfl) (by kernel_rfl) (by kernel_rfl) (by decide) (fun _ _ _ h => h) (Or.inl ⟨by rfl, ?y325⟩) (by assumption) ?r325
            case y325 => (intro w hSw; clear hSw; go_simp; (try with_reducible rfl))
            simp only [Act.put, List.setIfInBounds_toArray, List.set_cons_zero, List.set_cons_succ]
            refine till_call 20 (by kernel_rfl) rfl (fun K hK => ?_)
            go_simp
            obtain ⟨F, hix⟩ := XY2.out.xy.ix
            refine (len_flat (by exact hix.same (Kept.drew (Kept.refl _ _)))).mono ?_
            rintro e wL ⟨rfl, hk⟩
            have hk' : Kept (fun _ => False) wZ wL := ((Kept.refl _ _).drew).trans hk
            have XL := hid (XY2.out.kept0 hk'); have KP := hid hk'
            clear hk hix
            have hS2 := And.intro (hk'.cell s0 (fun h => h)) (And.intro (hk'.cell s1 (fun h => h)) (And.intro (hk'.cell s2 (fun h => h)) (And.intro (hk'.cell s3 (fun h => h)) (hk'.cell cv (fun h => h)))))
            clear hk'
            try dsimp only []
            refine hK.out _ _ (by exact hS2) (fun hHeld => ?_)
            clear hK K
            try simp only [Act.put, List.setIfInBounds_toArray, List.set_cons_zero, List.set_cons_succ]
            have cv2 := hS2.2.2.2.2
            clear hS2 hHeld s0 s1 s2 s3 cv
            refine till_list [27] (by kernel_rfl) (by kernel_rfl) (by decide) (by decide) ?_
            simp only [pickOps, List.getElem?_toArray, List.getElem?_cons_zero, List.getElem?_cons_succ]
            obtain ⟨bq, hbq⟩ : ∃ bq, ((k : Int).tmod 8 == 7) = bq := ⟨_, rfl⟩
            cases bq with
            | true =>
              go_wp2_with fail
              refine wp_region_till (fun w' => w'.cell? ⟨yb, 0, none⟩ = some (.slice av MT.length cpv)) 10 (by kernel_rfl) cv2 (fun hHeld => ?_)
              refine till_pure 0 (some 119) (v := ?v330) (by decide) rfl (by kernel_rfl) (by kernel_rfl) (by kernel_rfl) (by kernel_rfl) (by decide) (fun _ _ _ h => h) (Or.inl ⟨by rfl, ?y330⟩) (by assumption) ?r330
              case y330 => (intro w hSw; clear hSw; go_simp; (try with_reducible rfl))
              simp only [Act.put, List.setIfInBounds_toArray, List.set_cons_zero, List.set_cons_succ]
              refine till_pure 1 (some 120) (v := ?v331) (by decide) rfl (by kernel_rfl) (by kernel_rfl) (by kernel_rfl) (by kernel_rfl) (by decide) (fun _ _ _ h => h) (Or.inl ⟨by rfl, ?y331⟩) (by assumption) ?r331
              case y331 => (intro w hSw; clear hSw; go_simp; (try with_reducible rfl))
              simp only [Act.put, List.setIfInBounds_toArray, List.set_cons_zero, List.set_cons_succ]
              refine till_pure 2 (some 121) (v := ?v332) (by decide) rfl (by kernel_rfl) (by kernel_rfl) (by kernel_rfl) (by kernel_rfl) (by decide) (fun _ _ _ h => h) (Or.inl ⟨by rfl, ?y332⟩) (by assumption) ?r332
              case y332 => (intro w hSw; clear hSw; go_simp; (try with_reducible rfl))
              simp only [Act.put, List.setIfInBounds_toArray, List.set_cons_zero, List.set_cons_succ]
              refine till_pure 3 (some 122) (v := ?v333) (by decide) rfl (by kernel_rfl) (by kernel_rfl) (by kernel_rfl) (by kernel_rfl) (by decide) (fun _ _ _ h => h) (Or.inl ⟨by rfl, ?y333⟩) (by assumption) ?r333
              case y333 => (intro w hSw; clear hSw; go_simp; (try with_reducible rfl))
              simp only [Act.put, List.setIfInBounds_toArray, List.set_cons_zero, List.set_cons_succ]
              refine till_pure 4 (some 123) (v := ?v334) (by decide) rfl (by kernel_rfl) (by kernel_rfl) (by kernel_rfl) (by kernel_rfl) (by decide) (fun _ _ _ h => h) (Or.inl ⟨by rfl, ?y334⟩) (by assumption) ?r334
              case y334 => (intro w hSw; clear hSw; go_simp; (try with_reducible rfl))
              simp only [Act.put, List.setIfInBounds_toArray, List.set_cons_zero, List.set_cons_succ]
              refine till_pure 6 (some 125) (v := ?v336) (by decide) rfl (by kernel_rfl) (by kernel_rfl) (by kernel_rfl) (by kernel_rfl) (by decide) (fun _ _ _ h => h) (Or.inl ⟨by rfl, ?y336⟩) (by assumption) ?r336
              case y336 => (intro w hSw; clear hSw; go_simp; (try with_reducible rfl))
              simp only [Act.put, List.setIfInBounds_toArray, List.set_cons_zero, List.set_cons_succ]
              refine till_pure 7 (some 126) (v := ?v337) (by decide) rfl (by kernel_rfl) (by kernel_rfl) (by kernel_rfl) (by kernel_rfl) (by decide) (fun _ _ _ h => h) (Or.inl ⟨by rfl, ?y337⟩) (by assumption) ?r337
              case y337 => (intro w hSw; clear hSw; go_simp; (try with_reducible rfl))
              simp only [Act.put, List.setIfInBounds_toArray, List.set_cons_zero, List.set_cons_succ]
              refine till_pure 8 (some 127) (v := ?v338) (by decide) rfl (by kernel_rfl) (by kernel_rfl) (by kernel_rfl) (by kernel_rfl) (by decide) (fun _ _ _ h => h) (Or.inl ⟨by rfl, ?y338⟩) (by assumption) ?r338
              case y338 => (intro w hSw; clear hSw; go_simp; (try with_reducible rfl))
              simp only [Act.put, List.setIfInBounds_toArray, List.set_cons_zero, List.set_cons_succ]
              refine till_load 9 (some 128) [] (v := ?v339) (by decide) rfl (by kernel_rfl) (by kernel_rfl) (by kernel_rfl) (by kernel_rfl) (by kernel_rfl) (by decide) (by decide) (fun _ _ _ h => h) (Or.inl ⟨by rfl, ?y339⟩) (by assumption) ?r339
              case y339 => (intro w hSw; (try dsimp only at hSw); go_simp; (try with_reducible rfl))
              simp only [Act.put, List.setIfInBounds_toArray, List.set_cons_zero, List.set_cons_succ]
              refine till_call 5 (by kernel_rfl) rfl (fun K hK => ?_)
              go_simp
              obtain ⟨F, hix⟩ := XL.out.xy.ix
              refine (pages_flat (by exact hix.same (Kept.drew (Kept.refl _ _)))).mono ?_
              rintro e wG ⟨PL, hwf, hfl, a, c, vs, rfl, hP, hk⟩
              have hk' : Kept (fun _ => False) wL wG := ((Kept.refl _ _).drew).trans hk
              have hP' : PagesAt wL wG (.slice a PL.length c) PL vs := ⟨hP.s, hP.f, hP.p⟩
              have P := hid hP'; have WF := hid hwf; have FL := hid hfl; have KQ := hid hk'
              clear hP hwf hfl hk hk' hP' hix
              have cv3 := KQ.out.cell cv2 (fun h => h)
              try dsimp only []
              refine hK.out _ _ (by exact cv3) (fun hHeld => ?_)
              clear hK K
              try simp only [Act.put, List.setIfInBounds_toArray, List.set_cons_zero, List.set_cons_succ]
              clear hHeld cv2 cv3
              refine till_list [11, 12] (by kernel_rfl) (by kernel_rfl) (by decide) (by decide) ?_
              simp only [pickOps, List.getElem?_toArray, List.getElem?_cons_zero, List.getElem?_cons_succ]
              have HMB := hid (show PL.flatten.length ≤ 1000000 by rw [FL.out]; have := XL.out.xy.lenA; omega)
              go_wp2_with fail
              refine (paged_any P.out WF.out (by rw [FL.out]; exact (SV.out.same KP.out).same KQ.out) HMB.out).mono ?_
              rintro e wH ⟨rfl, hk⟩
              have XH := hid ((XL.out.kept0 KQ.out).kept0 hk)
              clear hk
              go_wp2
              go_roundw
              case rel => exact ⟨k + 1, MT, by omega, by go_num, HKT.out, XH.out.xy⟩
              case measure => simp [intOf]; omega
            | false =>
              go_wp2_with fail
              refine wp_region_till (fun _ => True) 100 (by kernel_rfl) trivial (fun hHeld => ?_)
              refine till_pure 0 (some 119) (v := ?v340) (by decide) rfl (by kernel_rfl) (by kernel_rfl) (by kernel_rfl) (by kernel_rfl) (by decide) (fun _ _ _ h => h) (Or.inl ⟨by rfl, ?y340⟩) (by assumption) ?r340
              case y340 => (intro w hSw; clear hSw; go_simp; (try with_reducible rfl))
              simp only [Act.put, List.setIfInBounds_toArray, List.set_cons_zero, List.set_cons_succ]
              refine till_pure 1 (some 120) (v := ?v341) (by decide) rfl (by kernel_rfl) (by kernel_rfl) (by kernel_rfl) (by kernel_rfl) (by decide) (fun _ _ _ h => h) (Or.inl ⟨by rfl, ?y341⟩) (by assumption) ?r341
              case y341 => (intro w hSw; clear hSw; go_simp; (try with_reducible rfl))
              simp only [Act.put, List.setIfInBounds_toArray, List.set_cons_zero, List.set_cons_succ]
              refine till_pure 2 (some 121) (v := ?v342) (by decide) rfl (by kernel_rfl) (by kernel_rfl) (by kernel_rfl) (by kernel_rfl) (by decide) (fun _ _ _ h => h) (Or.inl ⟨by rfl, ?y342⟩) (by assumption) ?r342
              case y342 => (intro w hSw; clear hSw; go_simp; (try with_reducible rfl))
              simp only [Act.put, List.setIfInBounds_toArray, List.set_cons_zero, List.set_cons_succ]
              refine till_pure 3 (some 122) (v := ?v343) (by decide) rfl (by kernel_rfl) (by kernel_rfl) (by kernel_rfl) (by kernel_rfl) (by decide) (fun _ _ _ h => h) (Or.inl ⟨by rfl, ?y343⟩) (by assumption) ?r343
              case y343 => (intro w hSw; clear hSw; go_simp; (try with_reducible rfl))
              simp only [Act.put, List.setIfInBounds_toArray, List.set_cons_zero, List.set_cons_succ]
              refine till_pure 4 (some 123) (v := undef) (by decide) rfl (by kernel_rfl) (by kernel_rfl) (by kernel_rfl) (by kernel_rfl) (by decide) (fun _ _ _ h => h) (Or.inr ⟨by rfl, rfl⟩) (by assumption) ?_
              simp only [Act.put, List.setIfInBounds_toArray, List.set_cons_zero, List.set_cons_succ]
              refine till_pure 5 (some 124) (v := undef) (by decide) rfl (by kernel_rfl) (by kernel_rfl) (by kernel_rfl) (by kernel_rfl) (by decide) (fun _ _ _ h => h) (Or.inr ⟨by rfl, rfl⟩) (by assumption) ?_
              simp only [Act.put, List.setIfInBounds_toArray, List.set_cons_zero, List.set_cons_succ]
              refine till_pure 6 (some 125) (v := undef) (by decide) rfl (by kernel_rfl) (by kernel_rfl) (by kernel_rfl) (by kernel_rfl) (by decide) (fun _ _ _ h => h) (Or.inr ⟨by rfl, rfl⟩) (by assumption) ?_
              simp only [Act.put, List.setIfInBounds_toArray, List.set_cons_zero, List.set_cons_succ]
              refine till_pure 7 (some 126) (v := undef) (by decide) rfl (by kernel_rfl) (by kernel_rfl) (by kernel_rfl) (by kernel_rfl) (by decide) (fun _ _ _ h => h) (Or.inr ⟨by rfl, rfl⟩) (by assumption) ?_
              simp only [Act.put, List.setIfInBounds_toArray, List.set_cons_zero, List.set_cons_succ]
              refine till_pure 8 (some 127) (v := undef) (by decide) rfl (by kernel_rfl) (by kernel_rfl) (by kernel_rfl) (by kernel_rfl) (by decide) (fun _ _ _ h => h) (Or.inr ⟨by rfl, rfl⟩) (by assumption) ?_
              simp only [Act.put, List.setIfInBounds_toArray, List.set_cons_zero, List.set_cons_succ]
              refine till_pure 9 (some 128) (v := undef) (by decide) rfl (by kernel_rfl) (by kernel_rfl) (by kernel_rfl) (by kernel_rfl) (by decide) (fun _ _ _ h => h) (Or.inr ⟨by rfl, rfl⟩) (by assumption) ?_
              simp only [Act.put, List.setIfInBounds_toArray, List.set_cons_zero, List.set_cons_succ]
              refine till_pure 10 (some 129) (v := undef) (by decide) rfl (by kernel_rfl) (by kernel_rfl) (by kernel_rfl) (by kernel_rfl) (by decide) (fun _ _ _ h => h) (Or.inr ⟨by rfl, rfl⟩) (by assumption) ?_
              simp only [Act.put, List.setIfInBounds_toArray, List.set_cons_zero, List.set_cons_succ]
              refine till_pure 11 (some 130) (v := undef) (by decide) rfl (by kernel_rfl) (by kernel_rfl) (by kernel_rfl) (by kernel_rfl) (by decide) (fun _ _ _ h => h) (Or.inr ⟨by rfl, rfl⟩) (by assumption) ?_
              simp only [Act.put, List.setIfInBounds_toArray, List.set_cons_zero, List.set_cons_succ]
              refine till_pure 12 (some 131) (v := ?v352) (by decide) rfl (by kernel_rfl) (by kernel_rfl) (by kernel_rfl) (by kernel_rfl) (by decide) (fun _ _ _ h => h) (Or.inl ⟨by rfl, ?y352⟩) (by assumption) ?r352
              case y352 => (intro w hSw; clear hSw; go_simp; (try with_reducible rfl))
              simp only [Act.put, List.setIfInBounds_toArray, List.set_cons_zero, List.set_cons_succ]
              refine till_done (by kernel_rfl) ?_ _
              clear hHeld
              go_wp2
              go_roundw
              case rel => exact ⟨k + 1, MT, by omega, by go_num, HKT.out, (XL.out.kept0 ((Kept.refl _ _).drew)).xy⟩
              case measure => simp [intOf]; omega
          · have z0 := Z0.out
            go_wp2_with fail
            rw [HWO.out, HOB0.out]
            refine wp_region_till (fun w' => w'.cell? ⟨ob, 1, none⟩ = some (.int .u64 key)) 7 (by kernel_rfl) z1 (fun hHeld => ?_)
            refine till_pure 0 (some 56) (v := ?v170) (by decide) rfl (by kernel_rfl) (by kernel_rfl) (by kernel_rfl) (by kernel_rfl) (by decide) (fun _ _ _ h => h) (Or.inl ⟨by rfl, ?y170⟩) (by assumption) ?r170
            case y170 => (intro w hSw; clear hSw; go_simp; (try with_reducible rfl))
            simp only [Act.put, List.setIfInBounds_toArray, List.set_cons_zero, List.set_cons_succ]
            refine till_pure 1 (some 57) (v := ?v171) (by decide) rfl (by kernel_rfl) (by kernel_rfl) (by kernel_rfl) (by kernel_rfl) (by decide) (fun _ _ _ h => h) (Or.inl ⟨by rfl, ?y171⟩) (by assumption) ?r171
            case y171 => (intro w hSw; clear hSw; go_simp; (try with_reducible rfl))
            simp only [Act.put, List.setIfInBounds_toArray, List.set_cons_zero, List.set_cons_succ]
            refine till_load 2 (some 58) [3] (v := ?v172) (by decide) rfl (by kernel_rfl) (by kernel_rfl) (by kernel_rfl) (by kernel_rfl) (by kernel_rfl) (by decide) (by decide) (fun _ _ _ h => h) (Or.inl ⟨by rfl, ?y172⟩) (by assumption) ?r172
            case y172 => (intro w hSw; (try dsimp only at hSw); go_simp; (try with_reducible rfl))
            simp only [Act.put, List.setIfInBounds_toArray, List.set_cons_zero, List.set_cons_succ]
            refine till_pure 4 (some 60) (v := ?v173) (by decide) rfl (by kernel_rfl) (by kernel_rfl) (by kernel_rfl) (by kernel_rfl) (by decide) (fun _ _ _ h => h) (Or.inl ⟨by rfl, ?y173⟩) (by assumption) ?r173
            case y173 => (intro w hSw; clear hSw; go_simp; (try with_reducible rfl))
            simp only [Act.put, List.setIfInBounds_toArray, List.set_cons_zero, List.set_cons_succ]
            refine till_pure 5 (some 61) (v := ?v174) (by decide) rfl (by kernel_rfl) (by kernel_rfl) (by kernel_rfl) (by kernel_rfl) (by decide) (fun _ _ _ h => h) (Or.inl ⟨by rfl, ?y174⟩) (by assumption) ?r174
            case y174 => (intro w hSw; clear hSw; go_simp; (try with_reducible rfl))
            simp only [Act.put, List.setIfInBounds_toArray, List.set_cons_zero, List.set_cons_succ]
            refine till_load 6 (some 62) [] (v := ?v175) (by decide) rfl (by kernel_rfl) (by kernel_rfl) (by kernel_rfl) (by kernel_rfl) (by kernel_rfl) (by decide) (by decide) (fun _ _ _ h => h) (Or.inl ⟨by rfl, ?y175⟩) (by assumption) ?r175
            case y175 => (intro w hSw; (try dsimp only at hSw); go_simp; (try with_reducible rfl))
            simp only [Act.put, List.setIfInBounds_toArray, List.set_cons_zero, List.set_cons_succ]
            refine till_call 3 (by kernel_rfl) rfl (fun K hK => ?_)
            go_simp
            refine (XN.delx (by exact XNO.out.kept0 ((Kept.refl _ _).drew)) key).mono ?_
            rintro e wP ⟨rfl, hx, hk⟩
            have XP := hid hx
            replace z1 := hk.cell z1 (fun h => h HN.out)
            clear hx hk
            try dsimp only []
            refine hK.out _ _ (by exact z1) (fun hHeld => ?_)
            clear hK K
            try simp only [Act.put, List.setIfInBounds_toArray, List.set_cons_zero, List.set_cons_succ]
            clear hHeld
            refine till_list [8] (by kernel_rfl) (by kernel_rfl) (by decide) (by decide) ?_
            simp only [pickOps, List.getElem?_toArray, List.getElem?_cons_zero, List.getElem?_cons_succ]
            go_wp2_with fail
            refine (XP.out.dely (by have := XNO.out.xy.lenA; omega) XNO.out.xy.upA key).mono ?_
            rintro e wT ⟨rfl, hx, hk⟩
            have XT := hid hx
            replace z1 := hk.cell z1 (fun h => h HN.out)
            have HKT := hid (HKM.out.drop key)
            obtain ⟨MT, hMT⟩ : ∃ MT, dropL M key = MT := ⟨_, rfl⟩
            rw [hMT] at XT HKT
            clear hx hk hMT z0 z2
            go_wp2_with fail
            obtain ⟨F, hix⟩ := XT.out.xy.ix
            refine (get_flat hix key).mono ?_
            rintro e wU ⟨rfl, hk⟩
            have XU := hid (XT.out.kept0 hk); replace z1 := hk.cell z1 (fun h => h)
            clear hk hix
            obtain ⟨gb, hgb⟩ : ∃ gb, (getI MT key).isSome = gb := ⟨_, rfl⟩
            obtain ⟨gv, hgv⟩ : ∃ gv, (getI MT key).getD 0 = gv := ⟨_, rfl⟩
            rw [hgb, hgv]
            have HGB := hid hgb; have HGV := hid hgv
            clear hgb hgv
            go_wp2_with fail
            obtain ⟨G, u, hry⟩ := XU.out.xy.ry
            refine (rget_any hry (by have := XU.out.xy.lenA; omega) key).mono ?_
            rintro e wV ⟨rfl, hk⟩
            have XV := hid (XU.out.kept0 hk)
            clear hk hry z1
            rw [HGB.out, HGV.out]
            go_wp2_with fail
            obtain ⟨F, hix⟩ := XV.out.xy.ix
            refine (next_flat hix fr).mono ?_
            rintro e wX ⟨rfl, hk⟩
            have XX := hid (XV.out.kept0 hk)
            clear hk hix
            obtain ⟨nb, hnb⟩ : ∃ nb, (nextI MT fr).isSome = nb := ⟨_, rfl⟩
            obtain ⟨n1, hn1⟩ : ∃ n1, ((nextI MT fr).getD (0, 0)).1 = n1 := ⟨_, rfl⟩
            obtain ⟨n2, hn2⟩ : ∃ n2, ((nextI MT fr).getD (0, 0)).2 = n2 := ⟨_, rfl⟩
            rw [hnb, hn1, hn2]
            have HNB := hid hnb; have HN1 := hid hn1; have HN2 := hid hn2
            clear hnb hn1 hn2
            go_wp2_with fail
            have XY1 := hid (XX.out.kept0 ((Kept.refl (fun _ => False) wX).alloc (.cells #[.int .u64 n1, .int .u64 n2] 33)))
            obtain ⟨G, u, hry⟩ := XY1.out.xy.ry
            refine (rnext_any hry (by have := XU.out.xy.lenA; omega) (fun x hx => (HKT.out x hx).2) fr).mono ?_
            rintro e wY ⟨rfl, hk⟩
            have XY2 := hid (XY1.out.kept0 (hk.alloc (.cells #[.int .u64 n1, .int .u64 n2] 55)))
            have s0 := (hk.alloc (.cells #[.int .u64 n1, .int .u64 n2] 55)).cell (row_cell (row_new wX (.cells #[.int .u64 n1, .int .u64 n2] 33)) 0) (fun h => h)
            have s1 := (hk.alloc (.cells #[.int .u64 n1, .int .u64 n2] 55)).cell (row_cell (row_new wX (.cells #[.int .u64 n1, .int .u64 n2] 33)) 1) (fun h => h)
            have s2 : (wY.alloc (.cells #[.int .u64 n1, .int .u64 n2] 55)).cell? ⟨wY.heap.size, 0, none⟩ = some (.int .u64 n1) := row_cell (row_new wY _) 0
            have s3 : (wY.alloc (.cells #[.int .u64 n1, .int .u64 n2] 55)).cell? ⟨wY.heap.size, 1, none⟩ = some (.int .u64 n2) := row_cell (row_new wY _) 1
            obtain ⟨ob1, hob1⟩ : ∃ ob1, wX.heap.size = ob1 := ⟨_, rfl⟩
            obtain ⟨ob2, hob2⟩ : ∃ ob2, wY.heap.size = ob2 := ⟨_, rfl⟩
            obtain ⟨wZ, hwZ⟩ : ∃ wZ, wY.alloc (.cells #[.int .u64 n1, .int .u64 n2] 55) = wZ := ⟨_, rfl⟩
            rw [hob1] at s0 s1 ⊢
            rw [hob2] at s2 s3
            rw [hwZ] at s0 s1 s2 s3 XY2
            have HOB := hid hob2; have HWZ := hid hwZ
            clear hk hry hob1 hob2 hwZ
            rw [HNB.out, HN1.out, HN2.out]
            obtain ⟨v, cv, sv⟩ := XY2.out.xy.cell
            obtain ⟨av, cpv, hav⟩ := sv.isSlice
            subst hav
            have SV := hid sv; clear sv
            go_wp2_with fail
            rw [HOB.out, HWZ.out]
            refine wp_region_till (fun w' => w'.cell? ⟨ob1, 0, none⟩ = some (.int .u64 n1) ∧ w'.cell? ⟨ob1, 1, none⟩ = some (.int .u64 n2) ∧ w'.cell? ⟨ob2, 0, none⟩ = some (.int .u64 n1) ∧ w'.cell? ⟨ob2, 1, none⟩ = some (.int .u64 n2) ∧ w'.cell? ⟨yb, 0, none⟩ = some (.slice av MT.length cpv)) 26 (by kernel_rfl) ⟨s0, s1, s2, s3, cv⟩ (fun hHeld => ?_)
            refine till_pure 0 (some 91) (v := ?v400) (by decide) rfl (by kernel_rfl) (by kernel_rfl) (by kernel_rfl) (by kernel_rfl) (by decide) (fun _ _ _ h => h) (Or.inl ⟨by rfl, ?y400⟩) (by assumption) ?r400
            case y400 => (intro w hSw; clear hSw; go_simp; (try with_reducible rfl))
            simp only [Act.put, List.setIfInBounds_toArray, List.set_cons_zero, List.set_cons_succ]
            refine till_pure 1 (some 92) (v := ?v401) (by decide) rfl (by kernel_rfl) (by kernel_rfl) (by kernel_rfl) (by kernel_rfl) (by decide) (fun _ _ _ h => h) (Or.inl ⟨by rfl, ?y401⟩) (by assumption) ?r401
            case y401 => (intro w hSw; clear hSw; go_simp; (try with_reducible rfl))
            simp only [Act.put, List.setIfInBounds_toArray, List.set_cons_zero, List.set_cons_succ]
            refine till_pure 2 (some 93) (v := ?v402) (by decide) rfl (by kernel_rfl) (by kernel_rfl) (by kernel_rfl) (by kernel_rfl) (by decide) (fun _ _ _ h => h) (Or.inl ⟨by rfl, ?y402⟩) (by assumption) ?r402
            case y402 => (intro w hSw; clear hSw; go_simp; (try with_reducible rfl))
            simp only [Act.put, List.setIfInBounds_toArray, List.set_cons_zero, List.set_cons_succ]
            refine till_pure 3 (some 94) (v := ?v403) (by decide) rfl (by kernel_rfl) (by kernel_rfl) (by kernel_rfl) (by kernel_rfl) (by decide) (fun _ _ _ h => h) (Or.inl ⟨by rfl, ?y403⟩) (by assumption) ?r403
            case y403 => (intro w hSw; clear hSw; go_simp; (try with_reducible rfl))
            simp only [Act.put, List.setIfInBounds_toArray, List.set_cons_zero, List.set_cons_succ]
            refine till_pure 4 (some 95) (v := ?v404) (by decide) rfl (by kernel_rfl) (by kernel_rfl) (by kernel_rfl) (by kernel_rfl) (by decide) (fun _ _ _ h => h) (Or.inl ⟨by rfl, ?y404⟩) (by assumption) ?r404
            case y404 => (intro w hSw; clear hSw; go_simp; (try with_reducible rfl))
            simp only [Act.put, List.setIfInBounds_toArray, List.set_cons_zero, List.set_cons_succ]
            refine till_pure 5 (some 96) (v := ?v405) (by decide) rfl (by kernel_rfl) (by kernel_rfl) (by kernel_rfl) (by kernel_rfl) (by decide) (fun _ _ _ h => h) (Or.inl ⟨by rfl, ?y405⟩) (by assumption) ?r405
            case y405 => (intro w hSw; clear hSw; go_simp; (try with_reducible rfl))
            simp only [Act.put, List.setIfInBounds_toArray, List.set_cons_zero, List.set_cons_succ]
            refine till_pure 6 (some 97) (v := ?v406) (by decide) rfl (by kernel_rfl) (by kernel_rfl) (by kernel_rfl) (by kernel_rfl) (by decide) (fun _ _ _ h => h) (Or.inl ⟨by rfl, ?y406⟩) (by assumption) ?r406
            case y406 => (intro w hSw; clear hSw; go_simp; (try with_reducible rfl))
            simp only [Act.put, List.setIfInBounds_toArray, List.set_cons_zero, List.set_cons_succ]
            refine till_pure 7 (some 98) (v := ?v407) (by decide) rfl (by kernel_rfl) (by kernel_rfl) (by kernel_rfl) (by kernel_rfl) (by decide) (fun _ _ _ h => h) (Or.inl ⟨by rfl, ?y407⟩) (by assumption) ?r407
            case y407 => (intro w hSw; clear hSw; go_simp; (try with_reducible rfl))
            simp only [Act.put, List.setIfInBounds_toArray, List.set_cons_zero, List.set_cons_succ]
            refine till_pure 8 (some 99) (v := ?v408) (by decide) rfl (by kernel_rfl) (by kernel_rfl) (by kernel_rfl) (by kernel_rfl) (by decide) (fun _ _ _ h => h) (Or.inl ⟨by rfl, ?y408⟩) (by assumption) ?r408
            case y408 => (intro w hSw; clear hSw; go_simp; (try with_reducible rfl))
            simp only [Act.put, List.setIfInBounds_toArray, List.set_cons_zero, List.set_cons_succ]
            refine till_load 9 (some 100) [20, 18, 17, 13, 12, 11] (v := ?v409) (by decide) rfl (by kernel_rfl) (by kernel_rfl) (by kernel_rfl) (by kernel_rfl) (by kernel_rfl) (by decide) (by decide) (fun _ _ _ h => h) (Or.inl ⟨by rfl, ?y409⟩) (by assumption) ?r409
            case y409 => (intro w hSw; (try dsimp only at hSw); go_simp; (try with_reducible rfl))
            simp only [Act.put, List.setIfInBounds_toArray, List.set_cons_zero, List.set_cons_succ]
            refine till_load 10 (some 101) [20, 18, 17, 13, 12, 11] (v := ?v410) (by decide) rfl (by kernel_rfl) (by kernel_rfl) (by kernel_rfl) (by kernel_rfl) (by kernel_rfl) (by decide) (by decide) (fun _ _ _ h => h) (Or.inl ⟨by rfl, ?y410⟩) (by assumption) ?r410
            case y410 => (intro w hSw; (try dsimp only at hSw); go_simp; (try with_reducible rfl))
            simp only [Act.put, List.setIfInBounds_toArray, List.set_cons_zero, List.set_cons_succ]
            refine till_pure 11 (some 102) (v := ?v411) (by decide) rfl (by kernel_rfl) (by kernel_rfl) (by kernel_rfl) (by kernel_rfl) (by decide) (fun _ _ _ h => h) (Or.inl ⟨by rfl, ?y411⟩) (by assumption) ?r411
            case y411 => (intro w hSw; clear hSw; go_simp; (try with_reducible rfl))
            simp only [Act.put, List.setIfInBounds_toArray, List.set_cons_zero, List.set_cons_succ]
            refine till_pure 12 (some 103) (v := ?v412) (by decide) rfl (by kernel_rfl) (by kernel_rfl) (by kernel_rfl) (by kernel_rfl) (by decide) (fun _ _ _ h => h) (Or.inl ⟨by rfl, ?y412⟩) (by assumption) ?r412
            case y412 => (intro w hSw; clear hSw; go_simp; (try with_reducible rfl))
            simp only [Act.put, List.setIfInBounds_toArray, List.set_cons_zero, List.set_cons_succ]
            refine till_pure 13 (some 104) (v := ?v413) (by decide) rfl (by kernel_rfl) (by kernel_rfl) (by kernel_rfl) (by kernel_rfl) (by decide) (fun _ _ _ h => h) (Or.inl ⟨by rfl, ?y413⟩) (by assumption) ?r413
            case y413 => (intro w hSw; clear hSw; go_simp; (try with_reducible rfl))
            simp only [Act.put, List.setIfInBounds_toArray, List.set_cons_zero, List.set_cons_succ]
            refine till_pure 14 (some 105) (v := ?v414) (by decide) rfl (by kernel_rfl) (by kernel_rfl) (by kernel_rfl) (by kernel_rfl) (by decide) (fun _ _ _ h => h) (Or.inl ⟨by rfl, ?y414⟩) (by assumption) ?r414
            case y414 => (intro w hSw; clear hSw; go_simp; (try with_reducible rfl))
            simp only [Act.put, List.setIfInBounds_toArray, List.set_cons_zero, List.set_cons_succ]
            refine till_pure 15 (some 106) (v := ?v415) (by decide) rfl (by kernel_rfl) (by kernel_rfl) (by kernel_rfl) (by kernel_rfl) (by decide) (fun _ _ _ h => h) (Or.inl ⟨by rfl, ?y415⟩) (by assumption) ?r415
            case y415 => (intro w hSw; clear hSw; go_simp; (try with_reducible rfl))
            simp only [Act.put, List.setIfInBounds_toArray, List.set_cons_zero, List.set_cons_succ]
            refine till_pure 16 (some 107) (v := ?v416) (by decide) rfl (by kernel_rfl) (by kernel_rfl) (by kernel_rfl) (by kernel_rfl) (by decide) (fun _ _ _ h => h) (Or.inl ⟨by rfl, ?y416⟩) (by assumption) ?r416
            case y416 => (intro w hSw; clear hSw; go_simp; (try with_reducible rfl))
            simp only [Act.put, List.setIfInBounds_toArray, List.set_cons_zero, List.set_cons_succ]
            refine till_pure 17 (some 108) (v := ?v417) (by decide) rfl (by kernel_rfl) (by kernel_rfl) (by kernel_rfl) (by kernel_rfl) (by decide) (fun _ _ _ h => h) (Or.inl ⟨by rfl, ?y417⟩) (by assumption) ?r417
            case y417 => (intro w hSw; clear hSw; go_simp; (try with_reducible rfl))
            simp only [Act.put, List.setIfInBounds_toArray, List.set_cons_zero, List.set_cons_succ]
            refine till_pure 18 (some 109) (v := ?v418) (by decide) rfl (by kernel_rfl) (by kernel_rfl) (by kernel_rfl) (by kernel_rfl) (by decide) (fun _ _ _ h => h) (Or.inl ⟨by rfl, ?y418⟩) (by assumption) ?r418
            case y418 => (intro w hSw; clear hSw; go_simp; (try with_reducible rfl))
            simp only [Act.put, List.setIfInBounds_toArray, List.set_cons_zero, List.set_cons_succ]
            refine till_pure 19 (some 110) (v := ?v419) (by decide) rfl (by kernel_rfl) (by kernel_rfl) (by kernel_rfl) (by kernel_rfl) (by decide) (fun _ _ _ h => h) (Or.inl ⟨by rfl, ?y419⟩) (by assumption) ?r419
            case y419 => (intro w hSw; clear hSw; go_simp; (try with_reducible rfl))
            simp only [Act.put, List.setIfInBounds_toArray, List.set_cons_zero, List.set_cons_succ]
            refine till_pure 21 (some 112) (v := ?v421) (by decide) rfl (by kernel_rfl) (by kernel_rfl) (by kernel_rfl) (by kernel_rfl) (by decide) (fun _ _ _ h => h) (Or.inl ⟨by rfl, ?y421⟩) (by assumption) ?r421
            case y421 => (intro w hSw; clear hSw; go_simp; (try with_reducible rfl))
            simp only [Act.put, List.setIfInBounds_toArray, List.set_cons_zero, List.set_cons_succ]
            refine till_pure 22 (some 113) (v := ?v422) (by decide) rfl (by kernel_rfl) (by kernel_rfl) (by kernel_rfl) (by kernel_rfl) (by decide) (fun _ _ _ h => h) (Or.inl ⟨by rfl, ?y422⟩) (by assumption) ?r422
            case y422 => (intro w hSw; clear hSw; go_simp; (try with_reducible rfl))
            simp only [Act.put, List.setIfInBounds_toArray, List.set_cons_zero, List.set_cons_succ]
            refine till_pure 23 (some 114) (v := ?v423) (by decide) rfl (by kernel_rfl) (by kernel_rfl) (by kernel_rfl) (by kernel_rfl) (by decide) (fun _ _ _ h => h) (Or.inl ⟨by rfl, ?y423⟩) (by assumption) ?r423
            case y423 => (intro w hSw; clear hSw; go_simp; (try with_reducible rfl))
            simp only [Act.put, List.setIfInBounds_toArray, List.set_cons_zero, List.set_cons_succ]
            refine till_load 24 (some 115) [25] (v := ?v424) (by decide) rfl (by kernel_rfl) (by kernel_rfl) (by kernel_rfl) (by kernel_rfl) (by kernel_rfl) (by decide) (by decide) (fun _ _ _ h => h) (Or.inl ⟨by rfl, ?y424⟩) (by assumption) ?r424
            case y424 => (intro w hSw; (try dsimp only at hSw); go_simp; (try with_reducible rfl))
            simp only [Act.put, List.setIfInBounds_toArray, List.set_cons_zero, List.set_cons_succ]
            refine till_pure 25 (some 116) (v := ?v425) (by decide) rfl (by kernel_rfl) (by kernel_rfl) (by kernel_rfl) (by kernel_rfl) (by decide) (fun _ _ _ h => h) (Or.inl ⟨by rfl, ?y425⟩) (by assumption) ?r425
            case y425 => (intro w hSw; clear hSw; go_simp; (try with_reducible rfl))
            simp only [Act.put, List.setIfInBounds_toArray, List.set_cons_zero, List.set_cons_succ]
            refine till_call 20 (by kernel_rfl) rfl (fun K hK => ?_)
            go_simp
            obtain ⟨F, hix⟩ := XY2.out.xy.ix
            refine (len_flat (by exact hix.same (Kept.drew (Kept.refl _ _)))).mono ?_
            rintro e wL ⟨rfl, hk⟩
            have hk' : Kept (fun _ => False) wZ wL := ((Kept.refl _ _).drew).trans hk
            have XL := hid (XY2.out.kept0 hk'); have KP := hid hk'
            clear hk hix
            have hS2 := And.intro (hk'.cell s0 (fun h => h)) (And.intro (hk'.cell s1 (fun h => h)) (And.intro (hk'.cell s2 (fun h => h)) (And.intro (hk'.cell s3 (fun h => h)) (hk'.cell cv (fun h => h)))))
            clear hk'
            try dsimp only []
            refine hK.out _ _ (by exact hS2) (fun hHeld => ?_)
            clear hK K
            try simp only [Act.put, List.setIfInBounds_toArray, List.set_cons_zero, List.set_cons_succ]
            have cv2 := hS2.2.2.2.2
            clear hS2 hHeld s0 s1 s2 s3 cv
            refine till_list [27] (by kernel_rfl) (by kernel_rfl) (by decide) (by decide) ?_
            simp only [pickOps, List.getElem?_toArray, List.getElem?_cons_zero, List.getElem?_cons_succ]
            obtain ⟨bq, hbq⟩ : ∃ bq, ((k : Int).tmod 8 == 7) = bq := ⟨_, rfl⟩
            cases bq with
            | true =>
              go_wp2_with fail
              refine wp_region_till (fun w' => w'.cell? ⟨yb, 0, none⟩ = some (.slice av MT.length cpv)) 10 (by kernel_rfl) cv2 (fun hHeld => ?_)
              refine till_pure 0 (some 119) (v := ?v430) (by decide) rfl (by kernel_rfl) (by kernel_rfl) (by kernel_rfl) (by kernel_rfl) (by decide) (fun _ _ _ h => h) (Or.inl ⟨by rfl, ?y430⟩) (by assumption) ?r430
              case y430 => (intro w hSw; clear hSw; go_simp; (try with_reducible rfl))
              simp only [Act.put, List.setIfInBounds_toArray, List.set_cons_zero, List.set_cons_succ]
              refine till_pure 1 (some 120) (v := ?v431) (by decide) rfl (by kernel_rfl) (by kernel_rfl) (by kernel_rfl) (by kernel_rfl) (by decide) (fun _ _ _ h => h) (Or.inl ⟨by rfl, ?y431⟩) (by assumption) ?r431
              case y431 => (intro w hSw; clear hSw; go_simp; (try with_reducible rfl))
              simp only [Act.put, List.setIfInBounds_toArray, List.set_cons_zero, List.set_cons_succ]
              refine till_pure 2 (some 121) (v := ?v432) (by decide) rfl (by kernel_rfl) (by kernel_rfl) (by kernel_rfl) (by kernel_rfl) (by decide) (fun _ _ _ h => h) (Or.inl ⟨by rfl, ?y432⟩) (by assumption) ?r432
              case y432 => (intro w hSw; clear hSw; go_simp; (try with_reducible rfl))
              simp only [Act.put, List.setIfInBounds_toArray, List.set_cons_zero, List.set_cons_succ]
              refine till_pure 3 (some 122) (v := ?v433) (by decide) rfl (by kernel_rfl) (by kernel_rfl) (by kernel_rfl) (by kernel_rfl) (by decide) (fun _ _ _ h => h) (Or.inl ⟨by rfl, ?y433⟩) (by assumption) ?r433
              case y433 => (intro w hSw; clear hSw; go_simp; (try with_reducible rfl))
              simp only [Act.put, List.setIfInBounds_toArray, List.set_cons_zero, List.set_cons_succ]
              refine till_pure 4 (some 123) (v := ?v434) (by decide) rfl (by kernel_rfl) (by kernel_rfl) (by kernel_rfl) (by kernel_rfl) (by decide) (fun _ _ _ h => h) (Or.inl ⟨by rfl, ?y434⟩) (by assumption) ?r434
              case y434 => (intro w hSw; clear hSw; go_simp; (try with_reducible rfl))
              simp only [Act.put, List.setIfInBounds_toArray, List.set_cons_zero, List.set_cons_succ]
              refine till_pure 6 (some 125) (v := ?v436) (by decide) rfl (by kernel_rfl) (by kernel_rfl) (by kernel_rfl) (by kernel_rfl) (by decide) (fun _ _ _ h => h) (Or.inl ⟨by rfl, ?y436⟩) (by assumption) ?r436
              case y436 => (intro w hSw; clear hSw; go_simp; (try with_reducible rfl))
              simp only [Act.put, List.setIfInBounds_toArray, List.set_cons_zero, List.set_cons_succ]
              refine till_pure 7 (some 126) (v := ?v437) (by decide) rfl (by kernel_rfl) (by kernel_rfl) (by kernel_rfl) (by kernel_rfl) (by decide) (fun _ _ _ h => h) (Or.inl ⟨by rfl, ?y437⟩) (by assumption) ?r437
              case y437 => (intro w hSw; clear hSw; go_simp; (try with_reducible rfl))
              simp only [Act.put, List.setIfInBounds_toArray, List.set_cons_zero, List.set_cons_succ]
              refine till_pure 8 (some 127) (v := ?v438) (by decide) rfl (by kernel_rfl) (by kernel_rfl) (by kernel_rfl) (by kernel_rfl) (by decide) (fun _ _ _ h => h) (Or.inl ⟨by rfl, ?y438⟩) (by assumption) ?r438
              case y438 => (intro w hSw; clear hSw; go_simp; (try with_reducible rfl))
              simp only [Act.put, List.setIfInBounds_toArray, List.set_cons_zero, List.set_cons_succ]
              refine till_load 9 (some 128) [] (v := ?v439) (by decide) rfl (by kernel_rfl) (by kernel_rfl) (by kernel_rfl) (by kernel_rfl) (by kernel_rfl) (by decide) (by decide) (fun _ _ _ h => h) (Or.inl ⟨by rfl, ?y439⟩) (by assumption) ?r439
              case y439 => (intro w hSw; (try dsimp only at hSw); go_simp; (try with_reducible rfl))
              simp only [Act.put, List.setIfInBounds_toArray, List.set_cons_zero, List.set_cons_succ]
              refine till_call 5 (by kernel_rfl) rfl (fun K hK => ?_)
              go_simp
              obtain ⟨F, hix⟩ := XL.out.xy.ix
              refine (pages_flat (by exact hix.same (Kept.drew (Kept.refl _ _)))).mono ?_
              rintro e wG ⟨PL, hwf, hfl, a, c, vs, rfl, hP, hk⟩
              have hk' : Kept (fun _ => False) wL wG := ((Kept.refl _ _).drew).trans hk
              have hP' : PagesAt wL wG (.slice a PL.length c) PL vs := ⟨hP.s, hP.f, hP.p⟩
              have P := hid hP'; have WF := hid hwf; have FL := hid hfl; have KQ := hid hk'
              clear hP hwf hfl hk hk' hP' hix
              have cv3 := KQ.out.cell cv2 (fun h => h)
              try dsimp only []
              refine hK.out _ _ (by exact cv3) (fun hHeld => ?_)
              clear hK K
              try simp only [Act.put, List.setIfInBounds_toArray, List.set_cons_zero, List.set_cons_succ]
              clear hHeld cv2 cv3
              refine till_list [11, 12] (by kernel_rfl) (by kernel_rfl) (by decide) (by decide) ?_
              simp only [pickOps, List.getElem?_toArray, List.getElem?_cons_zero, List.getElem?_cons_succ]
              have HMB := hid (show PL.flatten.length ≤ 1000000 by rw [FL.out]; have := XL.out.xy.lenA; omega)
              go_wp2_with fail
              refine (paged_any P.out WF.out (by rw [FL.out]; exact (SV.out.same KP.out).same KQ.out) HMB.out).mono ?_
              rintro e wH ⟨rfl, hk⟩
              have XH := hid ((XL.out.kept0 KQ.out).kept0 hk)
              clear hk
              go_wp2
              go_roundw
              case rel => exact ⟨k + 1, MT, by omega, by go_num, HKT.out, XH.out.xy⟩
              case measure => simp [intOf]; omega
            | false =>
              go_wp2_with fail
              refine wp_region_till (fun _ => True) 100 (by kernel_rfl) trivial (fun hHeld => ?_)
              refine till_pure 0 (some 119) (v := ?v440) (by decide) rfl (by kernel_rfl) (by kernel_rfl) (by kernel_rfl) (by kernel_rfl) (by decide) (fun _ _ _ h => h) (Or.inl ⟨by rfl, ?y440⟩) (by assumption) ?r440
              case y440 => (intro w hSw; clear hSw; go_simp; (try with_reducible rfl))
              simp only [Act.put, List.setIfInBounds_toArray, List.set_cons_zero, List.set_cons_succ]
              refine till_pure 1 (some 120) (v := ?v441) (by decide) rfl (by kernel_rfl) (by kernel_rfl) (by kernel_rfl) (by kernel_rfl) (by decide) (fun _ _ _ h => h) (Or.inl ⟨by rfl, ?y441⟩) (by assumption) ?r441
              case y441 => (intro w hSw; clear hSw; go_simp; (try with_reducible rfl))
              simp only [Act.put, List.setIfInBounds_toArray, List.set_cons_zero, List.set_cons_succ]
              refine till_pure 2 (some 121) (v := ?v442) (by decide) rfl (by kernel_rfl) (by kernel_rfl) (by kernel_rfl) (by kernel_rfl) (by decide) (fun _ _ _ h => h) (Or.inl ⟨by rfl, ?y442⟩) (by assumption) ?r442
              case y442 => (intro w hSw; clear hSw; go_simp; (try with_reducible rfl))
              simp only [Act.put, List.setIfInBounds_toArray, List.set_cons_zero, List.set_cons_succ]
              refine till_pure 3 (some 122) (v := ?v443) (by decide) rfl (by kernel_rfl) (by kernel_rfl) (by kernel_rfl) (by kernel_rfl) (by decide) (fun _ _ _ h => h) (Or.inl ⟨by rfl, ?y443⟩) (by assumption) ?r443
              case y443 => (intro w hSw; clear hSw; go_simp; (try with_reducible rfl))
              simp only [Act.put, List.setIfInBounds_toArray, List.set_cons_zero, List.set_cons_succ]
              refine till_pure 4 (some 123) (v := undef) (by decide) rfl (by kernel_rfl) (by kernel_rfl) (by kernel_rfl) (by kernel_rfl) (by decide) (fun _ _ _ h => h) (Or.inr ⟨by rfl, rfl⟩) (by assumption) ?_
              simp only [Act.put, List.setIfInBounds_toArray, List.set_cons_zero, List.set_cons_succ]
              refine till_pure 5 (some 124) (v := undef) (by decide) rfl (by kernel_rfl) (by kernel_rfl) (by kernel_rfl) (by kernel_rfl) (by decide) (fun _ _ _ h => h) (Or.inr ⟨by rfl, rfl⟩) (by assumption) ?_
              simp only [Act.put, List.setIfInBounds_toArray, List.set_cons_zero, List.set_cons_succ]
              refine till_pure 6 (some 125) (v := undef) (by decide) rfl (by kernel_rfl) (by kernel_rfl) (by kernel_rfl) (by kernel_rfl) (by decide) (fun _ _ _ h => h) (Or.inr ⟨by rfl, rfl⟩) (by assumption) ?_
              simp only [Act.put, List.setIfInBounds_toArray, List.set_cons_zero, List.set_cons_succ]
              refine till_pure 7 (some 126) (v := undef) (by decide) rfl (by kernel_rfl) (by kernel_rfl) (by kernel_rfl) (by kernel_rfl) (by decide) (fun _ _ _ h => h) (Or.inr ⟨by rfl, rfl⟩) (by assumption) ?_
              simp only [Act.put, List.setIfInBounds_toArray, List.set_cons_zero, List.set_cons_succ]
              refine till_pure 8 (some 127) (v := undef) (by decide) rfl (by kernel_rfl) (by kernel_rfl) (by kernel_rfl) (by kernel_rfl) (by decide) (fun _ _ _ h => h) (Or.inr ⟨by rfl, rfl⟩) (by assumption) ?_
              simp only [Act.put, List.setIfInBounds_toArray, List.set_cons_zero, List.set_cons_succ]
              refine till_pure 9 (some 128) (v := undef) (by decide) rfl (by kernel_rfl) (by kernel_rfl) (by kernel_rfl) (by kernel_rfl) (by decide) (fun _ _ _ h => h) (Or.inr ⟨by rfl, rfl⟩) (by assumption) ?_
              simp only [Act.put, List.setIfInBounds_toArray, List.set_cons_zero, List.set_cons_succ]
              refine till_pure 10 (some 129) (v := undef) (by decide) rfl (by kernel_rfl) (by kernel_rfl) (by kernel_rfl) (by kernel_rfl) (by decide) (fun _ _ _ h => h) (Or.inr ⟨by rfl, rfl⟩) (by assumption) ?_
              simp only [Act.put, List.setIfInBounds_toArray, List.set_cons_zero, List.set_cons_succ]
              refine till_pure 11 (some 130) (v := undef) (by decide) rfl (by kernel_rfl) (by kernel_rfl) (by kernel_rfl) (by kernel_rfl) (by decide) (fun _ _ _ h => h) (Or.inr ⟨by rfl, rfl⟩) (by assumption) ?_
              simp only [Act.put, List.setIfInBounds_toArray, List.set_cons_zero, List.set_cons_succ]
              refine till_pure 12 (some 131) (v := ?v452) (by decide) rfl (by kernel_rfl) (by kernel_rfl) (by kernel_rfl) (by kernel_rfl) (by decide) (fun _ _ _ h => h) (Or.inl ⟨by rfl, ?y452⟩) (by assumption) ?r452
              case y452 => (intro w hSw; clear hSw; go_simp; (try with_reducible rfl))
              simp only [Act.put, List.setIfInBounds_toArray, List.set_cons_zero, List.set_cons_succ]
              refine till_done (by kernel_rfl) ?_ _
              clear hHeld
              go_wp2
              go_roundw
              case rel => exact ⟨k + 1, MT, by omega, by go_num, HKT.out, (XL.out.kept0 ((Kept.refl _ _).drew)).xy⟩
              case measure => simp [intOf]; omega
          · have z0 := Z0.out
            have e0 : (kd == 0) = false := by rw [beq_eq_false_iff_ne]; exact hk0
            have e1 : (kd == 1) = false := by rw [beq_eq_false_iff_ne]; exact hk1
            go_wp2_with fail
            rw [HWO.out]
            try rw [HOB0.out]
            obtain ⟨MT, hMT⟩ : ∃ MT, M = MT := ⟨_, rfl⟩
            have XT := hid XNO.out
            have HKT := hid HKM.out
            rw [hMT] at XT HKT
            clear z0 z2 hMT
            obtain ⟨F, hix⟩ := XT.out.xy.ix
            refine (get_flat hix key).mono ?_
            rintro e wU ⟨rfl, hk⟩
            have XU := hid (XT.out.kept0 hk); replace z1 := hk.cell z1 (fun h => h)
            clear hk hix
            obtain ⟨gb, hgb⟩ : ∃ gb, (getI MT key).isSome = gb := ⟨_, rfl⟩
            obtain ⟨gv, hgv⟩ : ∃ gv, (getI MT key).getD 0 = gv := ⟨_, rfl⟩
            rw [hgb, hgv]
            have HGB := hid hgb; have HGV := hid hgv
            clear hgb hgv
            go_wp2_with fail
            obtain ⟨G, u, hry⟩ := XU.out.xy.ry
            refine (rget_any hry (by have := XU.out.xy.lenA; omega) key).mono ?_
            rintro e wV ⟨rfl, hk⟩
            have XV := hid (XU.out.kept0 hk)
            clear hk hry z1
            rw [HGB.out, HGV.out]
            go_wp2_with fail
            obtain ⟨F, hix⟩ := XV.out.xy.ix
            refine (next_flat hix fr).mono ?_
            rintro e wX ⟨rfl, hk⟩
            have XX := hid (XV.out.kept0 hk)
            clear hk hix
            obtain ⟨nb, hnb⟩ : ∃ nb, (nextI MT fr).isSome = nb := ⟨_, rfl⟩
            obtain ⟨n1, hn1⟩ : ∃ n1, ((nextI MT fr).getD (0, 0)).1 = n1 := ⟨_, rfl⟩
            obtain ⟨n2, hn2⟩ : ∃ n2, ((nextI MT fr).getD (0, 0)).2 = n2 := ⟨_, rfl⟩
            rw [hnb, hn1, hn2]
            have HNB := hid hnb; have HN1 := hid hn1; have HN2 := hid hn2
            clear hnb hn1 hn2
            go_wp2_with fail
            have XY1 := hid (XX.out.kept0 ((Kept.refl (fun _ => False) wX).alloc (.cells #[.int .u64 n1, .int .u64 n2] 33)))
            obtain ⟨G, u, hry⟩ := XY1.out.xy.ry
            refine (rnext_any hry (by have := XU.out.xy.lenA; omega) (fun x hx => (HKT.out x hx).2) fr).mono ?_
            rintro e wY ⟨rfl, hk⟩
            have XY2 := hid (XY1.out.kept0 (hk.alloc (.cells #[.int .u64 n1, .int .u64 n2] 55)))
            have s0 := (hk.alloc (.cells #[.int .u64 n1, .int .u64 n2] 55)).cell (row_cell (row_new wX (.cells #[.int .u64 n1, .int .u64 n2] 33)) 0) (fun h => h)
            have s1 := (hk.alloc (.cells #[.int .u64 n1, .int .u64 n2] 55)).cell (row_cell (row_new wX (.cells #[.int .u64 n1, .int .u64 n2] 33)) 1) (fun h => h)
            have s2 : (wY.alloc (.cells #[.int .u64 n1, .int .u64 n2] 55)).cell? ⟨wY.heap.size, 0, none⟩ = some (.int .u64 n1) := row_cell (row_new wY _) 0
            have s3 : (wY.alloc (.cells #[.int .u64 n1, .int .u64 n2] 55)).cell? ⟨wY.heap.size, 1, none⟩ = some (.int .u64 n2) := row_cell (row_new wY _) 1
            obtain ⟨ob1, hob1⟩ : ∃ ob1, wX.heap.size = ob1 := ⟨_, rfl⟩
            obtain ⟨ob2, hob2⟩ : ∃ ob2, wY.heap.size = ob2 := ⟨_, rfl⟩
            obtain ⟨wZ, hwZ⟩ : ∃ wZ, wY.alloc (.cells #[.int .u64 n1, .int .u64 n2] 55) = wZ := ⟨_, rfl⟩
            rw [hob1] at s0 s1 ⊢
            rw [hob2] at s2 s3
            rw [hwZ] at s0 s1 s2 s3 XY2
            have HOB := hid hob2; have HWZ := hid hwZ
            clear hk hry hob1 hob2 hwZ
            rw [HNB.out, HN1.out, HN2.out]
            obtain ⟨v, cv, sv⟩ := XY2.out.xy.cell
            obtain ⟨av, cpv, hav⟩ := sv.isSlice
            subst hav
            have SV := hid sv; clear sv
            go_wp2_with fail
            rw [HOB.out, HWZ.out]
            refine wp_region_till (fun w' => w'.cell? ⟨ob1, 0, none⟩ = some (.int .u64 n1) ∧ w'.cell? ⟨ob1, 1, none⟩ = some (.int .u64 n2) ∧ w'.cell? ⟨ob2, 0, none⟩ = some (.int .u64 n1) ∧ w'.cell? ⟨ob2, 1, none⟩ = some (.int .u64 n2) ∧ w'.cell? ⟨yb, 0, none⟩ = some (.slice av MT.length cpv)) 26 (by kernel_rfl) ⟨s0, s1, s2, s3, cv⟩ (fun hHeld => ?_)
            refine till_pure 0 (some 91) (v := ?v500) (by decide) rfl (by kernel_rfl) (by kernel_rfl) (by kernel_rfl) (by kernel_rfl) (by decide) (fun _ _ _ h => h) (Or.inl ⟨by rfl, ?y500⟩) (by assumption) ?r500
            case y500 => (intro w hSw; clear hSw; go_simp; (try with_reducible rfl))
            simp only [Act.put, List.setIfInBounds_toArray, List.set_cons_zero, List.set_cons_succ]
            refine till_pure 1 (some 92) (v := ?v501) (by decide) rfl (by kernel_rfl) (by kernel_rfl) (by kernel_rfl) (by kernel_rfl) (by decide) (fun _ _ _ h => h) (Or.inl ⟨by rfl, ?y501⟩) (by assumption) ?r501
            case y501 => (intro w hSw; clear hSw; go_simp; (try with_reducible rfl))
            simp only [Act.put, List.setIfInBounds_toArray, List.set_cons_zero, List.set_cons_succ]
            refine till_pure 2 (some 93) (v := ?v502) (by decide) rfl (by kernel_rfl) (by kernel_rfl) (by kernel_rfl) (by kernel_rfl) (by decide) (fun _ _ _ h => h) (Or.inl ⟨by rfl, ?y502⟩) (by assumption) ?r502
            case y502 => (intro w hSw; clear hSw; go_simp; (try with_reducible rfl))
            simp only [Act.put, List.setIfInBounds_toArray, List.set_cons_zero, List.set_cons_succ]
            refine till_pure 3 (some 94) (v := ?v503) (by decide) rfl (by kernel_rfl) (by kernel_rfl) (by kernel_rfl) (by kernel_rfl) (by decide) (fun _ _ _ h => h) (Or.inl ⟨by rfl, ?y503⟩) (by assumption) ?r503
            case y503 => (intro w hSw; clear hSw; go_simp; (try with_reducible rfl))
            simp only [Act.put, List.setIfInBounds_toArray, List.set_cons_zero, List.set_cons_succ]
            refine till_pure 4 (some 95) (v := ?v504) (by decide) rfl (by kernel_rfl) (by kernel_rfl) (by kernel_rfl) (by kernel_rfl) (by decide) (fun _ _ _ h => h) (Or.inl ⟨by rfl, ?y504⟩) (by assumption) ?r504
            case y504 => (intro w hSw; clear hSw; go_simp; (try with_reducible rfl))
            simp only [Act.put, List.setIfInBounds_toArray, List.set_cons_zero, List.set_cons_succ]
            refine till_pure 5 (some 96) (v := ?v505) (by decide) rfl (by kernel_rfl) (by kernel_rfl) (by kernel_rfl) (by kernel_rfl) (by decide) (fun _ _ _ h => h) (Or.inl ⟨by rfl, ?y505⟩) (by assumption) ?r505
            case y505 => (intro w hSw; clear hSw; go_simp; (try with_reducible rfl))
            simp only [Act.put, List.setIfInBounds_toArray, List.set_cons_zero, List.set_cons_succ]
            refine till_pure 6 (some 97) (v := ?v506) (by decide) rfl (by kernel_rfl) (by kernel_rfl) (by kernel_rfl) (by kernel_rfl) (by decide) (fun _ _ _ h => h) (Or.inl ⟨by rfl, ?y506⟩) (by assumption) ?r506
            case y506 => (intro w hSw; clear hSw; go_simp; (try with_reducible rfl))
            simp only [Act.put, List.setIfInBounds_toArray, List.set_cons_zero, List.set_cons_succ]
            refine till_pure 7 (some 98) (v := ?v507) (by decide) rfl (by kernel_rfl) (by kernel_rfl) (by kernel_rfl) (by kernel_rfl) (by decide) (fun _ _ _ h => h) (Or.inl ⟨by rfl, ?y507⟩) (by assumption) ?r507
            case y507 => (intro w hSw; clear hSw; go_simp; (try with_reducible rfl))
            simp only [Act.put, List.setIfInBounds_toArray, List.set_cons_zero, List.set_cons_succ]
            refine till_pure 8 (some 99) (v := ?v508) (by decide) rfl (by kernel_rfl) (by kernel_rfl) (by kernel_rfl) (by kernel_rfl) (by decide) (fun _ _ _ h => h) (Or.inl ⟨by rfl, ?y508⟩) (by assumption) ?r508
            case y508 => (intro w hSw; clear hSw; go_simp; (try with_reducible rfl))
            simp only [Act.put, List.setIfInBounds_toArray, List.set_cons_zero, List.set_cons_succ]
            refine till_load 9 (some 100) [20, 18, 17, 13, 12, 11] (v := ?v509) (by decide) rfl (by kernel_rfl) (by kernel_rfl) (by kernel_rfl) (by kernel_rfl) (by kernel_rfl) (by decide) (by decide) (fun _ _ _ h => h) (Or.inl ⟨by rfl, ?y509⟩) (by assumption) ?r509
            case y509 => (intro w hSw; (try dsimp only at hSw); go_simp; (try with_reducible rfl))
            simp only [Act.put, List.setIfInBounds_toArray, List.set_cons_zero, List.set_cons_succ]
            refine till_load 10 (some 101) [20, 18, 17, 13, 12, 11] (v := ?v510) (by decide) rfl (by kernel_rfl) (by kernel_rfl) (by kernel_rfl) (by kernel_rfl) (by kernel_rfl) (by decide) (by decide) (fun _ _ _ h => h) (Or.inl ⟨by rfl, ?y510⟩) (by assumption) ?r510
            case y510 => (intro w hSw; (try dsimp only at hSw); go_simp; (try with_reducible rfl))
            simp only [Act.put, List.setIfInBounds_toArray, List.set_cons_zero, List.set_cons_succ]
            refine till_pure 11 (some 102) (v := ?v511) (by decide) rfl (by kernel_rfl) (by kernel_rfl) (by kernel_rfl) (by kernel_rfl) (by decide) (fun _ _ _ h => h) (Or.inl ⟨by rfl, ?y511⟩) (by assumption) ?r511
            case y511 => (intro w hSw; clear hSw; go_simp; (try with_reducible rfl))
            simp only [Act.put, List.setIfInBounds_toArray, List.set_cons_zero, List.set_cons_succ]
            refine till_pure 12 (some 103) (v := ?v512) (by decide) rfl (by kernel_rfl) (by kernel_rfl) (by kernel_rfl) (by kernel_rfl) (by decide) (fun _ _ _ h => h) (Or.inl ⟨by rfl, ?y512⟩) (by assumption) ?r512
            case y512 => (intro w hSw; clear hSw; go_simp; (try with_reducible rfl))
            simp only [Act.put, List.setIfInBounds_toArray, List.set_cons_zero, List.set_cons_succ]
            refine till_pure 13 (some 104) (v := ?v513) (by decide) rfl (by kernel_rfl) (by kernel_rfl) (by kernel_rfl) (by kernel_rfl) (by decide) (fun _ _ _ h => h) (Or.inl ⟨by rfl, ?y513⟩) (by assumption) ?r513
            case y513 => (intro w hSw; clear hSw; go_simp; (try with_reducible rfl))
            simp only [Act.put, List.setIfInBounds_toArray, List.set_cons_zero, List.set_cons_succ]
            refine till_pure 14 (some 105) (v := ?v514) (by decide) rfl (by kernel_rfl) (by kernel_rfl) (by kernel_rfl) (by kernel_rfl) (by decide) (fun _ _ _ h => h) (Or.inl ⟨by rfl, ?y514⟩) (by assumption) ?r514
            case y514 => (intro w hSw; clear hSw; go_simp; (try with_reducible rfl))
            simp only [Act.put, List.setIfInBounds_toArray, List.set_cons_zero, List.set_cons_succ]
            refine till_pure 15 (some 106) (v := ?v515) (by decide) rfl (by kernel_rfl) (by kernel_rfl) (by kernel_rfl) (by kernel_rfl) (by decide) (fun _ _ _ h => h) (Or.inl ⟨by rfl, ?y515⟩) (by assumption) ?r515
            case y515 => (intro w hSw; clear hSw; go_simp; (try with_reducible rfl))
            simp only [Act.put, List.setIfInBounds_toArray, List.set_cons_zero, List.set_cons_succ]
            refine till_pure 16 (some 107) (v := ?v516) (by decide) rfl (by kernel_rfl) (by kernel_rfl) (by kernel_rfl) (by kernel_rfl) (by decide) (fun _ _ _ h => h) (Or.inl ⟨by rfl, ?y516⟩) (by assumption) ?r516
            case y516 => (intro w hSw; clear hSw; go_simp; (try with_reducible rfl))
            simp only [Act.put, List.setIfInBounds_toArray, List.set_cons_zero, List.set_cons_succ]
            refine till_pure 17 (some 108) (v := ?v517) (by decide) rfl (by kernel_rfl) (by kernel_rfl) (by kernel_rfl) (by kernel_rfl) (by decide) (fun _ _ _ h => h) (Or.inl ⟨by rfl, ?y517⟩) (by assumption) ?r517
            case y517 => (intro w hSw; clear hSw; go_simp; (try with_reducible rfl))
            simp only [Act.put, List.setIfInBounds_toArray, List.set_cons_zero, List.set_cons_succ]
            refine till_pure 18 (some 109) (v := ?v518) (by decide) rfl (by kernel_rfl) (by kernel_rfl) (by kernel_rfl) (by kernel_rfl) (by decide) (fun _ _ _ h => h) (Or.inl ⟨by rfl, ?y518⟩) (by assumption) ?r518
            case y518 => (intro w hSw; clear hSw; go_simp; (try with_reducible rfl))
            simp only [Act.put, List.setIfInBounds_toArray, List.set_cons_zero, List.set_cons_succ]
            refine till_pure 19 (some 110) (v := ?v519) (by decide) rfl (by kernel_rfl) (by kernel_rfl) (by kernel_rfl) (by kernel_rfl) (by decide) (fun _ _ _ h => h) (Or.inl ⟨by rfl, ?y519⟩) (by assumption) ?r519
            case y519 => (intro w hSw; clear hSw; go_simp; (try with_reducible rfl))
            simp only [Act.put, List.setIfInBounds_toArray, List.set_cons_zero, List.set_cons_succ]
            refine till_pure 21 (some 112) (v := ?v521) (by decide) rfl (by kernel_rfl) (by kernel_rfl) (by kernel_rfl) (by kernel_rfl) (by decide) (fun _ _ _ h => h) (Or.inl ⟨by rfl, ?y521⟩) (by assumption) ?r521
            case y521 => (intro w hSw; clear hSw; go_simp; (try with_reducible rfl))
            simp only [Act.put, List.setIfInBounds_toArray, List.set_cons_zero, List.set_cons_succ]
            refine till_pure 22 (some 113) (v := ?v522) (by decide) rfl (by kernel_rfl) (by kernel_rfl) (by kernel_rfl) (by kernel_rfl) (by decide) (fun _ _ _ h => h) (Or.inl ⟨by rfl, ?y522⟩) (by assumption) ?r522
            case y522 => (intro w hSw; clear hSw; go_simp; (try with_reducible rfl))
            simp only [Act.put, List.setIfInBounds_toArray, List.set_cons_zero, List.set_cons_succ]
            refine till_pure 23 (some 114) (v := ?v523) (by decide) rfl (by kernel_rfl) (by kernel_rfl) (by kernel_rfl) (by kernel_rfl) (by decide) (fun _ _ _ h => h) (Or.inl ⟨by rfl, ?y523⟩) (by assumption) ?r523
            case y523 => (intro w hSw; clear hSw; go_simp; (try with_reducible rfl))
            simp only [Act.put, List.setIfInBounds_toArray, List.set_cons_zero, List.set_cons_succ]
            refine till_load 24 (some 115) [25] (v := ?v524) (by decide) rfl (by kernel_rfl) (by kernel_rfl) (by kernel_rfl) (by kernel_rfl) (by kernel_rfl) (by decide) (by decide) (fun _ _ _ h => h) (Or.inl ⟨by rfl, ?y524⟩) (by assumption) ?r524
            case y524 => (intro w hSw; (try dsimp only at hSw); go_simp; (try with_reducible rfl))
            simp only [Act.put, List.setIfInBounds_toArray, List.set_cons_zero, List.set_cons_succ]
            refine till_pure 25 (some 116) (v := ?v525) (by decide) rfl (by kernel_rfl) (by kernel_rfl) (by kernel_rfl) (by kernel_rfl) (by decide) (fun _ _ _ h => h) (Or.inl ⟨by rfl, ?y525⟩) (by assumption) ?r525
            case y525 => (intro w hSw; clear hSw; go_simp; (try with_reducible rfl))
            simp only [Act.put, List.setIfInBounds_toArray, List.set_cons_zero, List.set_cons_succ]
            refine till_call 20 (by kernel_rfl) rfl (fun K hK => ?_)
            go_simp
            obtain ⟨F, hix⟩ := XY2.out.xy.ix
            refine (len_flat (by exact hix.same (Kept.drew (Kept.refl _ _)))).mono ?_
            rintro e wL ⟨rfl, hk⟩
            have hk' : Kept (fun _ => False) wZ wL := ((Kept.refl _ _).drew).trans hk
            have XL := hid (XY2.out.kept0 hk'); have KP := hid hk'
            clear hk hix
            have hS2 := And.intro (hk'.cell s0 (fun h => h)) (And.intro (hk'.cell s1 (fun h => h)) (And.intro (hk'.cell s2 (fun h => h)) (And.intro (hk'.cell s3 (fun h => h)) (hk'.cell cv (fun h => h)))))
            clear hk'
            try dsimp only []
            refine hK.out _ _ (by exact hS2) (fun hHeld => ?_)
            clear hK K
            try simp only [Act.put, List.setIfInBounds_toArray, List.set_cons_zero, List.set_cons_succ]
            have cv2 := hS2.2.2.2.2
            clear hS2 hHeld s0 s1 s2 s3 cv
            refine till_list [27] (by kernel_rfl) (by kernel_rfl) (by decide) (by decide) ?_
            simp only [pickOps, List.getElem?_toArray, List.getElem?_cons_zero, List.getElem?_cons_succ]
            obtain ⟨bq, hbq⟩ : ∃ bq, ((k : Int).tmod 8 == 7) = bq := ⟨_, rfl⟩
            cases bq with
            | true =>
              go_wp2_with fail
              refine wp_region_till (fun w' => w'.cell? ⟨yb, 0, none⟩ = some (.slice av MT.length cpv)) 10 (by kernel_rfl) cv2 (fun hHeld => ?_)
              refine till_pure 0 (some 119) (v := ?v530) (by decide) rfl (by kernel_rfl) (by kernel_rfl) (by kernel_rfl) (by kernel_rfl) (by decide) (fun _ _ _ h => h) (Or.inl ⟨by rfl, ?y530⟩) (by assumption) ?r530
              case y530 => (intro w hSw; clear hSw; go_simp; (try with_reducible rfl))
              simp only [Act.put, List.setIfInBounds_toArray, List.set_cons_zero, List.set_cons_succ]
              refine till_pure 1 (some 120) (v := ?v531) (by decide) rfl (by kernel_rfl) (by kernel_rfl) (by kernel_rfl) (by kernel_rfl) (by decide) (fun _ _ _ h => h) (Or.inl ⟨by rfl, ?y531⟩) (by assumption) ?r531
              case y531 => (intro w hSw; clear hSw; go_simp; (try with_reducible rfl))
              simp only [Act.put, List.setIfInBounds_toArray, List.set_cons_zero, List.set_cons_succ]
              refine till_pure 2 (some 121) (v := ?v532) (by decide) rfl (by kernel_rfl) (by kernel_rfl) (by kernel_rfl) (by kernel_rfl) (by decide) (fun _ _ _ h => h) (Or.inl ⟨by rfl, ?y532⟩) (by assumption) ?r532
              case y532 => (intro w hSw; clear hSw; go_simp; (try with_reducible rfl))
              simp only [Act.put, List.setIfInBounds_toArray, List.set_cons_zero, List.set_cons_succ]
              refine till_pure 3 (some 122) (v := ?v533) (by decide) rfl (by kernel_rfl) (by kernel_rfl) (by kernel_rfl) (by kernel_rfl) (by decide) (fun _ _ _ h => h) (Or.inl ⟨by rfl, ?y533⟩) (by assumption) ?r533
              case y533 => (intro w hSw; clear hSw; go_simp; (try with_reducible rfl))
              simp only [Act.put, List.setIfInBounds_toArray, List.set_cons_zero, List.set_cons_succ]
              refine till_pure 4 (some 123) (v := ?v534) (by decide) rfl (by kernel_rfl) (by kernel_rfl) (by kernel_rfl) (by kernel_rfl) (by decide) (fun _ _ _ h => h) (Or.inl ⟨by rfl, ?y534⟩) (by assumption) ?r534
              case y534 => (intro w hSw; clear hSw; go_simp; (try with_reducible rfl))
              simp only [Act.put, List.setIfInBounds_toArray, List.set_cons_zero, List.set_cons_succ]
              refine till_pure 6 (some 125) (v := ?v536) (by decide) rfl (by kernel_rfl) (by kernel_rfl) (by kernel_rfl) (by kernel_rfl) (by decide) (fun _ _ _ h => h) (Or.inl ⟨by rfl, ?y536⟩) (by assumption) ?r536
              case y536 => (intro w hSw; clear hSw; go_simp; (try with_reducible rfl))
              simp only [Act.put, List.setIfInBounds_toArray, List.set_cons_zero, List.set_cons_succ]
              refine till_pure 7 (some 126) (v := ?v537) (by decide) rfl (by kernel_rfl) (by kernel_rfl) (by kernel_rfl) (by kernel_rfl) (by decide) (fun _ _ _ h => h) (Or.inl ⟨by rfl, ?y537⟩) (by assumption) ?r537
              case y537 => (intro w hSw; clear hSw; go_simp; (try with_reducible rfl))
              simp only [Act.put, List.setIfInBounds_toArray, List.set_cons_zero, List.set_cons_succ]
              refine till_pure 8 (some 127) (v := ?v538) (by decide) rfl (by kernel_rfl) (by kernel_rfl) (by kernel_rfl) (by kernel_rfl) (by decide) (fun _ _ _ h => h) (Or.inl ⟨by rfl, ?y538⟩) (by assumption) ?r538
              case y538 => (intro w hSw; clear hSw; go_simp; (try with_reducible rfl))
              simp only [Act.put, List.setIfInBounds_toArray, List.set_cons_zero, List.set_cons_succ]
              refine till_load 9 (some 128) [] (v := ?v539) (by decide) rfl (by kernel_rfl) (by kernel_rfl) (by kernel_rfl) (by kernel_rfl) (by kernel_rfl) (by decide) (by decide) (fun _ _ _ h => h) (Or.inl ⟨by rfl, ?y539⟩) (by assumption) ?r539
              case y539 => (intro w hSw; (try dsimp only at hSw); go_simp; (try with_reducible rfl))
              simp only [Act.put, List.setIfInBounds_toArray, List.set_cons_zero, List.set_cons_succ]
              refine till_call 5 (by kernel_rfl) rfl (fun K hK => ?_)
              go_simp
              obtain ⟨F, hix⟩ := XL.out.xy.ix
              refine (pages_flat (by exact hix.same (Kept.drew (Kept.refl _ _)))).mono ?_
              rintro e wG ⟨PL, hwf, hfl, a, c, vs, rfl, hP, hk⟩
              have hk' : Kept (fun _ => False) wL wG := ((Kept.refl _ _).drew).trans hk
              have hP' : PagesAt wL wG (.slice a PL.length c) PL vs := ⟨hP.s, hP.f, hP.p⟩
              have P := hid hP'; have WF := hid hwf; have FL := hid hfl; have KQ := hid hk'
              clear hP hwf hfl hk hk' hP' hix
              have cv3 := KQ.out.cell cv2 (fun h => h)
              try dsimp only []
              refine hK.out _ _ (by exact cv3) (fun hHeld => ?_)
              clear hK K
              try simp only [Act.put, List.setIfInBounds_toArray, List.set_cons_zero, List.set_cons_succ]
              clear hHeld cv2 cv3
              refine till_list [11, 12] (by kernel_rfl) (by kernel_rfl) (by decide) (by decide) ?_
              simp only [pickOps, List.getElem?_toArray, List.getElem?_cons_zero, List.getElem?_cons_succ]
              have HMB := hid (show PL.flatten.length ≤ 1000000 by rw [FL.out]; have := XL.out.xy.lenA; omega)
              go_wp2_with fail
              refine (paged_any P.out WF.out (by rw [FL.out]; exact (SV.out.same KP.out).same KQ.out) HMB.out).mono ?_
              rintro e wH ⟨rfl, hk⟩
              have XH := hid ((XL.out.kept0 KQ.out).kept0 hk)
              clear hk
              go_wp2
              go_roundw
              case rel => exact ⟨k + 1, MT, by omega, by go_num, HKT.out, XH.out.xy⟩
              case measure => simp [intOf]; omega
            | false =>
              go_wp2_with fail
              refine wp_region_till (fun _ => True) 100 (by kernel_rfl) trivial (fun hHeld => ?_)
              refine till_pure 0 (some 119) (v := ?v540) (by decide) rfl (by kernel_rfl) (by kernel_rfl) (by kernel_rfl) (by kernel_rfl) (by decide) (fun _ _ _ h => h) (Or.inl ⟨by rfl, ?y540⟩) (by assumption) ?r540
              case y540 => (intro w hSw; clear hSw; go_simp; (try with_reducible rfl))
              simp only [Act.put, List.setIfInBounds_toArray, List.set_cons_zero, List.set_cons_succ]
              refine till_pure 1 (some 120) (v := ?v541) (by decide) rfl (by kernel_rfl) (by kernel_rfl) (by kernel_rfl) (by kernel_rfl) (by decide) (fun _ _ _ h => h) (Or.inl ⟨by rfl, ?y541⟩) (by assumption) ?r541
              case y541 => (intro w hSw; clear hSw; go_simp; (try with_reducible rfl))
              simp only [Act.put, List.setIfInBounds_toArray, List.set_cons_zero, List.set_cons_succ]
              refine till_pure 2 (some 121) (v := ?v542) (by decide) rfl (by kernel_rfl) (by kernel_rfl) (by kernel_rfl) (by kernel_rfl) (by decide) (fun _ _ _ h => h) (Or.inl ⟨by rfl, ?y542⟩) (by assumption) ?r542
              case y542 => (intro w hSw; clear hSw; go_simp; (try with_reducible rfl))
              simp only [Act.put, List.setIfInBounds_toArray, List.set_cons_zero, List.set_cons_succ]
              refine till_pure 3 (some 122) (v := ?v543) (by decide) rfl (by kernel_rfl) (by kernel_rfl) (by kernel_rfl) (by kernel_rfl) (by decide) (fun _ _ _ h => h) (Or.inl ⟨by rfl, ?y543⟩) (by assumption) ?r543
              case y543 => (intro w hSw; clear hSw; go_simp; (try with_reducible rfl))
              simp only [Act.put, List.setIfInBounds_toArray, List.set_cons_zero, List.set_cons_succ]
              refine till_pure 4 (some 123) (v := undef) (by decide) rfl (by kernel_rfl) (by kernel_rfl) (by kernel_rfl) (by kernel_rfl) (by decide) (fun _ _ _ h => h) (Or.inr ⟨by rfl, rfl⟩) (by assumption) ?_
              simp only [Act.put, List.setIfInBounds_toArray, List.set_cons_zero, List.set_cons_succ]
              refine till_pure 5 (some 124) (v := undef) (by decide) rfl (by kernel_rfl) (by kernel_rfl) (by kernel_rfl) (by kernel_rfl) (by decide) (fun _ _ _ h => h) (Or.inr ⟨by rfl, rfl⟩) (by assumption) ?_
              simp only [Act.put, List.setIfInBounds_toArray, List.set_cons_zero, List.set_cons_succ]
              refine till_pure 6 (some 125) (v := undef) (by decide) rfl (by kernel_rfl) (by kernel_rfl) (by kernel_rfl) (by kernel_rfl) (by decide) (fun _ _ _ h => h) (Or.inr ⟨by rfl, rfl⟩) (by assumption) ?_
              simp only [Act.put, List.setIfInBounds_toArray, List.set_cons_zero, List.set_cons_succ]
              refine till_pure 7 (some 126) (v := undef) (by decide) rfl (by kernel_rfl) (by kernel_rfl) (by kernel_rfl) (by kernel_rfl) (by decide) (fun _ _ _ h => h) (Or.inr ⟨by rfl, rfl⟩) (by assumption) ?_
              simp only [Act.put, List.setIfInBounds_toArray, List.set_cons_zero, List.set_cons_succ]
              refine till_pure 8 (some 127) (v := undef) (by decide) rfl (by kernel_rfl) (by kernel_rfl) (by kernel_rfl) (by kernel_rfl) (by decide) (fun _ _ _ h => h) (Or.inr ⟨by rfl, rfl⟩) (by assumption) ?_
              simp only [Act.put, List.setIfInBounds_toArray, List.set_cons_zero, List.set_cons_succ]
              refine till_pure 9 (some 128) (v := undef) (by decide) rfl (by kernel_rfl) (by kernel_rfl) (by kernel_rfl) (by kernel_rfl) (by decide) (fun _ _ _ h => h) (Or.inr ⟨by rfl, rfl⟩) (by assumption) ?_
              simp only [Act.put, List.setIfInBounds_toArray, List.set_cons_zero, List.set_cons_succ]
              refine till_pure 10 (some 129) (v := undef) (by decide) rfl (by kernel_rfl) (by kernel_rfl) (by kernel_rfl) (by kernel_rfl) (by decide) (fun _ _ _ h => h) (Or.inr ⟨by rfl, rfl⟩) (by assumption) ?_
              simp only [Act.put, List.setIfInBounds_toArray, List.set_cons_zero, List.set_cons_succ]
              refine till_pure 11 (some 130) (v := undef) (by decide) rfl (by kernel_rfl) (by kernel_rfl) (by kernel_rfl) (by kernel_rfl) (by decide) (fun _ _ _ h => h) (Or.inr ⟨by rfl, rfl⟩) (by assumption) ?_
              simp only [Act.put, List.setIfInBounds_toArray, List.set_cons_zero, List.set_cons_succ]
              refine till_pure 12 (some 131) (v := ?v552) (by decide) rfl (by kernel_rfl) (by kernel_rfl) (by kernel_rfl) (by kernel_rfl) (by decide) (fun _ _ _ h => h) (Or.inl ⟨by rfl, ?y552⟩) (by assumption) ?r552
              case y552 => (intro w hSw; clear hSw; go_simp; (try with_reducible rfl))
              simp only [Act.put, List.setIfInBounds_toArray, List.set_cons_zero, List.set_cons_succ]
              refine till_done (by kernel_rfl) ?_ _
              clear hHeld
              go_wp2
              go_roundw
              case rel => exact ⟨k + 1, MT, by omega, by go_num, HKT.out, (XL.out.kept0 ((Kept.refl _ _).drew)).xy⟩
              case measure => simp [intOf]; omega
        · have d300 : decide ((300 : Int) ≤ (k : Int)) = true := by rw [decide_eq_true_eq]; omega
          go_wp2_with fail
          go_meet
          exact ⟨M, HKM.out, X.out.kept0 ((Kept.refl _ _).alloc _)⟩
      · obtain rfl : k = L.length := by omega
        go_wp2_with fail
        go_meet
        exact ⟨M, HKM.out, X.out⟩
  case rest =>
    clear X2 K2 HYB
    obtain ⟨M, hkm, hx⟩ := hcut
    have X := hid hx; have HKM := hid hkm
    clear hx hkm
    go_wp2_with fail
    obtain ⟨F, hix⟩ := X.out.ix
    refine (range_flat hix fr tt).mono ?_
    rintro e wa ⟨la, lc, rfl, hs, hf, hka⟩
    have HLEN := hid (Nat.le_trans (rangeI_le M fr tt) X.out.lenA)
    obtain ⟨R, hR⟩ : ∃ R, rangeI M fr tt = R := ⟨_, rfl⟩
    rw [hR] at hs hf HLEN ⊢
    have SL := hid hs; have FL1 := hid hf; have KA := hid hka; have HR := hid hR
    clear hs hf hR
    go_wp2_with fail
    refine (pages_flat (hix.same hka)).mono ?_
    rintro e wb ⟨PL, hwf, hfl, pa, pc, vs, rfl, hP, hk⟩
    have P := hid hP; have WF := hid hwf; have FL := hid hfl; have KB := hid hk
    have XB := hid (X.out.wide (KA.out.trans hk))
    have zab : wc.heap.size ≤ wa.heap.size ∧ wa.heap.size ≤ wb.heap.size := ⟨KA.out.size, hk.size⟩
    have ZAB := hid zab
    clear hP hwf hfl hk hka hix zab
    obtain ⟨v, cv, sv⟩ := XB.out.xy.cell
    obtain ⟨av, cpv, hav⟩ := sv.isSlice
    subst hav
    have SV := hid sv; clear sv
    go_wp2_with fail
    obtain ⟨G, u, hry⟩ := XB.out.xy.ry
    refine (rrange_any hry (by have := X.out.lenA; omega) fr tt).mono ?_
    rintro e wd ⟨ra, rc, rfl, hs, _, hk⟩
    rw [HR.out] at hs ⊢
    have SR := hid hs; have KD := hid hk
    replace cv := hk.cell cv (fun h => h)
    clear hs hk hry
    go_wp2_with fail
    refine (same_any ((SL.out.same KB.out).same KD.out) SR.out (by have := HLEN.out; omega)).mono ?_
    rintro e we ⟨rfl, hk⟩
    have KE := hid (KD.out.trans hk)
    replace cv := hk.cell cv (fun h => h)
    clear hk SR
    have HMB := hid (show PL.flatten.length ≤ 1000000 by rw [FL.out]; have := X.out.lenA; omega)
    go_wp2_with fail
    refine (paged_any (P.out.same KE.out) WF.out (by rw [FL.out]; exact SV.out.same KE.out) HMB.out).mono ?_
    rintro e wf ⟨rfl, hk⟩
    have KF := hid (KE.out.trans hk)
    clear hk cv KD KE
    have SLf := hid ((SL.out.same KB.out).same KF.out)
    have hR4 := HLEN.out
    go_wp2_with fail
    go_loopw [21, 157] (fun _ i wr => ∃ (n : Nat) (Lk : List It), n ≤ R.length ∧ i = .int .i64 n ∧ Lk.length = R.length ∧ Seg wr 33 2 (.slice la R.length lc) R.length (icells Lk) ∧ Kept (fun g => (Value.slice la R.length lc).ownBlock = some g) wf wr) (fun _ i _ => R.length - (intOf i).toNat)
    case atStart => exact ⟨0, R, Nat.zero_le _, rfl, rfl, SLf.out, Kept.refl _ _⟩
    case round =>
      rename World => wr
      obtain ⟨n, Lk, hn, rfl, hlk, hs, hk⟩ := hrel
      have S := hid hs; have K2 := hid hk; have HLK := hid hlk
      clear hs hk hlk
      by_cases hlt : n < R.length
      · have hltI : (n : Int) < (R.length : Int) := by omega
        obtain ⟨⟨key, val⟩, hx⟩ : ∃ x, Lk[n]? = some x := ⟨_, List.getElem?_eq_getElem (by rw [HLK.out]; exact hlt)⟩
        obtain ⟨g, cp, e, q1, q2⟩ := S.out.some_of_pos (by omega)
        simp only [Value.slice.injEq] at e
        obtain ⟨rfl, _, rfl⟩ := e
        obtain ⟨x0, x1⟩ := icells_at Lk _ _ hx
        obtain ⟨i1, j1⟩ := List.getElem?_eq_some_iff.1 x1
        have y1 := (S.out.cells rfl _ i1).trans (by rw [j1])
        have fz := fun j => S.out.free (g := g) rfl j
        have HX := hid hx
        clear x0 x1 i1 j1 hx q2
        go_wp2
        go_roundw
        case rel =>
          have hs := S.out.set (g := g) rfl (n * 2 + 1) (.int .u64 (bits .xor .u64 val 1))
          rw [icells_set _ _ _ _ _ HX.out] at hs
          exact ⟨n + 1, _, by omega, by go_num, by rw [List.length_set]; exact HLK.out, hs, K2.out.setCell (p := ⟨g, n * 2 + 1, none⟩) (.inl rfl) _⟩
        case measure => simp [intOf]; omega
      · obtain rfl : n = R.length := by omega
        have hlb : ∀ g, (Value.slice la R.length lc).ownBlock = some g → wc.heap.size ≤ g ∧ g < wa.heap.size := fun g hg => ⟨FL1.out g hg, SL.out.lt hg⟩
        have HLB := hid hlb; clear hlb
        -- the pages lie elsewhere
        have hpo : Seg wr 29 1 (.slice pa PL.length pc) PL.length vs := (P.out.s.same KF.out).kept K2.out (fun g hg e => by have := P.out.f g hg; have := (HLB.out g e).2; omega)
        have hpc : PC PL vs (fun g => wa.heap.size ≤ g ∧ g < wb.heap.size) wr := fun i L hL => by
          obtain ⟨u, hu, hus, huf⟩ := P.out.p i L hL
          have hne := (WF.out.ne L (List.mem_of_getElem? hL)).1
          obtain ⟨g, c, rfl, q1, q2⟩ := hus.some_of_pos hne
          obtain ⟨cur, hb⟩ := hus.block (g := g) rfl
          have hgw := huf g rfl
          have hgl := hus.lt (g := g) rfl
          have hb2 : wr.heap[g]? = some (.cells cur 33 (0, 0)) := (K2.out.block g (by have := KF.out.size; omega) (fun e => by have := (HLB.out g e).2; omega)).trans ((KF.out.block g hgl (fun h => h)).trans hb)
          obtain ⟨⟨ky, vl⟩, hy⟩ : ∃ y, L[0]? = some y := ⟨_, List.getElem?_eq_getElem hne⟩
          obtain ⟨i1, j1⟩ := List.getElem?_eq_some_iff.1 (icells_at L _ _ hy).2
          have hc := (hus.cells (g := g) rfl _ i1).trans (by rw [j1])
          rw [row_cell hb] at hc
          exact ⟨g, c, cur, vl, hu, q1, q2, hb2, by simpa using hc, hgw, hgl⟩
        have hxn : XN W wr xb yb (fun g => wc.heap.size ≤ g ∧ g < wb.heap.size) M M := (XB.out.kept0 KF.out).keptN K2.out (fun g hg => ⟨(HLB.out g hg).1, by have := (HLB.out g hg).2; have := ZAB.out.2; omega⟩) (fun g hg => by have := (HLB.out g hg).1; have := X.out.k.size; omega)
        have ZW := hid X.out.k.size
        have PO := hid hpo; have PCs := hid hpc; have XR := hid hxn
        have hpl4 : PL.length ≤ 4096 := by have h1 := WF.out.pages; rw [FL.out] at h1; have := X.out.lenA; omega
        clear hpo hpc hxn SLf S K2 HLK X XB SL
        go_wp2_with fail
        go_loopw [22, 171] (fun _ i wx => ∃ n : Nat, n ≤ PL.length ∧ i = .int .i64 n ∧ Seg wx 29 1 (.slice pa PL.length pc) PL.length vs ∧ PC PL vs (fun g => wa.heap.size ≤ g ∧ g < wb.heap.size) wx ∧ Kept (fun g => wa.heap.size ≤ g ∧ g < wb.heap.size) wr wx) (fun _ i _ => PL.length - (intOf i).toNat)
        case atStart => exact ⟨0, Nat.zero_le _, rfl, PO.out, PCs.out, Kept.refl _ _⟩
        case round =>
          rename World => wx
          obtain ⟨n, hn, rfl, hs, hpc, hk⟩ := hrel
          have S := hid hs; have PX := hid hpc; have K2 := hid hk
          clear hs hpc hk
          by_cases hlt : n < PL.length
          · have hltI : (n : Int) < (PL.length : Int) := by omega
            obtain ⟨L2, hL⟩ : ∃ x, PL[n]? = some x := ⟨_, List.getElem?_eq_getElem hlt⟩
            obtain ⟨g, c, cur, vl, hu, q1, q2, hb, hcu, hg1, hg2⟩ := PX.out n L2 hL
            have hne := (WF.out.ne L2 (List.mem_of_getElem? hL)).1
            obtain ⟨g1, cap1, e1, _, _⟩ := S.out.some_of_pos (by omega)
            simp only [Value.slice.injEq] at e1
            obtain ⟨rfl, _, rfl⟩ := e1
            obtain ⟨i0, j0⟩ := List.getElem?_eq_some_iff.1 hu
            have y0 := (S.out.cells rfl _ i0).trans (by rw [j0])
            have y1 : wx.cell? ⟨g, 1, none⟩ = some (.int .u64 vl) := by rw [row_cell hb]; exact hcu
            have fz := fun j => row_free hb j
            have hneI : (0 : Int) < (L2.length : Int) := by omega
            have hn1 : n ≤ n := Nat.le_refl n
            have HB := hid hb; have HCU := hid hcu
            clear hu i0 j0 hb hcu hL q2
            go_wp2
            go_roundw
            case rel =>
              have hr := row_set HB.out 1 (.int .u64 (bits .xor .u64 vl 1))
              refine ⟨n + 1, by omega, by go_num, ?_, ?_, K2.out.setCell (p := ⟨g, 1, none⟩) (.inl ⟨hg1, hg2⟩) _⟩
              · refine S.out.of_block (fun a ha => ?_)
                have hag : a ≠ g := fun e => S.out.ne_block HB.out (by decide) (by rw [← e]; exact ha)
                exact ((Kept.refl (fun b => b = g) wx).setCell (p := ⟨g, 1, none⟩) (.inl rfl) _).block a (S.out.lt ha) hag
              · intro i L3 hL3
                obtain ⟨g3, c3, cur3, vl3, hu3, p1, p2, hb3, hcu3, p3⟩ := PX.out i L3 hL3
                by_cases e : g3 = g
                · subst e
                  have e2 := HB.out.symm.trans hb3
                  simp at e2
                  subst e2
                  have hsz : 1 < cur.size := by
                    have := HCU.out
                    rw [Array.getElem?_eq_some_iff] at this
                    exact this.1
                  exact ⟨g3, c3, _, bits .xor .u64 vl 1, hu3, p1, p2, hr, by simp [hsz], p3⟩
                · exact ⟨g3, c3, cur3, vl3, hu3, p1, p2, (((Kept.refl (fun b => b = g) wx).setCell (p := ⟨g, 1, none⟩) (.inl rfl) _).block g3 (row_lt hb3) e).trans hb3, hcu3, p3⟩
            case measure => simp [intOf]; omega
          · obtain rfl : n = PL.length := by omega
            have XE := hid (XR.out.keptN K2.out (fun g hg => ⟨by have := ZAB.out.1; omega, hg.2⟩) (fun g hg => by have := ZAB.out.1; have := ZW.out; omega))
            obtain ⟨v, cv, sv⟩ := XE.out.xy.cell
            have SV2 := hid sv; clear sv
            go_wp2_with fail
            refine wp_region_till (fun w' => w'.cell? ⟨yb, 0, none⟩ = some v) 6 (by kernel_rfl) cv (fun hHeld => ?_)
            refine till_pure 0 (some 185) (v := ?v630) (by decide) rfl (by kernel_rfl) (by kernel_rfl) (by kernel_rfl) (by kernel_rfl) (by decide) (fun _ _ _ h => h) (Or.inl ⟨by rfl, ?y630⟩) (by assumption) ?r630
            case y630 => (intro w hSw; clear hSw; go_simp; (try with_reducible rfl))
            simp only [Act.put, List.setIfInBounds_toArray, List.set_cons_zero, List.set_cons_succ]
            refine till_pure 2 (some 187) (v := ?v631) (by decide) rfl (by kernel_rfl) (by kernel_rfl) (by kernel_rfl) (by kernel_rfl) (by decide) (fun _ _ _ h => h) (Or.inl ⟨by rfl, ?y631⟩) (by assumption) ?r631
            case y631 => (intro w hSw; clear hSw; go_simp; (try with_reducible rfl))
            simp only [Act.put, List.setIfInBounds_toArray, List.set_cons_zero, List.set_cons_succ]
            refine till_pure 3 (some 188) (v := ?v632) (by decide) rfl (by kernel_rfl) (by kernel_rfl) (by kernel_rfl) (by kernel_rfl) (by decide) (fun _ _ _ h => h) (Or.inl ⟨by rfl, ?y632⟩) (by assumption) ?r632
            case y632 => (intro w hSw; clear hSw; go_simp; (try with_reducible rfl))
            simp only [Act.put, List.setIfInBounds_toArray, List.set_cons_zero, List.set_cons_succ]
            refine till_pure 4 (some 189) (v := ?v633) (by decide) rfl (by kernel_rfl) (by kernel_rfl) (by kernel_rfl) (by kernel_rfl) (by decide) (fun _ _ _ h => h) (Or.inl ⟨by rfl, ?y633⟩) (by assumption) ?r633
            case y633 => (intro w hSw; clear hSw; go_simp; (try with_reducible rfl))
            simp only [Act.put, List.setIfInBounds_toArray, List.set_cons_zero, List.set_cons_succ]
            refine till_load 5 (some 190) [] (v := ?v634) (by decide) rfl (by kernel_rfl) (by kernel_rfl) (by kernel_rfl) (by kernel_rfl) (by kernel_rfl) (by decide) (by decide) (fun _ _ _ h => h) (Or.inl ⟨by rfl, ?y634⟩) (by assumption) ?r634
            case y634 => (intro w hSw; (try dsimp only at hSw); go_simp; (try with_reducible rfl))
            simp only [Act.put, List.setIfInBounds_toArray, List.set_cons_zero, List.set_cons_succ]
            refine till_call 1 (by kernel_rfl) rfl (fun K hK => ?_)
            go_simp
            obtain ⟨F, hix⟩ := XE.out.xy.ix
            refine (pages_flat (by exact hix.same (Kept.drew (Kept.refl _ _)))).mono ?_
            rintro e wG ⟨PL2, hwf, hfl, a, c, vs2, rfl, hP, hk⟩
            have hk' : Kept (fun _ => False) wx wG := ((Kept.refl _ _).drew).trans hk
            have hP' : PagesAt wx wG (.slice a PL2.length c) PL2 vs2 := ⟨hP.s, hP.f, hP.p⟩
            have P2 := hid hP'; have WF2 := hid hwf; have FL2 := hid hfl; have KQ := hid hk'
            clear hP hwf hfl hk hk' hP' hix
            have cv2 := KQ.out.cell cv (fun h => h)
            try dsimp only []
            refine hK.out _ _ (by exact cv2) (fun hHeld => ?_)
            clear hK K
            try simp only [Act.put, List.setIfInBounds_toArray, List.set_cons_zero, List.set_cons_succ]
            clear hHeld cv
            refine till_list [7] (by kernel_rfl) (by kernel_rfl) (by decide) (by decide) ?_
            simp only [pickOps, List.getElem?_toArray, List.getElem?_cons_zero, List.getElem?_cons_succ]
            have HMB2 := hid (show PL2.flatten.length ≤ 1000000 by rw [FL2.out]; have := XE.out.xy.lenA; omega)
            go_wp2_with fail
            refine (paged_any P2.out WF2.out (by rw [FL2.out]; exact SV2.out.same KQ.out) HMB2.out).mono ?_
            rintro e wH ⟨rfl, hk⟩
            have XH := hid ((XE.out.kept0 KQ.out).kept0 hk)
            clear hk cv2
            go_wp2
            go_ret
            exact ⟨rfl, XH.out.xy.k.below (Nat.le_refl _) (fun _ h => h.elim)⟩
end Go.Proofs.Ytfmohmlpcielnaa
