/- Add: the walk. -/
import Derived.Test.YtglcpiokmieppaaJ
import Derived.Test.YtglcpiokmieppaaReg
namespace Go.Proofs.Ytglcpiokmieppaa
open Go.RowKit

theorem own_at {w : World} {v : Value} {L : List Sp} (h : Own w 46 2 v L.length (scells L)) (q : Nat) (hq : q < L.length) :
    ∃ g cap, v = .slice (some ⟨g, 0, none⟩) L.length cap ∧ L.length ≤ cap ∧ cap ≤ 2 ^ 63 - 1 ∧ w.cell? ⟨g, q * 2, none⟩ = some (.int .u32 L[q].1) ∧ w.cell? ⟨g, q * 2 + 1, none⟩ = some (.int .u32 L[q].2) := by
  obtain ⟨g, c, rfl, l1, l2⟩ := h.some_of_pos (by omega)
  obtain ⟨x0, x1⟩ := scells_at L q L[q] (by simp [hq])
  obtain ⟨z0, e0⟩ := List.getElem?_eq_some_iff.1 x0
  obtain ⟨z1, e1⟩ := List.getElem?_eq_some_iff.1 x1
  refine ⟨g, c, rfl, l1, l2, ?_, ?_⟩
  · rw [← e0]; exact h.cells rfl _ z0
  · rw [← e1]; exact h.cells rfl _ z1
theorem cell2 {w : World} {b : Nat} {x y : Value} {T : TypeId} (h : w.heap[b]? = some (.cells #[x, y] T (0, 0))) : w.cell? ⟨b, 0, none⟩ = some x ∧ w.cell? ⟨b, 1, none⟩ = some y ∧ ∀ i, w.frozen? ⟨b, i, none⟩ = false := by
  have h0 := row_cell h 0
  have h1 := row_cell h 1
  simp at h0 h1
  exact ⟨h0, h1, fun i => row_free h i⟩
theorem set20 {w : World} {b : Nat} {x y : Value} {T : TypeId} (h : w.heap[b]? = some (.cells #[x, y] T (0, 0))) (v : Value) : (w.setCell ⟨b, 0, none⟩ v).heap[b]? = some (.cells #[v, y] T (0, 0)) := row_set h 0 v
theorem set21 {w : World} {b : Nat} {x y : Value} {T : TypeId} (h : w.heap[b]? = some (.cells #[x, y] T (0, 0))) (v : Value) : (w.setCell ⟨b, 1, none⟩ v).heap[b]? = some (.cells #[x, v] T (0, 0)) := row_set h 1 v
theorem own_two {w : World} {E : TypeId} (u v : Value) : Own (w.alloc (.cells #[u, v] E)) E 2 (.slice (some ⟨w.heap.size, 0, none⟩) 1 1) 1 [u, v] :=
  Own.mk (n := 1) (size := 2) (cap := 1) (row_new w (.cells #[u, v] E)) (Nat.le_refl _) (by decide) rfl
/-- where Add stands: the set's list, the span that is put in -/
structure AddIn (F : Nat → Prop) (w W : World) (sb xb : Nat) (C : List Sp) (x1 x2 : Int) : Prop where
  s : SetAt F W sb C
  x : W.heap[xb]? = some (.cells #[.int .u32 x1, .int .u32 x2] 46 (0, 0))
  k : Kept F w W
  n : w.heap.size ≤ xb
theorem AddIn.drew {F : Nat → Prop} {w W : World} {sb xb : Nat} {C : List Sp} {x1 x2 : Int} (h : AddIn F w W sb xb C x1 x2) : AddIn F w W.drew sb xb C x1 x2 := ⟨h.s.kept (Kept.refl (fun _ => False) _).drew (fun _ _ h => h), h.x, h.k.drew, h.n⟩
/-- a list without some that stand together, behind Delete and its store -/
theorem AddIn.del {F : Nat → Prop} {w W w5 : World} {sb xb : Nat} {C C' : List Sp} {x1 x2 : Int} (h : AddIn F w W sb xb C x1 x2) (hF : ∀ g, F g → g < w.heap.size) {ao : Option Addr} {cap : Nat} (g1 : W.heap[sb]? = some (.cells #[.slice ao C.length cap] 66 (0, 0))) (g2 : Own W 46 2 (.slice ao C.length cap) C.length (scells C)) (g3 : ∀ g, (Value.slice ao C.length cap).ownBlock = some g → F g)
    (i j : Nat) (hij : i ≤ j) (hj : j ≤ C.length) (hC : C.take i ++ C.drop j = C') {a2 : Option Addr} {c2 : Nat} (ho : Own w5 46 2 (.slice a2 (i + (C.length - j)) c2) (i + (C.length - j)) ((scells C).take (i * 2) ++ (scells C).drop (j * 2))) (hk : Kept (fun k => (Value.slice ao C.length cap).ownBlock = some k) W w5) (hb : ∀ g, (Value.slice a2 (i + (C.length - j)) c2).ownBlock = some g → (Value.slice ao C.length cap).ownBlock = some g) :
    (w5.heap[sb]? = some (.cells #[.slice ao C.length cap] 66 (0, 0))) ∧ i + (C.length - j) = C'.length ∧ AddIn F w (w5.setCell ⟨sb, 0, none⟩ (.slice a2 C'.length c2)) sb xb C' x1 x2 := by
  have hl : i + (C.length - j) = C'.length := by rw [← hC]; simp; omega
  have r2 := (hk.block sb (row_lt g1) (g2.ne_block g1 (by decide))).trans g1
  have hx : ¬ F xb := fun e => by have := hF _ e; have := h.n; omega
  have hsx : ¬ sb = xb := fun e => hx (e ▸ h.s.m)
  refine ⟨r2, hl, ?_⟩
  rw [← scells_take, ← scells_drop, ← scells_app, hC, hl] at ho
  rw [hl] at hb
  refine ⟨SetAt.put (S0 := C) r2 h.s.m (by rw [← hC]; exact h.s.g.cut i j hij) ho (fun g hg => g3 g (hb g hg)), ?_, (h.k.trans' hk (fun i hi => .inl (g3 i hi))).setCell (.inl h.s.m) _, h.n⟩
  have e1 := (hk.block xb (row_lt h.x) (fun e => hx (g3 _ e))).trans h.x
  exact ((Kept.refl (fun k => k = sb) w5).setCell (.inl rfl) _).block xb (row_lt e1) (fun e => hsx e.symm) |>.trans e1
theorem AddIn.set0 {F : Nat → Prop} {w W : World} {sb xb : Nat} {C : List Sp} {x1 x2 : Int} (h : AddIn F w W sb xb C x1 x2) (hF : ∀ g, F g → g < w.heap.size) (v : Int) : AddIn F w (W.setCell ⟨xb, 0, none⟩ (.int .u32 v)) sb xb C v x2 :=
  ⟨h.s.kept ((Kept.refl (fun k => k = xb) W).setCell (.inl rfl) _) (fun g hg e => by have := hF _ hg; have := h.n; omega), set20 h.x _, h.k.setCell (.inr h.n) _, h.n⟩
theorem AddIn.set1 {F : Nat → Prop} {w W : World} {sb xb : Nat} {C : List Sp} {x1 x2 : Int} (h : AddIn F w W sb xb C x1 x2) (hF : ∀ g, F g → g < w.heap.size) (v : Int) : AddIn F w (W.setCell ⟨xb, 1, none⟩ (.int .u32 v)) sb xb C x1 v :=
  ⟨h.s.kept ((Kept.refl (fun k => k = xb) W).setCell (.inl rfl) _) (fun g hg e => by have := hF _ hg; have := h.n; omega), set21 h.x _, h.k.setCell (.inr h.n) _, h.n⟩
theorem AddIn.facts {F : Nat → Prop} {w W : World} {sb xb : Nat} {C : List Sp} {x1 x2 : Int} (h : AddIn F w W sb xb C x1 x2) (hF : ∀ g, F g → g < w.heap.size) :
    ∃ ao cap, W.heap[sb]? = some (.cells #[.slice ao C.length cap] 66 (0, 0)) ∧ Own W 46 2 (.slice ao C.length cap) C.length (scells C) ∧ (∀ g, (Value.slice ao C.length cap).ownBlock = some g → F g) ∧
      W.cell? ⟨sb, 0, none⟩ = some (.slice ao C.length cap) ∧ W.frozen? ⟨sb, 0, none⟩ = false ∧ W.cell? ⟨xb, 0, none⟩ = some (.int .u32 x1) ∧ W.cell? ⟨xb, 1, none⟩ = some (.int .u32 x2) ∧ (∀ i, W.frozen? ⟨xb, i, none⟩ = false) ∧ ¬ sb = xb ∧ ¬ xb = sb ∧ C.length ≤ 2147483648 := by
  obtain ⟨ao, cap, g1, g2, g3⟩ := h.s.c
  obtain ⟨d0, d1, df⟩ := cell2 h.x
  have h1 := hF _ h.s.m
  have h2 := h.n
  exact ⟨ao, cap, g1, g2, g3, by have := row_cell g1 0; simpa using this, row_free g1 0, d0, d1, df, by omega, by omega, h.s.g.len⟩
set_option maxRecDepth 100000 in
set_option maxHeartbeats 8000000 in
theorem add_any {F : Nat → Prop} {w : World} {sb : Nat} {S : List Sp} (h : SetAt F w sb S) (hF : ∀ g, F g → g < w.heap.size) (a b : Int) (ha : 0 ≤ a) (hb : b ≤ 4294967295) :
    Calls Try.prog 10 #[.pointer (some ⟨sb, 0, none⟩), .int .u32 a, .int .u32 b] w (SetPost F w sb a b (addS S a b)) := by
  have H := hid h
  have HF := hid hF
  clear h hF
  by_cases hab : b < a
  · go_enter Try.func10, Try.ntmps10
    go_wp2_with fail
    refine (check_any sb a b _).mono ?_
    rintro e w1 ⟨rfl, rfl⟩
    have hc : chk a b = 1 := by simp [chk, hab]
    rw [hc]
    go_wp2
    go_ret
    refine ⟨by rw [hc]; rfl, ?_, Kept.refl _ _⟩
    rw [addS, if_pos hab]
    exact H.out.mono (fun _ h => .inl h)
  · go_enter Try.func10, Try.ntmps10
    go_wp2_with fail
    refine (check_any sb a b _).mono ?_
    rintro e w1 ⟨rfl, rfl⟩
    have hc : chk a b = 0 := by simp [chk, hab]
    rw [hc]
    have HC := hid hc; clear hc
    go_wp2_with fail
    refine (cut_any H.out HF.out a b (by omega) ha hb).mono ?_
    rintro e w2 ⟨va, vb, rfl, hs, hfa, hfb, hne, hk⟩
    have hsz := hk.size
    have fa := fun g => hfa.lt (g := g)
    have fb := fun g => hfb.lt (g := g)
    obtain ⟨aA, cA, rfl, oA, _⟩ := hfa
    obtain ⟨aB, cB, rfl, oB, _⟩ := hfb
    have HS := hid hs; have HK := hid hk; have FA := hid fa; have FB := hid fb; have OA := hid oA; have OB := hid oB
    have nA := cutA_len (cutM S a b) a
    have nB := cutB_len (cutM S a b) b
    have nM := cutJ_le S a b
    unfold cutJ at nM
    have nS := H.out.g.len
    have nC := (H.out.g.cutS a b).len
    clear hs hk fa fb oA oB hne
    go_wp2_with fail
    go_loopw [36] (fun i wr => ∃ k : Nat, k ≤ (cutA (cutM S a b) a).length ∧ i = .int .i64 k ∧ Kept (fun _ => False) w2 wr ∧ wr.heap[w2.heap.size]? = some (.cells #[.int .u32 (((cutA (cutM S a b) a).take k).foldl (fun _ y => y.1) a), .int .u32 b] 46 (0, 0))) (fun i _ => (cutA (cutM S a b) a).length - (intOf i).toNat)
    case atStart => exact ⟨0, Nat.zero_le _, rfl, (Kept.refl _ _).alloc _, by simpa using row_new _ _⟩
    case round =>
      obtain ⟨k, hkl, rfl, hk, hx⟩ := hrel
      have HK1 := hid hk; have HX := hid hx; clear hk hx
      by_cases hlt : k < (cutA (cutM S a b) a).length
      · obtain ⟨g, cap, e, l1, l2, y0, y1⟩ := own_at OA.out k hlt
        simp only [Value.slice.injEq] at e
        obtain ⟨rfl, _, rfl⟩ := e
        have hfold : (((cutA (cutM S a b) a).take (k + 1)).foldl (fun _ y => y.1) a) = ((cutA (cutM S a b) a)[k]'hlt).1 := by rw [List.take_succ_eq_append_getElem hlt, List.foldl_append]; rfl
        have HFO := hid hfold; clear hfold
        have z0 := HK1.out.cell y0 id
        have z1 := HK1.out.cell y1 id
        clear y0 y1
        have xl := row_lt HX.out
        have xn : ¬ (w2.heap.size = wr.heap.size) := by omega
        have xx := row_old HX.out (.cells #[.int .u32 ((cutA (cutM S a b) a)[k]'hlt).1, .int .u32 ((cutA (cutM S a b) a)[k]'hlt).2] 46)
        have x0 := (cell2 xx).1
        have x2 := (cell2 xx).2.2 0
        clear xx
        go_wp2
        go_roundw
        case rel => exact ⟨k + 1, hlt, by go_num, (HK1.out.setCell (.inr (Nat.le_refl _)) _).alloc _, by rw [HFO.out]; exact row_old (set20 HX.out _) _⟩
        case measure => simp [intOf]; omega
      · obtain rfl : k = (cutA (cutM S a b) a).length := by omega
        have hx1 : ((cutA (cutM S a b) a).take (cutA (cutM S a b) a).length).foldl (fun _ y => y.1) a = addX1 (cutM S a b) a := by rw [List.take_length]; rfl
        rw [hx1] at HX
        clear hx1 hlt
        go_wp2_with fail
        obtain ⟨wo, rfl⟩ : ∃ wo : World, wo = wr := ⟨_, rfl⟩
        go_loopw [46] (fun i wq => ∃ k : Nat, k ≤ (cutB (cutM S a b) b).length ∧ i = .int .i64 k ∧ Kept (fun _ => False) w2 wq ∧ wq.heap[w2.heap.size]? = some (.cells #[.int .u32 (addX1 (cutM S a b) a), .int .u32 (((cutB (cutM S a b) b).take k).foldl (fun _ y => y.2) b)] 46 (0, 0))) (fun i _ => (cutB (cutM S a b) b).length - (intOf i).toNat)
        case atStart => exact ⟨0, Nat.zero_le _, rfl, HK1.out, by simpa using HX.out⟩
        case round =>
          clear HK1 HX
          obtain ⟨k, hkl, rfl, hk, hx⟩ := hrel
          have HK1 := hid hk; have HX := hid hx; clear hk hx
          by_cases hlt : k < (cutB (cutM S a b) b).length
          · obtain ⟨g, cap, e, l1, l2, y0, y1⟩ := own_at OB.out k hlt
            simp only [Value.slice.injEq] at e
            obtain ⟨rfl, _, rfl⟩ := e
            have hfold : (((cutB (cutM S a b) b).take (k + 1)).foldl (fun _ y => y.2) b) = ((cutB (cutM S a b) b)[k]'hlt).2 := by rw [List.take_succ_eq_append_getElem hlt, List.foldl_append]; rfl
            have HFO := hid hfold; clear hfold
            have z0 := HK1.out.cell y0 id
            have z1 := HK1.out.cell y1 id
            clear y0 y1
            have xl := row_lt HX.out
            have xn : ¬ (w2.heap.size = wr.heap.size) := by omega
            have xx := row_old HX.out (.cells #[.int .u32 ((cutB (cutM S a b) b)[k]'hlt).1, .int .u32 ((cutB (cutM S a b) b)[k]'hlt).2] 46)
            have x0 := (cell2 xx).2.1
            have x2 := (cell2 xx).2.2 1
            clear xx
            go_wp2
            go_roundw
            case rel => exact ⟨k + 1, hlt, by go_num, (HK1.out.setCell (.inr (Nat.le_refl _)) _).alloc _, by rw [HFO.out]; exact row_old (set21 HX.out _) _⟩
            case measure => simp [intOf]; omega
          · obtain rfl : k = (cutB (cutM S a b) b).length := by omega
            have hx1 : ((cutB (cutM S a b) b).take (cutB (cutM S a b) b).length).foldl (fun _ y => y.2) b = addX2 (cutM S a b) b := by rw [List.take_length]; rfl
            rw [hx1] at HX
            clear hx1 hlt
            have cf := cut_facts H.out.g a b (by omega)
            have hmid := (mid_of H.out.g cf (by omega) ha hb).1
            have hadd : addS S a b = addLR (S.take (aft S a)) (cutM S a b) (S.drop (cutJ S a b)) a b := by rw [addS, if_neg (by omega)]
            unfold addLR at hadd
            have HSW := hid (HS.out.kept HK1.out (fun _ _ h => h))
            have HCS := hid (show cutS S a b = S.take (aft S a) ++ S.drop (cutJ S a b) from rfl)
            have hLl : (S.take (aft S a)).length = aft S a := by have := aft_le S a; simp; omega
            have HGA := hid (add_law H.out.g a b ha hb).1
            rw [hadd] at HGA
            obtain ⟨T, hT⟩ : ∃ T, T = addS S a b := ⟨_, rfl⟩
            have hTA := hT
            rw [hadd] at hT
            rw [← hT] at HGA
            have HTA := hid hTA
            have HT := hid hT; clear hT hTA
            rw [HCS.out] at HSW
            have HKF := hid (HK.out.trans' HK1.out (fun _ h => h.elim))
            have hK2 := HK1.out.size
            clear cf hadd HS HK OA OB FA FB nA nB nM HK1 HCS
            generalize S.take (aft S a) = L at *
            generalize S.drop (cutJ S a b) = R at *
            generalize addX1 (cutM S a b) a = x1 at *
            generalize addX2 (cutM S a b) b = x2 at *
            go_wp2_with fail
            rw [← hLl]
            obtain ⟨C, hC⟩ : ∃ C, C = L ++ R := ⟨_, rfl⟩
            rw [← hC] at HSW
            have hAI : AddIn F w wr sb w2.heap.size C x1 x2 := ⟨HSW.out, HX.out, HKF.out, hsz⟩
            obtain ⟨xb, hxb⟩ : ∃ xb, xb = w2.heap.size := ⟨_, rfl⟩
            rw [← hxb] at hAI ⊢
            have AI := hid hAI
            clear hAI HSW HX HKF hsz hK2 hxb
            obtain ⟨ao, cap, g1, g2, g3, c0, cf, d0, d1, df, n1, n2, hCn⟩ := AI.out.facts HF.out
            have hCl : C.length = L.length + R.length := by rw [hC]; simp
            have G1 := hid g1; have G2 := hid g2; have G3 := hid g3; have HCC := hid hC
            clear g1 g2 g3 hC
            have HM := hid hmid; clear hmid
            by_cases hq : L.length < C.length
            · obtain ⟨y, R', rfl⟩ : ∃ y R', R = y :: R' := by
                cases R with
                | nil => simp at hCl; omega
                | cons y R' => exact ⟨y, R', rfl⟩
              have hCy : C[L.length]'hq = y := by simp [HCC.out]
              obtain ⟨g, cap', e, l1, l2, y0, y1⟩ := own_at G2.out L.length hq
              simp only [Value.slice.injEq] at e
              obtain ⟨rfl, _, rfl⟩ := e
              rw [hCy] at y0 y1
              have hyb := HM.out.br y (by simp)
              have hyx := HM.out.r y (by simp)
              have hx2 := HM.out.b
              obtain ⟨p, q⟩ := y
              simp only at y0 y1 hyb hyx
              have hxm : (x2 != 4294967295) = true := by simp; omega
              have hxm2 : x2 ≠ 4294967295 := by omega
              have hw : IntKind.u32.wrap (x2 + 1) = x2 + 1 := by simp [IntKind.wrap, IntKind.bits, IntKind.signed]; omega
              have hqi : (L.length : Int) < (C.length : Int) := by omega
              have HCl := hid hCl; have HLl := hid hLl; have HCy := hid hCy
              clear hCl hLl hCy
              by_cases hp : p = x2 + 1
              · have hpx : (p == x2 + 1) = true := by simpa using hp
                refine wp_region_held_drew (S := fun w' => w'.cell? ⟨sb, 0, none⟩ = some (.slice (some ⟨g, 0, none⟩) C.length cap) ∧ w'.cell? ⟨xb, 1, none⟩ = some (.int .u32 x2) ∧ w'.cell? ⟨g, L.length * 2, none⟩ = some (.int .u32 p)) (by kernel_rfl) (by exact ⟨c0, d1, y0⟩) (fun hHeld => ?_)
                refine wpAnyH_at 0 (some 54) (v := ?v100) (by decide) rfl (by kernel_rfl) (by kernel_rfl) (by kernel_rfl) (fun _ _ _ h => h) (Or.inl ⟨by rfl, ?y100⟩) (by assumption) ?r100
                case y100 => (intro w hSw; (try dsimp only at hSw); go_simp; (try with_reducible rfl))
                simp only [Act.put, List.setIfInBounds_toArray, List.set_cons_zero, List.set_cons_succ]
                refine wpAnyH_at 1 (some 55) (v := ?v11) (by decide) rfl (by kernel_rfl) (by kernel_rfl) (by kernel_rfl) (fun _ _ _ h => h) (Or.inl ⟨by rfl, ?y11⟩) (by assumption) ?r11
                case y11 => (intro w hSw; (try dsimp only at hSw); go_simp; (try with_reducible rfl))
                simp only [Act.put, List.setIfInBounds_toArray, List.set_cons_zero, List.set_cons_succ]
                refine wpAnyH_at 2 (some 56) (v := ?v12) (by decide) rfl (by kernel_rfl) (by kernel_rfl) (by kernel_rfl) (fun _ _ _ h => h) (Or.inl ⟨by rfl, ?y12⟩) (by assumption) ?r12
                case y12 => (intro w hSw; (try dsimp only at hSw); go_simp; (try with_reducible rfl))
                simp only [Act.put, List.setIfInBounds_toArray, List.set_cons_zero, List.set_cons_succ]
                refine wpAnyH_at 3 (some 57) (v := ?v13) (by decide) rfl (by kernel_rfl) (by kernel_rfl) (by kernel_rfl) (fun _ _ _ h => h) (Or.inl ⟨by rfl, ?y13⟩) (by assumption) ?r13
                case y13 => (intro w hSw; (try dsimp only at hSw); go_simp; (try with_reducible rfl))
                simp only [Act.put, List.setIfInBounds_toArray, List.set_cons_zero, List.set_cons_succ]
                refine wpAnyH_at 4 (some 58) (v := ?v14) (by decide) rfl (by kernel_rfl) (by kernel_rfl) (by kernel_rfl) (fun _ _ _ h => h) (Or.inl ⟨by rfl, ?y14⟩) (by assumption) ?r14
                case y14 => (intro w hSw; (try dsimp only at hSw); go_simp; (try with_reducible rfl))
                simp only [Act.put, List.setIfInBounds_toArray, List.set_cons_zero, List.set_cons_succ]
                refine wpAnyH_at 5 (some 59) (v := ?v15) (by decide) rfl (by kernel_rfl) (by kernel_rfl) (by kernel_rfl) (fun _ _ _ h => h) (Or.inl ⟨by rfl, ?y15⟩) (by assumption) ?r15
                case y15 => (intro w hSw; (try dsimp only at hSw); go_simp; (try with_reducible rfl))
                simp only [Act.put, List.setIfInBounds_toArray, List.set_cons_zero, List.set_cons_succ]
                refine wpAnyH_at 6 (some 60) (v := ?v16) (by decide) rfl (by kernel_rfl) (by kernel_rfl) (by kernel_rfl) (fun _ _ _ h => h) (Or.inl ⟨by rfl, ?y16⟩) (by assumption) ?r16
                case y16 => (intro w hSw; (try dsimp only at hSw); go_simp; (try with_reducible rfl))
                simp only [Act.put, List.setIfInBounds_toArray, List.set_cons_zero, List.set_cons_succ]
                refine wpAnyH_at 7 (some 61) (v := ?v17) (by decide) rfl (by kernel_rfl) (by kernel_rfl) (by kernel_rfl) (fun _ _ _ h => h) (Or.inl ⟨by rfl, ?y17⟩) (by assumption) ?r17
                case y17 => (intro w hSw; (try dsimp only at hSw); go_simp; (try with_reducible rfl))
                simp only [Act.put, List.setIfInBounds_toArray, List.set_cons_zero, List.set_cons_succ]
                refine wpAnyH_at 8 (some 62) (v := ?v18) (by decide) rfl (by kernel_rfl) (by kernel_rfl) (by kernel_rfl) (fun _ _ _ h => h) (Or.inl ⟨by rfl, ?y18⟩) (by assumption) ?r18
                case y18 => (intro w hSw; (try dsimp only at hSw); go_simp; (try with_reducible rfl))
                simp only [Act.put, List.setIfInBounds_toArray, List.set_cons_zero, List.set_cons_succ]
                refine wpAnyH_at 9 (some 63) (v := ?v19) (by decide) rfl (by kernel_rfl) (by kernel_rfl) (by kernel_rfl) (fun _ _ _ h => h) (Or.inl ⟨by rfl, ?y19⟩) (by assumption) ?r19
                case y19 => (intro w hSw; (try dsimp only at hSw); go_simp; (try with_reducible rfl))
                simp only [Act.put, List.setIfInBounds_toArray, List.set_cons_zero, List.set_cons_succ]
                refine wpAnyH_at 10 (some 64) (v := ?v110) (by decide) rfl (by kernel_rfl) (by kernel_rfl) (by kernel_rfl) (fun _ _ _ h => h) (Or.inl ⟨by rfl, ?y110⟩) (by assumption) ?r110
                case y110 => (intro w hSw; (try dsimp only at hSw); go_simp; (try with_reducible rfl))
                simp only [Act.put, List.setIfInBounds_toArray, List.set_cons_zero, List.set_cons_succ]
                refine wpAnyH_at 11 (some 65) (v := ?v111) (by decide) rfl (by kernel_rfl) (by kernel_rfl) (by kernel_rfl) (fun _ _ _ h => h) (Or.inl ⟨by rfl, ?y111⟩) (by assumption) ?r111
                case y111 => (intro w hSw; (try dsimp only at hSw); go_simp; (try with_reducible rfl))
                simp only [Act.put, List.setIfInBounds_toArray, List.set_cons_zero, List.set_cons_succ]
                refine wpAnyH_at 12 (some 66) (v := ?v112) (by decide) rfl (by kernel_rfl) (by kernel_rfl) (by kernel_rfl) (fun _ _ _ h => h) (Or.inl ⟨by rfl, ?y112⟩) (by assumption) ?r112
                case y112 => (intro w hSw; (try dsimp only at hSw); go_simp; (try with_reducible rfl))
                simp only [Act.put, List.setIfInBounds_toArray, List.set_cons_zero, List.set_cons_succ]
                refine wpAnyH_at 13 (some 67) (v := ?v113) (by decide) rfl (by kernel_rfl) (by kernel_rfl) (by kernel_rfl) (fun _ _ _ h => h) (Or.inl ⟨by rfl, ?y113⟩) (by assumption) ?r113
                case y113 => (intro w hSw; (try dsimp only at hSw); go_simp; (try with_reducible rfl))
                simp only [Act.put, List.setIfInBounds_toArray, List.set_cons_zero, List.set_cons_succ]
                refine wpAnyH_at 14 (some 68) (v := ?v114) (by decide) rfl (by kernel_rfl) (by kernel_rfl) (by kernel_rfl) (fun _ _ _ h => h) (Or.inl ⟨by rfl, ?y114⟩) (by assumption) ?r114
                case y114 => (intro w hSw; (try dsimp only at hSw); go_simp; (try with_reducible rfl))
                simp only [Act.put, List.setIfInBounds_toArray, List.set_cons_zero, List.set_cons_succ]
                refine wpAnyH_at 15 (some 69) (v := ?v115) (by decide) rfl (by kernel_rfl) (by kernel_rfl) (by kernel_rfl) (fun _ _ _ h => h) (Or.inl ⟨by rfl, ?y115⟩) (by assumption) ?r115
                case y115 => (intro w hSw; (try dsimp only at hSw); go_simp; (try with_reducible rfl))
                simp only [Act.put, List.setIfInBounds_toArray, List.set_cons_zero, List.set_cons_succ]
                refine wpAnyH_at 16 (some 70) (v := ?v116) (by decide) rfl (by kernel_rfl) (by kernel_rfl) (by kernel_rfl) (fun _ _ _ h => h) (Or.inl ⟨by rfl, ?y116⟩) (by assumption) ?r116
                case y116 => (intro w hSw; (try dsimp only at hSw); go_simp; (try with_reducible rfl))
                simp only [Act.put, List.setIfInBounds_toArray, List.set_cons_zero, List.set_cons_succ]
                refine wpAnyH_at 17 (some 71) (v := ?v117) (by decide) rfl (by kernel_rfl) (by kernel_rfl) (by kernel_rfl) (fun _ _ _ h => h) (Or.inl ⟨by rfl, ?y117⟩) (by assumption) ?r117
                case y117 => (intro w hSw; (try dsimp only at hSw); go_simp; (try with_reducible rfl))
                simp only [Act.put, List.setIfInBounds_toArray, List.set_cons_zero, List.set_cons_succ]
                refine wpAnyH_at 18 (some 72) (v := ?v118) (by decide) rfl (by kernel_rfl) (by kernel_rfl) (by kernel_rfl) (fun _ _ _ h => h) (Or.inl ⟨by rfl, ?y118⟩) (by assumption) ?r118
                case y118 => (intro w hSw; (try dsimp only at hSw); go_simp; (try with_reducible rfl))
                simp only [Act.put, List.setIfInBounds_toArray, List.set_cons_zero, List.set_cons_succ]
                refine wpAnyH_at 19 (some 73) (v := ?v119) (by decide) rfl (by kernel_rfl) (by kernel_rfl) (by kernel_rfl) (fun _ _ _ h => h) (Or.inl ⟨by rfl, ?y119⟩) (by assumption) ?r119
                case y119 => (intro w hSw; (try dsimp only at hSw); go_simp; (try with_reducible rfl))
                simp only [Act.put, List.setIfInBounds_toArray, List.set_cons_zero, List.set_cons_succ]
                refine wpAnyH_at 20 (some 74) (v := ?v120) (by decide) rfl (by kernel_rfl) (by kernel_rfl) (by kernel_rfl) (fun _ _ _ h => h) (Or.inl ⟨by rfl, ?y120⟩) (by assumption) ?r120
                case y120 => (intro w hSw; (try dsimp only at hSw); go_simp; (try with_reducible rfl))
                simp only [Act.put, List.setIfInBounds_toArray, List.set_cons_zero, List.set_cons_succ]
                refine wpAnyH_at 21 (some 75) (v := ?v121) (by decide) rfl (by kernel_rfl) (by kernel_rfl) (by kernel_rfl) (fun _ _ _ h => h) (Or.inl ⟨by rfl, ?y121⟩) (by assumption) ?r121
                case y121 => (intro w hSw; (try dsimp only at hSw); go_simp; (try with_reducible rfl))
                simp only [Act.put, List.setIfInBounds_toArray, List.set_cons_zero, List.set_cons_succ]
                refine wpAnyH_at 22 (some 76) (v := ?v122) (by decide) rfl (by kernel_rfl) (by kernel_rfl) (by kernel_rfl) (fun _ _ _ h => h) (Or.inl ⟨by rfl, ?y122⟩) (by assumption) ?r122
                case y122 => (intro w hSw; (try dsimp only at hSw); go_simp; (try with_reducible rfl))
                simp only [Act.put, List.setIfInBounds_toArray, List.set_cons_zero, List.set_cons_succ]
                refine wpAnyH_at 23 (some 77) (v := ?v123) (by decide) rfl (by kernel_rfl) (by kernel_rfl) (by kernel_rfl) (fun _ _ _ h => h) (Or.inl ⟨by rfl, ?y123⟩) (by assumption) ?r123
                case y123 => (intro w hSw; (try dsimp only at hSw); go_simp; (try with_reducible rfl))
                simp only [Act.put, List.setIfInBounds_toArray, List.set_cons_zero, List.set_cons_succ]
                refine wpAnyH_at 24 (some 78) (v := ?v124) (by decide) rfl (by kernel_rfl) (by kernel_rfl) (by kernel_rfl) (fun _ _ _ h => h) (Or.inl ⟨by rfl, ?y124⟩) (by assumption) ?r124
                case y124 => (intro w hSw; (try dsimp only at hSw); go_simp; (try with_reducible rfl))
                simp only [Act.put, List.setIfInBounds_toArray, List.set_cons_zero, List.set_cons_succ]
                refine wpAnyH_at 25 (some 79) (v := ?v125) (by decide) rfl (by kernel_rfl) (by kernel_rfl) (by kernel_rfl) (fun _ _ _ h => h) (Or.inl ⟨by rfl, ?y125⟩) (by assumption) ?r125
                case y125 => (intro w hSw; (try dsimp only at hSw); go_simp; (try with_reducible rfl))
                simp only [Act.put, List.setIfInBounds_toArray, List.set_cons_zero, List.set_cons_succ]
                refine wpAnyH_done (by kernel_rfl) ?_ _
                clear hHeld
                go_wp2_with fail
                have kx : Kept (fun k => k = xb) wr (wr.setCell ⟨xb, 1, none⟩ (.int .u32 q)).drew := ((Kept.refl (fun k => k = xb) wr).setCell (.inl rfl) _).drew
                have AI1 := (AI.out.set1 HF.out q).drew
                have q1 := (kx.block sb (row_lt G1.out) n1).trans G1.out
                have q2 := G2.out.kept kx (fun k hk e => by have := HF.out _ (G3.out _ hk); have := AI.out.n; omega)
                have Q1 := hid q1; have Q2 := hid q2; have A1 := hid AI1
                clear kx q1 q2 AI1
                rw [show (L.length : Int) + 1 = ((L.length + 1 : Nat) : Int) from by omega]
                refine (del_le Q2.out (scells_one _) L.length (L.length + 1) (by omega) (by omega)).mono ?_
                rintro e w5 ⟨a2, c2, rfl, ho5, hk5, hb5⟩
                obtain ⟨r5, hl5, AI5⟩ := A1.out.del (C' := L ++ R') HF.out Q1.out Q2.out G3.out L.length (L.length + 1) (by omega) (by omega) (by rw [HCC.out, List.take_left' rfl]; congr 1; rw [show L ++ (p, q) :: R' = (L ++ [(p, q)]) ++ R' by simp, List.drop_left' (by simp)]) ho5 hk5 hb5
                obtain ⟨C6, hC6⟩ : ∃ C6, C6 = L ++ R' := ⟨_, rfl⟩
                rw [hl5]
                rw [← hC6] at AI5 ⊢
                have c5' : w5.cell? ⟨sb, 0, none⟩ = some (.slice (some ⟨g, 0, none⟩) C.length cap) := by have := row_cell r5 0; simpa using this
                have f5' := row_free r5 0
                have HC6 := hid hC6
                have ht5 : T = leftL L x1 ++ [(leftX L x1, q)] ++ R' := by rw [HT.out]; simp only [rightL, rightX, if_pos (show x2 ≠ 4294967295 ∧ (p, q).1 = x2 + 1 from ⟨hxm2, hp⟩)]
                have hm5 : Mid L x1 q R' := by
                  have := HM.out.right.1
                  simpa only [rightL, rightX, if_pos (show x2 ≠ 4294967295 ∧ (p, q).1 = x2 + 1 from ⟨hxm2, hp⟩)] using this
                have HT5 := hid ht5; have HM5 := hid hm5; have A5 := hid AI5
                clear r5 hl5 ho5 hk5 hb5 hC6 ht5 hm5 c0 cf d0 d1 df n1 n2 y0 y1 HT HM AI AI5
                go_wp2_with fail
                clear c5' f5' G1 G2 G3 Q1 Q2 A1 HCy HCC HCl hCn hq hqi hp hpx hxm hxm2 hw hyb hyx hx2
                have AI5 := A5.out
                clear A5
                rw [HC6.out] at AI5 ⊢
                generalize w5.setCell ⟨sb, 0, none⟩ (.slice a2 (L ++ R').length c2) = W5 at AI5 ⊢
                clear HC6
                have hHeld := trivial
                clear hHeld
                obtain ⟨C5, hC5⟩ : ∃ C5, C5 = L ++ R' := ⟨_, rfl⟩
                rw [← hC5] at AI5
                obtain ⟨ao5, cap5, g1, g2, g3, c0, cf, d0, d1, df, n1, n2, hCn5⟩ := AI5.facts HF.out
                have hCl5 : C5.length = L.length + (R').length := by rw [hC5]; simp
                have HCl5 := hid hCl5
                have HA5 := hid AI5
                clear AI5
                rcases List.eq_nil_or_concat L with hL | ⟨L0, z, hL⟩
                · have hi0 : ¬ (0 : Int) < (L.length : Int) := by rw [hL]; simp
                  have hi1 : ¬ 0 < L.length := by rw [hL]; simp
                  have ht : T = L ++ [(x1, q)] ++ R' := by rw [HT5.out, hL]; rfl
                  have HT6 := hid ht; have HC6 := hid hC5
                  clear ht hL hC5 hCl5 g1 g2 g3
                  refine wp_region_held_drew (S := fun _ => True) (by kernel_rfl) (by exact trivial) (fun hHeld => ?_)
                  refine wpAnyH_at 0 (some 100) (v := ?v1100) (by decide) rfl (by kernel_rfl) (by kernel_rfl) (by kernel_rfl) (fun _ _ _ h => h) (Or.inl ⟨by rfl, ?y1100⟩) (by assumption) ?r1100
                  case y1100 => (intro w hSw; (try dsimp only at hSw); go_simp; (try with_reducible rfl))
                  simp only [Act.put, List.setIfInBounds_toArray, List.set_cons_zero, List.set_cons_succ]
                  refine wpAnyH_at 1 (some 101) (v := ?v1101) (by decide) rfl (by kernel_rfl) (by kernel_rfl) (by kernel_rfl) (fun _ _ _ h => h) (Or.inl ⟨by rfl, ?y1101⟩) (by assumption) ?r1101
                  case y1101 => (intro w hSw; (try dsimp only at hSw); go_simp; (try with_reducible rfl))
                  simp only [Act.put, List.setIfInBounds_toArray, List.set_cons_zero, List.set_cons_succ]
                  refine wpAnyH_at 2 (some 102) (v := ?v1102) (by decide) rfl (by kernel_rfl) (by kernel_rfl) (by kernel_rfl) (fun _ _ _ h => h) (Or.inl ⟨by rfl, ?y1102⟩) (by assumption) ?r1102
                  case y1102 => (intro w hSw; (try dsimp only at hSw); go_simp; (try with_reducible rfl))
                  simp only [Act.put, List.setIfInBounds_toArray, List.set_cons_zero, List.set_cons_succ]
                  refine wpAnyH_at 3 (some 103) (v := undef) (by decide) rfl (by kernel_rfl) (by kernel_rfl) (by kernel_rfl) (fun _ _ _ h => h) (Or.inr ⟨by rfl, rfl⟩) (by assumption) ?_
                  simp only [Act.put, List.setIfInBounds_toArray, List.set_cons_zero, List.set_cons_succ]
                  refine wpAnyH_at 4 (some 104) (v := undef) (by decide) rfl (by kernel_rfl) (by kernel_rfl) (by kernel_rfl) (fun _ _ _ h => h) (Or.inr ⟨by rfl, rfl⟩) (by assumption) ?_
                  simp only [Act.put, List.setIfInBounds_toArray, List.set_cons_zero, List.set_cons_succ]
                  refine wpAnyH_at 5 (some 105) (v := undef) (by decide) rfl (by kernel_rfl) (by kernel_rfl) (by kernel_rfl) (fun _ _ _ h => h) (Or.inr ⟨by rfl, rfl⟩) (by assumption) ?_
                  simp only [Act.put, List.setIfInBounds_toArray, List.set_cons_zero, List.set_cons_succ]
                  refine wpAnyH_at 6 (some 106) (v := ?v1106) (by decide) rfl (by kernel_rfl) (by kernel_rfl) (by kernel_rfl) (fun _ _ _ h => h) (Or.inl ⟨by rfl, ?y1106⟩) (by assumption) ?r1106
                  case y1106 => (intro w hSw; (try dsimp only at hSw); go_simp; (try with_reducible rfl))
                  simp only [Act.put, List.setIfInBounds_toArray, List.set_cons_zero, List.set_cons_succ]
                  refine wpAnyH_at 7 (some 107) (v := ?v1107) (by decide) rfl (by kernel_rfl) (by kernel_rfl) (by kernel_rfl) (fun _ _ _ h => h) (Or.inl ⟨by rfl, ?y1107⟩) (by assumption) ?r1107
                  case y1107 => (intro w hSw; (try dsimp only at hSw); go_simp; (try with_reducible rfl))
                  simp only [Act.put, List.setIfInBounds_toArray, List.set_cons_zero, List.set_cons_succ]
                  refine wpAnyH_at 8 (some 108) (v := undef) (by decide) rfl (by kernel_rfl) (by kernel_rfl) (by kernel_rfl) (fun _ _ _ h => h) (Or.inr ⟨by rfl, rfl⟩) (by assumption) ?_
                  simp only [Act.put, List.setIfInBounds_toArray, List.set_cons_zero, List.set_cons_succ]
                  refine wpAnyH_at 9 (some 109) (v := undef) (by decide) rfl (by kernel_rfl) (by kernel_rfl) (by kernel_rfl) (fun _ _ _ h => h) (Or.inr ⟨by rfl, rfl⟩) (by assumption) ?_
                  simp only [Act.put, List.setIfInBounds_toArray, List.set_cons_zero, List.set_cons_succ]
                  refine wpAnyH_at 10 (some 110) (v := undef) (by decide) rfl (by kernel_rfl) (by kernel_rfl) (by kernel_rfl) (fun _ _ _ h => h) (Or.inr ⟨by rfl, rfl⟩) (by assumption) ?_
                  simp only [Act.put, List.setIfInBounds_toArray, List.set_cons_zero, List.set_cons_succ]
                  refine wpAnyH_at 11 (some 111) (v := undef) (by decide) rfl (by kernel_rfl) (by kernel_rfl) (by kernel_rfl) (fun _ _ _ h => h) (Or.inr ⟨by rfl, rfl⟩) (by assumption) ?_
                  simp only [Act.put, List.setIfInBounds_toArray, List.set_cons_zero, List.set_cons_succ]
                  refine wpAnyH_at 12 (some 112) (v := undef) (by decide) rfl (by kernel_rfl) (by kernel_rfl) (by kernel_rfl) (fun _ _ _ h => h) (Or.inr ⟨by rfl, rfl⟩) (by assumption) ?_
                  simp only [Act.put, List.setIfInBounds_toArray, List.set_cons_zero, List.set_cons_succ]
                  refine wpAnyH_at 13 (some 113) (v := undef) (by decide) rfl (by kernel_rfl) (by kernel_rfl) (by kernel_rfl) (fun _ _ _ h => h) (Or.inr ⟨by rfl, rfl⟩) (by assumption) ?_
                  simp only [Act.put, List.setIfInBounds_toArray, List.set_cons_zero, List.set_cons_succ]
                  refine wpAnyH_at 14 (some 114) (v := undef) (by decide) rfl (by kernel_rfl) (by kernel_rfl) (by kernel_rfl) (fun _ _ _ h => h) (Or.inr ⟨by rfl, rfl⟩) (by assumption) ?_
                  simp only [Act.put, List.setIfInBounds_toArray, List.set_cons_zero, List.set_cons_succ]
                  refine wpAnyH_at 15 (some 115) (v := undef) (by decide) rfl (by kernel_rfl) (by kernel_rfl) (by kernel_rfl) (fun _ _ _ h => h) (Or.inr ⟨by rfl, rfl⟩) (by assumption) ?_
                  simp only [Act.put, List.setIfInBounds_toArray, List.set_cons_zero, List.set_cons_succ]
                  refine wpAnyH_at 16 (some 116) (v := undef) (by decide) rfl (by kernel_rfl) (by kernel_rfl) (by kernel_rfl) (fun _ _ _ h => h) (Or.inr ⟨by rfl, rfl⟩) (by assumption) ?_
                  simp only [Act.put, List.setIfInBounds_toArray, List.set_cons_zero, List.set_cons_succ]
                  refine wpAnyH_at 17 (some 117) (v := undef) (by decide) rfl (by kernel_rfl) (by kernel_rfl) (by kernel_rfl) (fun _ _ _ h => h) (Or.inr ⟨by rfl, rfl⟩) (by assumption) ?_
                  simp only [Act.put, List.setIfInBounds_toArray, List.set_cons_zero, List.set_cons_succ]
                  refine wpAnyH_at 18 (some 118) (v := undef) (by decide) rfl (by kernel_rfl) (by kernel_rfl) (by kernel_rfl) (fun _ _ _ h => h) (Or.inr ⟨by rfl, rfl⟩) (by assumption) ?_
                  simp only [Act.put, List.setIfInBounds_toArray, List.set_cons_zero, List.set_cons_succ]
                  refine wpAnyH_at 19 (some 119) (v := undef) (by decide) rfl (by kernel_rfl) (by kernel_rfl) (by kernel_rfl) (fun _ _ _ h => h) (Or.inr ⟨by rfl, rfl⟩) (by assumption) ?_
                  simp only [Act.put, List.setIfInBounds_toArray, List.set_cons_zero, List.set_cons_succ]
                  refine wpAnyH_at 20 (some 120) (v := undef) (by decide) rfl (by kernel_rfl) (by kernel_rfl) (by kernel_rfl) (fun _ _ _ h => h) (Or.inr ⟨by rfl, rfl⟩) (by assumption) ?_
                  simp only [Act.put, List.setIfInBounds_toArray, List.set_cons_zero, List.set_cons_succ]
                  refine wpAnyH_at 21 (some 121) (v := ?v1121) (by decide) rfl (by kernel_rfl) (by kernel_rfl) (by kernel_rfl) (fun _ _ _ h => h) (Or.inl ⟨by rfl, ?y1121⟩) (by assumption) ?r1121
                  case y1121 => (intro w hSw; (try dsimp only at hSw); go_simp; (try with_reducible rfl))
                  simp only [Act.put, List.setIfInBounds_toArray, List.set_cons_zero, List.set_cons_succ]
                  refine wpAnyH_done (by kernel_rfl) ?_ _
                  clear hHeld
                  have AI6 := hid HA5.out.drew
                  go_wp2_with fail
                  clear c0 cf d0 d1 df n1 n2
                  generalize W5.drew = W6 at AI6 ⊢
                  obtain ⟨ao6, cap6, g1, g2, g3, c0, cf, d0, d1, df, n1, n2, hCn⟩ := AI6.out.facts HF.out
                  have G3 := hid g3
                  have OW := hid (show Own ((W6.alloc (.cells #[.int .u32 (x1), .int .u32 (q)] 46)).drew) 46 2 _ _ _ from (g2.alloc _).drew)
                  have RW := hid (row_old (w := W6) g1 (.cells #[.int .u32 (x1), .int .u32 (q)] 46))
                  have XW := hid (row_old (w := W6) AI6.out.x (.cells #[.int .u32 (x1), .int .u32 (q)] 46))
                  have HIL := hid (show L.length ≤ C5.length by rw [HC6.out]; simp)
                  have k0 : (W6.alloc (.cells #[.int .u32 (x1), .int .u32 (q)] 46)).cell? ⟨sb, 0, none⟩ = some (.slice ao6 C5.length cap6) := by have := row_cell RW.out 0; simpa using this
                  obtain ⟨k1, k2, _⟩ := cell2 XW.out
                  clear g1 g2 g3
                  refine wp_region_held_drew (S := fun w' => w'.cell? ⟨xb, 0, none⟩ = some (.int .u32 (x1)) ∧ w'.cell? ⟨xb, 1, none⟩ = some (.int .u32 (q))) (by kernel_rfl) (by exact ⟨d0, d1⟩) (fun hHeld => ?_)
                  refine wpAnyH_at 0 (some 145) (v := ?v1200) (by decide) rfl (by kernel_rfl) (by kernel_rfl) (by kernel_rfl) (fun _ _ _ h => h) (Or.inl ⟨by rfl, ?y1200⟩) (by assumption) ?r1200
                  case y1200 => (intro w hSw; (try dsimp only at hSw); go_simp; (try with_reducible rfl))
                  simp only [Act.put, List.setIfInBounds_toArray, List.set_cons_zero, List.set_cons_succ]
                  refine wpAnyH_at 1 (some 146) (v := ?v1201) (by decide) rfl (by kernel_rfl) (by kernel_rfl) (by kernel_rfl) (fun _ _ _ h => h) (Or.inl ⟨by rfl, ?y1201⟩) (by assumption) ?r1201
                  case y1201 => (intro w hSw; (try dsimp only at hSw); go_simp; (try with_reducible rfl))
                  simp only [Act.put, List.setIfInBounds_toArray, List.set_cons_zero, List.set_cons_succ]
                  refine wpAnyH_at 2 (some 147) (v := ?v1202) (by decide) rfl (by kernel_rfl) (by kernel_rfl) (by kernel_rfl) (fun _ _ _ h => h) (Or.inl ⟨by rfl, ?y1202⟩) (by assumption) ?r1202
                  case y1202 => (intro w hSw; (try dsimp only at hSw); go_simp; (try with_reducible rfl))
                  simp only [Act.put, List.setIfInBounds_toArray, List.set_cons_zero, List.set_cons_succ]
                  refine wpAnyH_at 3 (some 148) (v := ?v1203) (by decide) rfl (by kernel_rfl) (by kernel_rfl) (by kernel_rfl) (fun _ _ _ h => h) (Or.inl ⟨by rfl, ?y1203⟩) (by assumption) ?r1203
                  case y1203 => (intro w hSw; (try dsimp only at hSw); go_simp; (try with_reducible rfl))
                  simp only [Act.put, List.setIfInBounds_toArray, List.set_cons_zero, List.set_cons_succ]
                  refine wpAnyH_at 5 (some 150) (v := ?v1205) (by decide) rfl (by kernel_rfl) (by kernel_rfl) (by kernel_rfl) (fun _ _ _ h => h) (Or.inl ⟨by rfl, ?y1205⟩) (by assumption) ?r1205
                  case y1205 => (intro w hSw; (try dsimp only at hSw); go_simp; (try with_reducible rfl))
                  simp only [Act.put, List.setIfInBounds_toArray, List.set_cons_zero, List.set_cons_succ]
                  refine wpAnyH_at 6 (some 151) (v := ?v1206) (by decide) rfl (by kernel_rfl) (by kernel_rfl) (by kernel_rfl) (fun _ _ _ h => h) (Or.inl ⟨by rfl, ?y1206⟩) (by assumption) ?r1206
                  case y1206 => (intro w hSw; (try dsimp only at hSw); go_simp; (try with_reducible rfl))
                  simp only [Act.put, List.setIfInBounds_toArray, List.set_cons_zero, List.set_cons_succ]
                  refine wpAnyH_ready (rs := [4, 7]) (by kernel_rfl) (by simp) ?_
                  refine AllReadyH.cons rfl (fun K hK => ?_) (AllReadyH.cons rfl (fun K hK => ?_) AllReadyH.nil)
                  · go_simp
                    try dsimp only []
                    refine hK.out _ _ (by exact ⟨d0, d1⟩) (fun hHeld => ?_)
                    clear hK K
                    try simp only [Act.put, List.setIfInBounds_toArray, List.set_cons_zero, List.set_cons_succ]
                    refine wpAnyH_ready (rs := [7]) (by kernel_rfl) (by simp) ?_
                    refine AllReadyH.cons rfl (fun K hK => ?_) AllReadyH.nil
                    go_simp
                    try dsimp only []
                    refine hK.out _ _ (by exact ⟨k1, k2⟩) (fun hHeld => ?_)
                    clear hK K
                    try simp only [Act.put, List.setIfInBounds_toArray, List.set_cons_zero, List.set_cons_succ]
                    refine wpAnyH_ready (rs := [8]) (by kernel_rfl) (by simp) ?_
                    refine AllReadyH.cons rfl (fun K hK => ?_) AllReadyH.nil
                    go_simp
                    refine (ins_any (by exact OW.out) (scells_one _) (L.length) (by exact HIL.out) (own_two (w := W6) _ _).drew (by simp [Value.oneCell']) (fun g hg e => by have h1 := HF.out _ (G3.out _ e); have h2 := AI6.out.k.size; simp [Value.ownBlock] at hg; omega) (by omega)).mono ?_
                    rintro e w7 ⟨a7, c7, rfl, ho7, hk7, hf7⟩
                    have r7 := (hk7.block sb (row_lt RW.out) (OW.out.ne_block RW.out (by decide))).trans RW.out
                    have x7 := (hk7.block xb (row_lt XW.out) (fun e => by have h1 := HF.out _ (G3.out _ e); have h2 := AI6.out.n; omega)).trans XW.out
                    obtain ⟨e0, e1, _⟩ := cell2 x7
                    try dsimp only []
                    refine hK.out _ _ (by exact ⟨e0, e1⟩) (fun hHeld => ?_)
                    clear hK K
                    try simp only [Act.put, List.setIfInBounds_toArray, List.set_cons_zero, List.set_cons_succ]
                    refine wpAnyH_at 9 (some 154) (v := ?v12109) (by decide) rfl (by kernel_rfl) (by kernel_rfl) (by kernel_rfl) (fun _ _ _ h => h) (Or.inl ⟨by rfl, ?y12109⟩) (by assumption) ?r12109
                    case y12109 => (intro w hSw; (try dsimp only at hSw); go_simp; (try with_reducible rfl))
                    simp only [Act.put, List.setIfInBounds_toArray, List.set_cons_zero, List.set_cons_succ]
                    refine wpAnyH_at 10 (some 155) (v := ?v12110) (by decide) rfl (by kernel_rfl) (by kernel_rfl) (by kernel_rfl) (fun _ _ _ h => h) (Or.inl ⟨by rfl, ?y12110⟩) (by assumption) ?r12110
                    case y12110 => (intro w hSw; (try dsimp only at hSw); go_simp; (try with_reducible rfl))
                    simp only [Act.put, List.setIfInBounds_toArray, List.set_cons_zero, List.set_cons_succ]
                    have c7' : w7.cell? ⟨sb, 0, none⟩ = some (.slice ao6 C5.length cap6) := by have := row_cell r7 0; simpa using this
                    have f7' := row_free r7 0
                    refine wpAnyH_ready (rs := [11]) (by kernel_rfl) (by simp) ?_
                    refine AllReadyH.cons rfl (fun K hK => ?_) AllReadyH.nil
                    go_simp
                    try dsimp only []
                    refine hK.out _ _ (by exact ⟨(cell2 (((Kept.refl (fun k => k = sb) w7).setCell (.inl rfl) _).block xb (row_lt x7) n2 |>.trans x7)).1, (cell2 (((Kept.refl (fun k => k = sb) w7).setCell (.inl rfl) _).block xb (row_lt x7) n2 |>.trans x7)).2.1⟩) (fun hHeld => ?_)
                    clear hK K
                    try simp only [Act.put, List.setIfInBounds_toArray, List.set_cons_zero, List.set_cons_succ]
                    refine wpAnyH_done (by kernel_rfl) ?_ _
                    have R7 := hid r7; have HO7 := hid ho7; have HK7 := hid hk7; have HF7 := hid hf7
                    clear hHeld c7' f7' r7 ho7 hk7 hf7 x7 e0 e1
                    go_wp2
                    go_ret
                    have ho := HO7.out
                    have hfo := HF7.out
                    have hl : C5.length + 1 = T.length := by rw [HT6.out, HC6.out]; simp; omega
                    have hd : T = C5.take (L.length) ++ [(x1, q)] ++ C5.drop (L.length) := by rw [HC6.out, List.take_left' rfl, List.drop_left' rfl]; exact HT6.out
                    have hsc : (scells C5).take ((L.length) * 2) ++ [.int .u32 (x1), .int .u32 (q)] ++ (scells C5).drop ((L.length) * 2) = scells T := by
                      rw [← scells_take, ← scells_drop, hd, scells_app, scells_app]; rfl
                    rw [hsc] at ho
                    rw [hl] at ho hfo ⊢
                    rw [← HTA.out]
                    refine ⟨by rw [HC.out]; rfl, SetAt.put (F := fun g => F g ∨ w.heap.size ≤ g) (S0 := C5) R7.out (.inl AI6.out.s.m) HGA.out ho (fun g hg => ?_), ?_⟩
                    · rcases hfo g hg with h1 | h1
                      · exact .inl (G3.out g h1)
                      · right; have := AI6.out.k.size; simp at h1; omega
                    · exact Kept.setCell (F := F) (Kept.trans' (F := F) ((AI6.out.k.alloc _).drew) HK7.out (fun i hi => Or.inl (G3.out i hi))) (Or.inl AI6.out.s.m) _
                  · go_simp
                    try dsimp only []
                    refine hK.out _ _ (by exact ⟨k1, k2⟩) (fun hHeld => ?_)
                    clear hK K
                    try simp only [Act.put, List.setIfInBounds_toArray, List.set_cons_zero, List.set_cons_succ]
                    refine wpAnyH_ready (rs := [4]) (by kernel_rfl) (by simp) ?_
                    refine AllReadyH.cons rfl (fun K hK => ?_) AllReadyH.nil
                    go_simp
                    try dsimp only []
                    refine hK.out _ _ (by exact ⟨k1, k2⟩) (fun hHeld => ?_)
                    clear hK K
                    try simp only [Act.put, List.setIfInBounds_toArray, List.set_cons_zero, List.set_cons_succ]
                    refine wpAnyH_ready (rs := [8]) (by kernel_rfl) (by simp) ?_
                    refine AllReadyH.cons rfl (fun K hK => ?_) AllReadyH.nil
                    go_simp
                    refine (ins_any (by exact OW.out) (scells_one _) (L.length) (by exact HIL.out) (own_two (w := W6) _ _).drew (by simp [Value.oneCell']) (fun g hg e => by have h1 := HF.out _ (G3.out _ e); have h2 := AI6.out.k.size; simp [Value.ownBlock] at hg; omega) (by omega)).mono ?_
                    rintro e w7 ⟨a7, c7, rfl, ho7, hk7, hf7⟩
                    have r7 := (hk7.block sb (row_lt RW.out) (OW.out.ne_block RW.out (by decide))).trans RW.out
                    have x7 := (hk7.block xb (row_lt XW.out) (fun e => by have h1 := HF.out _ (G3.out _ e); have h2 := AI6.out.n; omega)).trans XW.out
                    obtain ⟨e0, e1, _⟩ := cell2 x7
                    try dsimp only []
                    refine hK.out _ _ (by exact ⟨e0, e1⟩) (fun hHeld => ?_)
                    clear hK K
                    try simp only [Act.put, List.setIfInBounds_toArray, List.set_cons_zero, List.set_cons_succ]
                    refine wpAnyH_at 9 (some 154) (v := ?v12209) (by decide) rfl (by kernel_rfl) (by kernel_rfl) (by kernel_rfl) (fun _ _ _ h => h) (Or.inl ⟨by rfl, ?y12209⟩) (by assumption) ?r12209
                    case y12209 => (intro w hSw; (try dsimp only at hSw); go_simp; (try with_reducible rfl))
                    simp only [Act.put, List.setIfInBounds_toArray, List.set_cons_zero, List.set_cons_succ]
                    refine wpAnyH_at 10 (some 155) (v := ?v12210) (by decide) rfl (by kernel_rfl) (by kernel_rfl) (by kernel_rfl) (fun _ _ _ h => h) (Or.inl ⟨by rfl, ?y12210⟩) (by assumption) ?r12210
                    case y12210 => (intro w hSw; (try dsimp only at hSw); go_simp; (try with_reducible rfl))
                    simp only [Act.put, List.setIfInBounds_toArray, List.set_cons_zero, List.set_cons_succ]
                    have c7' : w7.cell? ⟨sb, 0, none⟩ = some (.slice ao6 C5.length cap6) := by have := row_cell r7 0; simpa using this
                    have f7' := row_free r7 0
                    refine wpAnyH_ready (rs := [11]) (by kernel_rfl) (by simp) ?_
                    refine AllReadyH.cons rfl (fun K hK => ?_) AllReadyH.nil
                    go_simp
                    try dsimp only []
                    refine hK.out _ _ (by exact ⟨(cell2 (((Kept.refl (fun k => k = sb) w7).setCell (.inl rfl) _).block xb (row_lt x7) n2 |>.trans x7)).1, (cell2 (((Kept.refl (fun k => k = sb) w7).setCell (.inl rfl) _).block xb (row_lt x7) n2 |>.trans x7)).2.1⟩) (fun hHeld => ?_)
                    clear hK K
                    try simp only [Act.put, List.setIfInBounds_toArray, List.set_cons_zero, List.set_cons_succ]
                    refine wpAnyH_done (by kernel_rfl) ?_ _
                    have R7 := hid r7; have HO7 := hid ho7; have HK7 := hid hk7; have HF7 := hid hf7
                    clear hHeld c7' f7' r7 ho7 hk7 hf7 x7 e0 e1
                    go_wp2
                    go_ret
                    have ho := HO7.out
                    have hfo := HF7.out
                    have hl : C5.length + 1 = T.length := by rw [HT6.out, HC6.out]; simp; omega
                    have hd : T = C5.take (L.length) ++ [(x1, q)] ++ C5.drop (L.length) := by rw [HC6.out, List.take_left' rfl, List.drop_left' rfl]; exact HT6.out
                    have hsc : (scells C5).take ((L.length) * 2) ++ [.int .u32 (x1), .int .u32 (q)] ++ (scells C5).drop ((L.length) * 2) = scells T := by
                      rw [← scells_take, ← scells_drop, hd, scells_app, scells_app]; rfl
                    rw [hsc] at ho
                    rw [hl] at ho hfo ⊢
                    rw [← HTA.out]
                    refine ⟨by rw [HC.out]; rfl, SetAt.put (F := fun g => F g ∨ w.heap.size ≤ g) (S0 := C5) R7.out (.inl AI6.out.s.m) HGA.out ho (fun g hg => ?_), ?_⟩
                    · rcases hfo g hg with h1 | h1
                      · exact .inl (G3.out g h1)
                      · right; have := AI6.out.k.size; simp at h1; omega
                    · exact Kept.setCell (F := F) (Kept.trans' (F := F) ((AI6.out.k.alloc _).drew) HK7.out (fun i hi => Or.inl (G3.out i hi))) (Or.inl AI6.out.s.m) _
                · rw [List.concat_eq_append] at hL
                  have hm : L.length = L0.length + 1 := by rw [hL]; simp
                  have hmC : L0.length < C5.length := by omega
                  have hCz : C5[L0.length]'hmC = z := by simp [hC5, hL]
                  have hzb := HM5.out.bl z (by rw [hL]; simp)
                  have hzx := HM5.out.l z (by rw [hL]; simp)
                  obtain ⟨g, cap', e, l1, l2, y0, y1⟩ := own_at g2 L0.length hmC
                  simp only [Value.slice.injEq] at e
                  obtain ⟨rfl, _, rfl⟩ := e
                  rw [hCz] at y0 y1
                  obtain ⟨zp, zq⟩ := z
                  simp only at y0 y1 hzb hzx
                  have hi0 : (0 : Int) < (L.length : Int) := by omega
                  have hi1 : 0 < L.length := by omega
                  have hx0 : (x1 != 0) = true := by simp; omega
                  have hx0' : x1 ≠ 0 := by omega
                  have hw1 : IntKind.u32.wrap (x1 - 1) = x1 - 1 := by have := HM5.out.b; simp [IntKind.wrap, IntKind.bits, IntKind.signed]; omega
                  have hLs : L.length ≤ 2147483648 := by omega
                  have hw2 : IntKind.i64.wrap ((L.length : Int) - 1) = (L0.length : Int) := by rw [IntKind.wrap_i64]; omega
                  have hmI : (L0.length : Int) < (C5.length : Int) := by omega
                  have G1 := hid g1; have G2 := hid g2; have G3 := hid g3; have HC5 := hid hC5; have HL := hid hL; have Hm := hid hm
                  clear g1 g2 g3 hC5 hL hm hCl5 hCz
                  by_cases hz : zq = x1 - 1
                  · have hzx1 : (zq == x1 - 1) = true := by simpa using hz
                    refine wp_region_held_drew (S := fun w' => w'.cell? ⟨sb, 0, none⟩ = some (.slice (some ⟨g, 0, none⟩) C5.length cap5) ∧ w'.cell? ⟨xb, 0, none⟩ = some (.int .u32 x1) ∧ w'.cell? ⟨g, L0.length * 2 + 1, none⟩ = some (.int .u32 zq)) (by kernel_rfl) (by exact ⟨c0, d0, y1⟩) (fun hHeld => ?_)
                    refine wpAnyH_at 0 (some 100) (v := ?v1300) (by decide) rfl (by kernel_rfl) (by kernel_rfl) (by kernel_rfl) (fun _ _ _ h => h) (Or.inl ⟨by rfl, ?y1300⟩) (by assumption) ?r1300
                    case y1300 => (intro w hSw; (try dsimp only at hSw); go_simp; (try with_reducible rfl))
                    simp only [Act.put, List.setIfInBounds_toArray, List.set_cons_zero, List.set_cons_succ]
                    refine wpAnyH_at 1 (some 101) (v := ?v1301) (by decide) rfl (by kernel_rfl) (by kernel_rfl) (by kernel_rfl) (fun _ _ _ h => h) (Or.inl ⟨by rfl, ?y1301⟩) (by assumption) ?r1301
                    case y1301 => (intro w hSw; (try dsimp only at hSw); go_simp; (try with_reducible rfl))
                    simp only [Act.put, List.setIfInBounds_toArray, List.set_cons_zero, List.set_cons_succ]
                    refine wpAnyH_at 2 (some 102) (v := ?v1302) (by decide) rfl (by kernel_rfl) (by kernel_rfl) (by kernel_rfl) (fun _ _ _ h => h) (Or.inl ⟨by rfl, ?y1302⟩) (by assumption) ?r1302
                    case y1302 => (intro w hSw; (try dsimp only at hSw); go_simp; (try with_reducible rfl))
                    simp only [Act.put, List.setIfInBounds_toArray, List.set_cons_zero, List.set_cons_succ]
                    refine wpAnyH_at 3 (some 103) (v := ?v1303) (by decide) rfl (by kernel_rfl) (by kernel_rfl) (by kernel_rfl) (fun _ _ _ h => h) (Or.inl ⟨by rfl, ?y1303⟩) (by assumption) ?r1303
                    case y1303 => (intro w hSw; (try dsimp only at hSw); go_simp; (try with_reducible rfl))
                    simp only [Act.put, List.setIfInBounds_toArray, List.set_cons_zero, List.set_cons_succ]
                    refine wpAnyH_at 4 (some 104) (v := ?v1304) (by decide) rfl (by kernel_rfl) (by kernel_rfl) (by kernel_rfl) (fun _ _ _ h => h) (Or.inl ⟨by rfl, ?y1304⟩) (by assumption) ?r1304
                    case y1304 => (intro w hSw; (try dsimp only at hSw); go_simp; (try with_reducible rfl))
                    simp only [Act.put, List.setIfInBounds_toArray, List.set_cons_zero, List.set_cons_succ]
                    refine wpAnyH_at 5 (some 105) (v := ?v1305) (by decide) rfl (by kernel_rfl) (by kernel_rfl) (by kernel_rfl) (fun _ _ _ h => h) (Or.inl ⟨by rfl, ?y1305⟩) (by assumption) ?r1305
                    case y1305 => (intro w hSw; (try dsimp only at hSw); go_simp; (try with_reducible rfl))
                    simp only [Act.put, List.setIfInBounds_toArray, List.set_cons_zero, List.set_cons_succ]
                    refine wpAnyH_at 6 (some 106) (v := ?v1306) (by decide) rfl (by kernel_rfl) (by kernel_rfl) (by kernel_rfl) (fun _ _ _ h => h) (Or.inl ⟨by rfl, ?y1306⟩) (by assumption) ?r1306
                    case y1306 => (intro w hSw; (try dsimp only at hSw); go_simp; (try with_reducible rfl))
                    simp only [Act.put, List.setIfInBounds_toArray, List.set_cons_zero, List.set_cons_succ]
                    refine wpAnyH_at 7 (some 107) (v := ?v1307) (by decide) rfl (by kernel_rfl) (by kernel_rfl) (by kernel_rfl) (fun _ _ _ h => h) (Or.inl ⟨by rfl, ?y1307⟩) (by assumption) ?r1307
                    case y1307 => (intro w hSw; (try dsimp only at hSw); go_simp; (try with_reducible rfl))
                    simp only [Act.put, List.setIfInBounds_toArray, List.set_cons_zero, List.set_cons_succ]
                    refine wpAnyH_at 8 (some 108) (v := ?v1308) (by decide) rfl (by kernel_rfl) (by kernel_rfl) (by kernel_rfl) (fun _ _ _ h => h) (Or.inl ⟨by rfl, ?y1308⟩) (by assumption) ?r1308
                    case y1308 => (intro w hSw; (try dsimp only at hSw); go_simp; (try with_reducible rfl))
                    simp only [Act.put, List.setIfInBounds_toArray, List.set_cons_zero, List.set_cons_succ]
                    refine wpAnyH_at 9 (some 109) (v := ?v1309) (by decide) rfl (by kernel_rfl) (by kernel_rfl) (by kernel_rfl) (fun _ _ _ h => h) (Or.inl ⟨by rfl, ?y1309⟩) (by assumption) ?r1309
                    case y1309 => (intro w hSw; (try dsimp only at hSw); go_simp; (try with_reducible rfl))
                    simp only [Act.put, List.setIfInBounds_toArray, List.set_cons_zero, List.set_cons_succ]
                    refine wpAnyH_at 10 (some 110) (v := ?v1310) (by decide) rfl (by kernel_rfl) (by kernel_rfl) (by kernel_rfl) (fun _ _ _ h => h) (Or.inl ⟨by rfl, ?y1310⟩) (by assumption) ?r1310
                    case y1310 => (intro w hSw; (try dsimp only at hSw); go_simp; (try with_reducible rfl))
                    simp only [Act.put, List.setIfInBounds_toArray, List.set_cons_zero, List.set_cons_succ]
                    refine wpAnyH_at 11 (some 111) (v := ?v1311) (by decide) rfl (by kernel_rfl) (by kernel_rfl) (by kernel_rfl) (fun _ _ _ h => h) (Or.inl ⟨by rfl, ?y1311⟩) (by assumption) ?r1311
                    case y1311 => (intro w hSw; (try dsimp only at hSw); go_simp; (try with_reducible rfl))
                    simp only [Act.put, List.setIfInBounds_toArray, List.set_cons_zero, List.set_cons_succ]
                    refine wpAnyH_at 12 (some 112) (v := ?v1312) (by decide) rfl (by kernel_rfl) (by kernel_rfl) (by kernel_rfl) (fun _ _ _ h => h) (Or.inl ⟨by rfl, ?y1312⟩) (by assumption) ?r1312
                    case y1312 => (intro w hSw; (try dsimp only at hSw); go_simp; (try with_reducible rfl))
                    simp only [Act.put, List.setIfInBounds_toArray, List.set_cons_zero, List.set_cons_succ]
                    refine wpAnyH_at 13 (some 113) (v := ?v1313) (by decide) rfl (by kernel_rfl) (by kernel_rfl) (by kernel_rfl) (fun _ _ _ h => h) (Or.inl ⟨by rfl, ?y1313⟩) (by assumption) ?r1313
                    case y1313 => (intro w hSw; (try dsimp only at hSw); go_simp; (try with_reducible rfl))
                    simp only [Act.put, List.setIfInBounds_toArray, List.set_cons_zero, List.set_cons_succ]
                    refine wpAnyH_at 14 (some 114) (v := ?v1314) (by decide) rfl (by kernel_rfl) (by kernel_rfl) (by kernel_rfl) (fun _ _ _ h => h) (Or.inl ⟨by rfl, ?y1314⟩) (by assumption) ?r1314
                    case y1314 => (intro w hSw; (try dsimp only at hSw); go_simp; (try with_reducible rfl))
                    simp only [Act.put, List.setIfInBounds_toArray, List.set_cons_zero, List.set_cons_succ]
                    refine wpAnyH_at 15 (some 115) (v := ?v1315) (by decide) rfl (by kernel_rfl) (by kernel_rfl) (by kernel_rfl) (fun _ _ _ h => h) (Or.inl ⟨by rfl, ?y1315⟩) (by assumption) ?r1315
                    case y1315 => (intro w hSw; (try dsimp only at hSw); go_simp; (try with_reducible rfl))
                    simp only [Act.put, List.setIfInBounds_toArray, List.set_cons_zero, List.set_cons_succ]
                    refine wpAnyH_at 16 (some 116) (v := ?v1316) (by decide) rfl (by kernel_rfl) (by kernel_rfl) (by kernel_rfl) (fun _ _ _ h => h) (Or.inl ⟨by rfl, ?y1316⟩) (by assumption) ?r1316
                    case y1316 => (intro w hSw; (try dsimp only at hSw); go_simp; (try with_reducible rfl))
                    simp only [Act.put, List.setIfInBounds_toArray, List.set_cons_zero, List.set_cons_succ]
                    refine wpAnyH_at 17 (some 117) (v := ?v1317) (by decide) rfl (by kernel_rfl) (by kernel_rfl) (by kernel_rfl) (fun _ _ _ h => h) (Or.inl ⟨by rfl, ?y1317⟩) (by assumption) ?r1317
                    case y1317 => (intro w hSw; (try dsimp only at hSw); go_simp; (try with_reducible rfl))
                    simp only [Act.put, List.setIfInBounds_toArray, List.set_cons_zero, List.set_cons_succ]
                    refine wpAnyH_at 18 (some 118) (v := ?v1318) (by decide) rfl (by kernel_rfl) (by kernel_rfl) (by kernel_rfl) (fun _ _ _ h => h) (Or.inl ⟨by rfl, ?y1318⟩) (by assumption) ?r1318
                    case y1318 => (intro w hSw; (try dsimp only at hSw); go_simp; (try with_reducible rfl))
                    simp only [Act.put, List.setIfInBounds_toArray, List.set_cons_zero, List.set_cons_succ]
                    refine wpAnyH_at 19 (some 119) (v := ?v1319) (by decide) rfl (by kernel_rfl) (by kernel_rfl) (by kernel_rfl) (fun _ _ _ h => h) (Or.inl ⟨by rfl, ?y1319⟩) (by assumption) ?r1319
                    case y1319 => (intro w hSw; (try dsimp only at hSw); go_simp; (try with_reducible rfl))
                    simp only [Act.put, List.setIfInBounds_toArray, List.set_cons_zero, List.set_cons_succ]
                    refine wpAnyH_at 20 (some 120) (v := ?v1320) (by decide) rfl (by kernel_rfl) (by kernel_rfl) (by kernel_rfl) (fun _ _ _ h => h) (Or.inl ⟨by rfl, ?y1320⟩) (by assumption) ?r1320
                    case y1320 => (intro w hSw; (try dsimp only at hSw); go_simp; (try with_reducible rfl))
                    simp only [Act.put, List.setIfInBounds_toArray, List.set_cons_zero, List.set_cons_succ]
                    refine wpAnyH_at 21 (some 121) (v := ?v1321) (by decide) rfl (by kernel_rfl) (by kernel_rfl) (by kernel_rfl) (fun _ _ _ h => h) (Or.inl ⟨by rfl, ?y1321⟩) (by assumption) ?r1321
                    case y1321 => (intro w hSw; (try dsimp only at hSw); go_simp; (try with_reducible rfl))
                    simp only [Act.put, List.setIfInBounds_toArray, List.set_cons_zero, List.set_cons_succ]
                    refine wpAnyH_done (by kernel_rfl) ?_ _
                    clear hHeld
                    go_wp2_with fail
                    have kx : Kept (fun k => k = xb) W5 (W5.setCell ⟨xb, 0, none⟩ (.int .u32 zp)).drew := ((Kept.refl (fun k => k = xb) W5).setCell (.inl rfl) _).drew
                    have AI1 := (HA5.out.set0 HF.out zp).drew
                    have q1 := (kx.block sb (row_lt G1.out) n1).trans G1.out
                    have q2 := G2.out.kept kx (fun k hk e => by have := HF.out _ (G3.out _ hk); have := HA5.out.n; omega)
                    have Q1 := hid q1; have Q2 := hid q2; have A1 := hid AI1
                    clear kx q1 q2 AI1
                    refine (del_le Q2.out (scells_one _) L0.length L.length (by have := Hm.out; omega) (by have := HCl5.out; omega)).mono ?_
                    rintro e w5 ⟨a2, c2, rfl, ho5, hk5, hb5⟩
                    obtain ⟨r5, hl5, AI6⟩ := A1.out.del (C' := L0 ++ R') HF.out Q1.out Q2.out G3.out L0.length L.length (by have := Hm.out; omega) (by have := HCl5.out; omega) (by rw [HC5.out, List.drop_left' rfl, HL.out, List.append_assoc, List.take_left' rfl]) ho5 hk5 hb5
                    obtain ⟨C6, hC6⟩ : ∃ C6, C6 = L0 ++ R' := ⟨_, rfl⟩
                    rw [hl5]
                    rw [← hC6] at AI6 ⊢
                    have c5' : w5.cell? ⟨sb, 0, none⟩ = some (.slice (some ⟨g, 0, none⟩) C5.length cap5) := by have := row_cell r5 0; simpa using this
                    have f5' := row_free r5 0
                    have HC6 := hid hC6
                    have ht : T = L0 ++ [(zp, q)] ++ R' := by rw [HT5.out]; simp [leftL, leftX, HL.out, hz, hx0']
                    have HT6 := hid ht
                    have AI6 := hid AI6
                    clear r5 hl5 ho5 hk5 hb5 hC6 ht c0 cf d0 d1 df n1 n2 y0 y1
                    go_wp2_with fail
                    clear c5' f5' G1 G2 G3 Q1 Q2
                    generalize w5.setCell ⟨sb, 0, none⟩ (.slice a2 C6.length c2) = W6 at AI6 ⊢
                    have hCn5 := AI6.out.s.g.len
                    obtain ⟨ao6, cap6, g1, g2, g3, c0, cf, d0, d1, df, n1, n2, hCn⟩ := AI6.out.facts HF.out
                    have G3 := hid g3
                    have OW := hid (show Own ((W6.alloc (.cells #[.int .u32 (zp), .int .u32 (q)] 46)).drew) 46 2 _ _ _ from (g2.alloc _).drew)
                    have RW := hid (row_old (w := W6) g1 (.cells #[.int .u32 (zp), .int .u32 (q)] 46))
                    have XW := hid (row_old (w := W6) AI6.out.x (.cells #[.int .u32 (zp), .int .u32 (q)] 46))
                    have HIL := hid (show L0.length ≤ C6.length by rw [HC6.out]; simp)
                    have k0 : (W6.alloc (.cells #[.int .u32 (zp), .int .u32 (q)] 46)).cell? ⟨sb, 0, none⟩ = some (.slice ao6 C6.length cap6) := by have := row_cell RW.out 0; simpa using this
                    obtain ⟨k1, k2, _⟩ := cell2 XW.out
                    clear g1 g2 g3
                    refine wp_region_held_drew (S := fun w' => w'.cell? ⟨xb, 0, none⟩ = some (.int .u32 (zp)) ∧ w'.cell? ⟨xb, 1, none⟩ = some (.int .u32 (q))) (by kernel_rfl) (by exact ⟨d0, d1⟩) (fun hHeld => ?_)
                    refine wpAnyH_at 0 (some 145) (v := ?v1600) (by decide) rfl (by kernel_rfl) (by kernel_rfl) (by kernel_rfl) (fun _ _ _ h => h) (Or.inl ⟨by rfl, ?y1600⟩) (by assumption) ?r1600
                    case y1600 => (intro w hSw; (try dsimp only at hSw); go_simp; (try with_reducible rfl))
                    simp only [Act.put, List.setIfInBounds_toArray, List.set_cons_zero, List.set_cons_succ]
                    refine wpAnyH_at 1 (some 146) (v := ?v1601) (by decide) rfl (by kernel_rfl) (by kernel_rfl) (by kernel_rfl) (fun _ _ _ h => h) (Or.inl ⟨by rfl, ?y1601⟩) (by assumption) ?r1601
                    case y1601 => (intro w hSw; (try dsimp only at hSw); go_simp; (try with_reducible rfl))
                    simp only [Act.put, List.setIfInBounds_toArray, List.set_cons_zero, List.set_cons_succ]
                    refine wpAnyH_at 2 (some 147) (v := ?v1602) (by decide) rfl (by kernel_rfl) (by kernel_rfl) (by kernel_rfl) (fun _ _ _ h => h) (Or.inl ⟨by rfl, ?y1602⟩) (by assumption) ?r1602
                    case y1602 => (intro w hSw; (try dsimp only at hSw); go_simp; (try with_reducible rfl))
                    simp only [Act.put, List.setIfInBounds_toArray, List.set_cons_zero, List.set_cons_succ]
                    refine wpAnyH_at 3 (some 148) (v := ?v1603) (by decide) rfl (by kernel_rfl) (by kernel_rfl) (by kernel_rfl) (fun _ _ _ h => h) (Or.inl ⟨by rfl, ?y1603⟩) (by assumption) ?r1603
                    case y1603 => (intro w hSw; (try dsimp only at hSw); go_simp; (try with_reducible rfl))
                    simp only [Act.put, List.setIfInBounds_toArray, List.set_cons_zero, List.set_cons_succ]
                    refine wpAnyH_at 5 (some 150) (v := ?v1605) (by decide) rfl (by kernel_rfl) (by kernel_rfl) (by kernel_rfl) (fun _ _ _ h => h) (Or.inl ⟨by rfl, ?y1605⟩) (by assumption) ?r1605
                    case y1605 => (intro w hSw; (try dsimp only at hSw); go_simp; (try with_reducible rfl))
                    simp only [Act.put, List.setIfInBounds_toArray, List.set_cons_zero, List.set_cons_succ]
                    refine wpAnyH_at 6 (some 151) (v := ?v1606) (by decide) rfl (by kernel_rfl) (by kernel_rfl) (by kernel_rfl) (fun _ _ _ h => h) (Or.inl ⟨by rfl, ?y1606⟩) (by assumption) ?r1606
                    case y1606 => (intro w hSw; (try dsimp only at hSw); go_simp; (try with_reducible rfl))
                    simp only [Act.put, List.setIfInBounds_toArray, List.set_cons_zero, List.set_cons_succ]
                    refine wpAnyH_ready (rs := [4, 7]) (by kernel_rfl) (by simp) ?_
                    refine AllReadyH.cons rfl (fun K hK => ?_) (AllReadyH.cons rfl (fun K hK => ?_) AllReadyH.nil)
                    · go_simp
                      try dsimp only []
                      refine hK.out _ _ (by exact ⟨d0, d1⟩) (fun hHeld => ?_)
                      clear hK K
                      try simp only [Act.put, List.setIfInBounds_toArray, List.set_cons_zero, List.set_cons_succ]
                      refine wpAnyH_ready (rs := [7]) (by kernel_rfl) (by simp) ?_
                      refine AllReadyH.cons rfl (fun K hK => ?_) AllReadyH.nil
                      go_simp
                      try dsimp only []
                      refine hK.out _ _ (by exact ⟨k1, k2⟩) (fun hHeld => ?_)
                      clear hK K
                      try simp only [Act.put, List.setIfInBounds_toArray, List.set_cons_zero, List.set_cons_succ]
                      refine wpAnyH_ready (rs := [8]) (by kernel_rfl) (by simp) ?_
                      refine AllReadyH.cons rfl (fun K hK => ?_) AllReadyH.nil
                      go_simp
                      refine (ins_any (by exact OW.out) (scells_one _) (L0.length) (by exact HIL.out) (own_two (w := W6) _ _).drew (by simp [Value.oneCell']) (fun g hg e => by have h1 := HF.out _ (G3.out _ e); have h2 := AI6.out.k.size; simp [Value.ownBlock] at hg; omega) (by omega)).mono ?_
                      rintro e w7 ⟨a7, c7, rfl, ho7, hk7, hf7⟩
                      have r7 := (hk7.block sb (row_lt RW.out) (OW.out.ne_block RW.out (by decide))).trans RW.out
                      have x7 := (hk7.block xb (row_lt XW.out) (fun e => by have h1 := HF.out _ (G3.out _ e); have h2 := AI6.out.n; omega)).trans XW.out
                      obtain ⟨e0, e1, _⟩ := cell2 x7
                      try dsimp only []
                      refine hK.out _ _ (by exact ⟨e0, e1⟩) (fun hHeld => ?_)
                      clear hK K
                      try simp only [Act.put, List.setIfInBounds_toArray, List.set_cons_zero, List.set_cons_succ]
                      refine wpAnyH_at 9 (some 154) (v := ?v16109) (by decide) rfl (by kernel_rfl) (by kernel_rfl) (by kernel_rfl) (fun _ _ _ h => h) (Or.inl ⟨by rfl, ?y16109⟩) (by assumption) ?r16109
                      case y16109 => (intro w hSw; (try dsimp only at hSw); go_simp; (try with_reducible rfl))
                      simp only [Act.put, List.setIfInBounds_toArray, List.set_cons_zero, List.set_cons_succ]
                      refine wpAnyH_at 10 (some 155) (v := ?v16110) (by decide) rfl (by kernel_rfl) (by kernel_rfl) (by kernel_rfl) (fun _ _ _ h => h) (Or.inl ⟨by rfl, ?y16110⟩) (by assumption) ?r16110
                      case y16110 => (intro w hSw; (try dsimp only at hSw); go_simp; (try with_reducible rfl))
                      simp only [Act.put, List.setIfInBounds_toArray, List.set_cons_zero, List.set_cons_succ]
                      have c7' : w7.cell? ⟨sb, 0, none⟩ = some (.slice ao6 C6.length cap6) := by have := row_cell r7 0; simpa using this
                      have f7' := row_free r7 0
                      refine wpAnyH_ready (rs := [11]) (by kernel_rfl) (by simp) ?_
                      refine AllReadyH.cons rfl (fun K hK => ?_) AllReadyH.nil
                      go_simp
                      try dsimp only []
                      refine hK.out _ _ (by exact ⟨(cell2 (((Kept.refl (fun k => k = sb) w7).setCell (.inl rfl) _).block xb (row_lt x7) n2 |>.trans x7)).1, (cell2 (((Kept.refl (fun k => k = sb) w7).setCell (.inl rfl) _).block xb (row_lt x7) n2 |>.trans x7)).2.1⟩) (fun hHeld => ?_)
                      clear hK K
                      try simp only [Act.put, List.setIfInBounds_toArray, List.set_cons_zero, List.set_cons_succ]
                      refine wpAnyH_done (by kernel_rfl) ?_ _
                      have R7 := hid r7; have HO7 := hid ho7; have HK7 := hid hk7; have HF7 := hid hf7
                      clear hHeld c7' f7' r7 ho7 hk7 hf7 x7 e0 e1
                      go_wp2
                      go_ret
                      have ho := HO7.out
                      have hfo := HF7.out
                      have hl : C6.length + 1 = T.length := by rw [HT6.out, HC6.out]; simp; omega
                      have hd : T = C6.take (L0.length) ++ [(zp, q)] ++ C6.drop (L0.length) := by rw [HC6.out, List.take_left' rfl, List.drop_left' rfl]; exact HT6.out
                      have hsc : (scells C6).take ((L0.length) * 2) ++ [.int .u32 (zp), .int .u32 (q)] ++ (scells C6).drop ((L0.length) * 2) = scells T := by
                        rw [← scells_take, ← scells_drop, hd, scells_app, scells_app]; rfl
                      rw [hsc] at ho
                      rw [hl] at ho hfo ⊢
                      rw [← HTA.out]
                      refine ⟨by rw [HC.out]; rfl, SetAt.put (F := fun g => F g ∨ w.heap.size ≤ g) (S0 := C6) R7.out (.inl AI6.out.s.m) HGA.out ho (fun g hg => ?_), ?_⟩
                      · rcases hfo g hg with h1 | h1
                        · exact .inl (G3.out g h1)
                        · right; have := AI6.out.k.size; simp at h1; omega
                      · exact Kept.setCell (F := F) (Kept.trans' (F := F) ((AI6.out.k.alloc _).drew) HK7.out (fun i hi => Or.inl (G3.out i hi))) (Or.inl AI6.out.s.m) _
                    · go_simp
                      try dsimp only []
                      refine hK.out _ _ (by exact ⟨k1, k2⟩) (fun hHeld => ?_)
                      clear hK K
                      try simp only [Act.put, List.setIfInBounds_toArray, List.set_cons_zero, List.set_cons_succ]
                      refine wpAnyH_ready (rs := [4]) (by kernel_rfl) (by simp) ?_
                      refine AllReadyH.cons rfl (fun K hK => ?_) AllReadyH.nil
                      go_simp
                      try dsimp only []
                      refine hK.out _ _ (by exact ⟨k1, k2⟩) (fun hHeld => ?_)
                      clear hK K
                      try simp only [Act.put, List.setIfInBounds_toArray, List.set_cons_zero, List.set_cons_succ]
                      refine wpAnyH_ready (rs := [8]) (by kernel_rfl) (by simp) ?_
                      refine AllReadyH.cons rfl (fun K hK => ?_) AllReadyH.nil
                      go_simp
                      refine (ins_any (by exact OW.out) (scells_one _) (L0.length) (by exact HIL.out) (own_two (w := W6) _ _).drew (by simp [Value.oneCell']) (fun g hg e => by have h1 := HF.out _ (G3.out _ e); have h2 := AI6.out.k.size; simp [Value.ownBlock] at hg; omega) (by omega)).mono ?_
                      rintro e w7 ⟨a7, c7, rfl, ho7, hk7, hf7⟩
                      have r7 := (hk7.block sb (row_lt RW.out) (OW.out.ne_block RW.out (by decide))).trans RW.out
                      have x7 := (hk7.block xb (row_lt XW.out) (fun e => by have h1 := HF.out _ (G3.out _ e); have h2 := AI6.out.n; omega)).trans XW.out
                      obtain ⟨e0, e1, _⟩ := cell2 x7
                      try dsimp only []
                      refine hK.out _ _ (by exact ⟨e0, e1⟩) (fun hHeld => ?_)
                      clear hK K
                      try simp only [Act.put, List.setIfInBounds_toArray, List.set_cons_zero, List.set_cons_succ]
                      refine wpAnyH_at 9 (some 154) (v := ?v16209) (by decide) rfl (by kernel_rfl) (by kernel_rfl) (by kernel_rfl) (fun _ _ _ h => h) (Or.inl ⟨by rfl, ?y16209⟩) (by assumption) ?r16209
                      case y16209 => (intro w hSw; (try dsimp only at hSw); go_simp; (try with_reducible rfl))
                      simp only [Act.put, List.setIfInBounds_toArray, List.set_cons_zero, List.set_cons_succ]
                      refine wpAnyH_at 10 (some 155) (v := ?v16210) (by decide) rfl (by kernel_rfl) (by kernel_rfl) (by kernel_rfl) (fun _ _ _ h => h) (Or.inl ⟨by rfl, ?y16210⟩) (by assumption) ?r16210
                      case y16210 => (intro w hSw; (try dsimp only at hSw); go_simp; (try with_reducible rfl))
                      simp only [Act.put, List.setIfInBounds_toArray, List.set_cons_zero, List.set_cons_succ]
                      have c7' : w7.cell? ⟨sb, 0, none⟩ = some (.slice ao6 C6.length cap6) := by have := row_cell r7 0; simpa using this
                      have f7' := row_free r7 0
                      refine wpAnyH_ready (rs := [11]) (by kernel_rfl) (by simp) ?_
                      refine AllReadyH.cons rfl (fun K hK => ?_) AllReadyH.nil
                      go_simp
                      try dsimp only []
                      refine hK.out _ _ (by exact ⟨(cell2 (((Kept.refl (fun k => k = sb) w7).setCell (.inl rfl) _).block xb (row_lt x7) n2 |>.trans x7)).1, (cell2 (((Kept.refl (fun k => k = sb) w7).setCell (.inl rfl) _).block xb (row_lt x7) n2 |>.trans x7)).2.1⟩) (fun hHeld => ?_)
                      clear hK K
                      try simp only [Act.put, List.setIfInBounds_toArray, List.set_cons_zero, List.set_cons_succ]
                      refine wpAnyH_done (by kernel_rfl) ?_ _
                      have R7 := hid r7; have HO7 := hid ho7; have HK7 := hid hk7; have HF7 := hid hf7
                      clear hHeld c7' f7' r7 ho7 hk7 hf7 x7 e0 e1
                      go_wp2
                      go_ret
                      have ho := HO7.out
                      have hfo := HF7.out
                      have hl : C6.length + 1 = T.length := by rw [HT6.out, HC6.out]; simp; omega
                      have hd : T = C6.take (L0.length) ++ [(zp, q)] ++ C6.drop (L0.length) := by rw [HC6.out, List.take_left' rfl, List.drop_left' rfl]; exact HT6.out
                      have hsc : (scells C6).take ((L0.length) * 2) ++ [.int .u32 (zp), .int .u32 (q)] ++ (scells C6).drop ((L0.length) * 2) = scells T := by
                        rw [← scells_take, ← scells_drop, hd, scells_app, scells_app]; rfl
                      rw [hsc] at ho
                      rw [hl] at ho hfo ⊢
                      rw [← HTA.out]
                      refine ⟨by rw [HC.out]; rfl, SetAt.put (F := fun g => F g ∨ w.heap.size ≤ g) (S0 := C6) R7.out (.inl AI6.out.s.m) HGA.out ho (fun g hg => ?_), ?_⟩
                      · rcases hfo g hg with h1 | h1
                        · exact .inl (G3.out g h1)
                        · right; have := AI6.out.k.size; simp at h1; omega
                      · exact Kept.setCell (F := F) (Kept.trans' (F := F) ((AI6.out.k.alloc _).drew) HK7.out (fun i hi => Or.inl (G3.out i hi))) (Or.inl AI6.out.s.m) _
                  · have hzx1 : (zq == x1 - 1) = false := by simpa using hz
                    have ht : T = L ++ [(x1, q)] ++ R' := by rw [HT5.out]; simp [leftL, leftX, HL.out, hz]
                    have HT6 := hid ht; have HC6 := HC5
                    clear ht
                    refine wp_region_held_drew (S := fun w' => w'.cell? ⟨sb, 0, none⟩ = some (.slice (some ⟨g, 0, none⟩) C5.length cap5) ∧ w'.cell? ⟨xb, 0, none⟩ = some (.int .u32 x1) ∧ w'.cell? ⟨g, L0.length * 2 + 1, none⟩ = some (.int .u32 zq)) (by kernel_rfl) (by exact ⟨c0, d0, y1⟩) (fun hHeld => ?_)
                    refine wpAnyH_at 0 (some 100) (v := ?v1400) (by decide) rfl (by kernel_rfl) (by kernel_rfl) (by kernel_rfl) (fun _ _ _ h => h) (Or.inl ⟨by rfl, ?y1400⟩) (by assumption) ?r1400
                    case y1400 => (intro w hSw; (try dsimp only at hSw); go_simp; (try with_reducible rfl))
                    simp only [Act.put, List.setIfInBounds_toArray, List.set_cons_zero, List.set_cons_succ]
                    refine wpAnyH_at 1 (some 101) (v := ?v1401) (by decide) rfl (by kernel_rfl) (by kernel_rfl) (by kernel_rfl) (fun _ _ _ h => h) (Or.inl ⟨by rfl, ?y1401⟩) (by assumption) ?r1401
                    case y1401 => (intro w hSw; (try dsimp only at hSw); go_simp; (try with_reducible rfl))
                    simp only [Act.put, List.setIfInBounds_toArray, List.set_cons_zero, List.set_cons_succ]
                    refine wpAnyH_at 2 (some 102) (v := ?v1402) (by decide) rfl (by kernel_rfl) (by kernel_rfl) (by kernel_rfl) (fun _ _ _ h => h) (Or.inl ⟨by rfl, ?y1402⟩) (by assumption) ?r1402
                    case y1402 => (intro w hSw; (try dsimp only at hSw); go_simp; (try with_reducible rfl))
                    simp only [Act.put, List.setIfInBounds_toArray, List.set_cons_zero, List.set_cons_succ]
                    refine wpAnyH_at 3 (some 103) (v := ?v1403) (by decide) rfl (by kernel_rfl) (by kernel_rfl) (by kernel_rfl) (fun _ _ _ h => h) (Or.inl ⟨by rfl, ?y1403⟩) (by assumption) ?r1403
                    case y1403 => (intro w hSw; (try dsimp only at hSw); go_simp; (try with_reducible rfl))
                    simp only [Act.put, List.setIfInBounds_toArray, List.set_cons_zero, List.set_cons_succ]
                    refine wpAnyH_at 4 (some 104) (v := ?v1404) (by decide) rfl (by kernel_rfl) (by kernel_rfl) (by kernel_rfl) (fun _ _ _ h => h) (Or.inl ⟨by rfl, ?y1404⟩) (by assumption) ?r1404
                    case y1404 => (intro w hSw; (try dsimp only at hSw); go_simp; (try with_reducible rfl))
                    simp only [Act.put, List.setIfInBounds_toArray, List.set_cons_zero, List.set_cons_succ]
                    refine wpAnyH_at 5 (some 105) (v := ?v1405) (by decide) rfl (by kernel_rfl) (by kernel_rfl) (by kernel_rfl) (fun _ _ _ h => h) (Or.inl ⟨by rfl, ?y1405⟩) (by assumption) ?r1405
                    case y1405 => (intro w hSw; (try dsimp only at hSw); go_simp; (try with_reducible rfl))
                    simp only [Act.put, List.setIfInBounds_toArray, List.set_cons_zero, List.set_cons_succ]
                    refine wpAnyH_at 6 (some 106) (v := ?v1406) (by decide) rfl (by kernel_rfl) (by kernel_rfl) (by kernel_rfl) (fun _ _ _ h => h) (Or.inl ⟨by rfl, ?y1406⟩) (by assumption) ?r1406
                    case y1406 => (intro w hSw; (try dsimp only at hSw); go_simp; (try with_reducible rfl))
                    simp only [Act.put, List.setIfInBounds_toArray, List.set_cons_zero, List.set_cons_succ]
                    refine wpAnyH_at 7 (some 107) (v := ?v1407) (by decide) rfl (by kernel_rfl) (by kernel_rfl) (by kernel_rfl) (fun _ _ _ h => h) (Or.inl ⟨by rfl, ?y1407⟩) (by assumption) ?r1407
                    case y1407 => (intro w hSw; (try dsimp only at hSw); go_simp; (try with_reducible rfl))
                    simp only [Act.put, List.setIfInBounds_toArray, List.set_cons_zero, List.set_cons_succ]
                    refine wpAnyH_at 8 (some 108) (v := ?v1408) (by decide) rfl (by kernel_rfl) (by kernel_rfl) (by kernel_rfl) (fun _ _ _ h => h) (Or.inl ⟨by rfl, ?y1408⟩) (by assumption) ?r1408
                    case y1408 => (intro w hSw; (try dsimp only at hSw); go_simp; (try with_reducible rfl))
                    simp only [Act.put, List.setIfInBounds_toArray, List.set_cons_zero, List.set_cons_succ]
                    refine wpAnyH_at 9 (some 109) (v := ?v1409) (by decide) rfl (by kernel_rfl) (by kernel_rfl) (by kernel_rfl) (fun _ _ _ h => h) (Or.inl ⟨by rfl, ?y1409⟩) (by assumption) ?r1409
                    case y1409 => (intro w hSw; (try dsimp only at hSw); go_simp; (try with_reducible rfl))
                    simp only [Act.put, List.setIfInBounds_toArray, List.set_cons_zero, List.set_cons_succ]
                    refine wpAnyH_at 10 (some 110) (v := ?v1410) (by decide) rfl (by kernel_rfl) (by kernel_rfl) (by kernel_rfl) (fun _ _ _ h => h) (Or.inl ⟨by rfl, ?y1410⟩) (by assumption) ?r1410
                    case y1410 => (intro w hSw; (try dsimp only at hSw); go_simp; (try with_reducible rfl))
                    simp only [Act.put, List.setIfInBounds_toArray, List.set_cons_zero, List.set_cons_succ]
                    refine wpAnyH_at 11 (some 111) (v := ?v1411) (by decide) rfl (by kernel_rfl) (by kernel_rfl) (by kernel_rfl) (fun _ _ _ h => h) (Or.inl ⟨by rfl, ?y1411⟩) (by assumption) ?r1411
                    case y1411 => (intro w hSw; (try dsimp only at hSw); go_simp; (try with_reducible rfl))
                    simp only [Act.put, List.setIfInBounds_toArray, List.set_cons_zero, List.set_cons_succ]
                    refine wpAnyH_at 12 (some 112) (v := ?v1412) (by decide) rfl (by kernel_rfl) (by kernel_rfl) (by kernel_rfl) (fun _ _ _ h => h) (Or.inl ⟨by rfl, ?y1412⟩) (by assumption) ?r1412
                    case y1412 => (intro w hSw; (try dsimp only at hSw); go_simp; (try with_reducible rfl))
                    simp only [Act.put, List.setIfInBounds_toArray, List.set_cons_zero, List.set_cons_succ]
                    refine wpAnyH_at 13 (some 113) (v := ?v1413) (by decide) rfl (by kernel_rfl) (by kernel_rfl) (by kernel_rfl) (fun _ _ _ h => h) (Or.inl ⟨by rfl, ?y1413⟩) (by assumption) ?r1413
                    case y1413 => (intro w hSw; (try dsimp only at hSw); go_simp; (try with_reducible rfl))
                    simp only [Act.put, List.setIfInBounds_toArray, List.set_cons_zero, List.set_cons_succ]
                    refine wpAnyH_at 14 (some 114) (v := ?v1414) (by decide) rfl (by kernel_rfl) (by kernel_rfl) (by kernel_rfl) (fun _ _ _ h => h) (Or.inl ⟨by rfl, ?y1414⟩) (by assumption) ?r1414
                    case y1414 => (intro w hSw; (try dsimp only at hSw); go_simp; (try with_reducible rfl))
                    simp only [Act.put, List.setIfInBounds_toArray, List.set_cons_zero, List.set_cons_succ]
                    refine wpAnyH_at 15 (some 115) (v := ?v1415) (by decide) rfl (by kernel_rfl) (by kernel_rfl) (by kernel_rfl) (fun _ _ _ h => h) (Or.inl ⟨by rfl, ?y1415⟩) (by assumption) ?r1415
                    case y1415 => (intro w hSw; (try dsimp only at hSw); go_simp; (try with_reducible rfl))
                    simp only [Act.put, List.setIfInBounds_toArray, List.set_cons_zero, List.set_cons_succ]
                    refine wpAnyH_at 16 (some 116) (v := ?v1416) (by decide) rfl (by kernel_rfl) (by kernel_rfl) (by kernel_rfl) (fun _ _ _ h => h) (Or.inl ⟨by rfl, ?y1416⟩) (by assumption) ?r1416
                    case y1416 => (intro w hSw; (try dsimp only at hSw); go_simp; (try with_reducible rfl))
                    simp only [Act.put, List.setIfInBounds_toArray, List.set_cons_zero, List.set_cons_succ]
                    refine wpAnyH_at 17 (some 117) (v := ?v1417) (by decide) rfl (by kernel_rfl) (by kernel_rfl) (by kernel_rfl) (fun _ _ _ h => h) (Or.inl ⟨by rfl, ?y1417⟩) (by assumption) ?r1417
                    case y1417 => (intro w hSw; (try dsimp only at hSw); go_simp; (try with_reducible rfl))
                    simp only [Act.put, List.setIfInBounds_toArray, List.set_cons_zero, List.set_cons_succ]
                    refine wpAnyH_at 18 (some 118) (v := ?v1418) (by decide) rfl (by kernel_rfl) (by kernel_rfl) (by kernel_rfl) (fun _ _ _ h => h) (Or.inl ⟨by rfl, ?y1418⟩) (by assumption) ?r1418
                    case y1418 => (intro w hSw; (try dsimp only at hSw); go_simp; (try with_reducible rfl))
                    simp only [Act.put, List.setIfInBounds_toArray, List.set_cons_zero, List.set_cons_succ]
                    refine wpAnyH_at 19 (some 119) (v := ?v1419) (by decide) rfl (by kernel_rfl) (by kernel_rfl) (by kernel_rfl) (fun _ _ _ h => h) (Or.inl ⟨by rfl, ?y1419⟩) (by assumption) ?r1419
                    case y1419 => (intro w hSw; (try dsimp only at hSw); go_simp; (try with_reducible rfl))
                    simp only [Act.put, List.setIfInBounds_toArray, List.set_cons_zero, List.set_cons_succ]
                    refine wpAnyH_at 20 (some 120) (v := ?v1420) (by decide) rfl (by kernel_rfl) (by kernel_rfl) (by kernel_rfl) (fun _ _ _ h => h) (Or.inl ⟨by rfl, ?y1420⟩) (by assumption) ?r1420
                    case y1420 => (intro w hSw; (try dsimp only at hSw); go_simp; (try with_reducible rfl))
                    simp only [Act.put, List.setIfInBounds_toArray, List.set_cons_zero, List.set_cons_succ]
                    refine wpAnyH_at 21 (some 121) (v := ?v1421) (by decide) rfl (by kernel_rfl) (by kernel_rfl) (by kernel_rfl) (fun _ _ _ h => h) (Or.inl ⟨by rfl, ?y1421⟩) (by assumption) ?r1421
                    case y1421 => (intro w hSw; (try dsimp only at hSw); go_simp; (try with_reducible rfl))
                    simp only [Act.put, List.setIfInBounds_toArray, List.set_cons_zero, List.set_cons_succ]
                    refine wpAnyH_done (by kernel_rfl) ?_ _
                    clear hHeld
                    have AI6 := hid HA5.out.drew
                    go_wp2_with fail
                    clear c0 cf d0 d1 df n1 n2 y0 y1 G1 G2 G3
                    generalize W5.drew = W6 at AI6 ⊢
                    obtain ⟨ao6, cap6, g1, g2, g3, c0, cf, d0, d1, df, n1, n2, hCn⟩ := AI6.out.facts HF.out
                    have G3 := hid g3
                    have OW := hid (show Own ((W6.alloc (.cells #[.int .u32 (x1), .int .u32 (q)] 46)).drew) 46 2 _ _ _ from (g2.alloc _).drew)
                    have RW := hid (row_old (w := W6) g1 (.cells #[.int .u32 (x1), .int .u32 (q)] 46))
                    have XW := hid (row_old (w := W6) AI6.out.x (.cells #[.int .u32 (x1), .int .u32 (q)] 46))
                    have HIL := hid (show L.length ≤ C5.length by rw [HC6.out]; simp)
                    have k0 : (W6.alloc (.cells #[.int .u32 (x1), .int .u32 (q)] 46)).cell? ⟨sb, 0, none⟩ = some (.slice ao6 C5.length cap6) := by have := row_cell RW.out 0; simpa using this
                    obtain ⟨k1, k2, _⟩ := cell2 XW.out
                    clear g1 g2 g3
                    refine wp_region_held_drew (S := fun w' => w'.cell? ⟨xb, 0, none⟩ = some (.int .u32 (x1)) ∧ w'.cell? ⟨xb, 1, none⟩ = some (.int .u32 (q))) (by kernel_rfl) (by exact ⟨d0, d1⟩) (fun hHeld => ?_)
                    refine wpAnyH_at 0 (some 145) (v := ?v1500) (by decide) rfl (by kernel_rfl) (by kernel_rfl) (by kernel_rfl) (fun _ _ _ h => h) (Or.inl ⟨by rfl, ?y1500⟩) (by assumption) ?r1500
                    case y1500 => (intro w hSw; (try dsimp only at hSw); go_simp; (try with_reducible rfl))
                    simp only [Act.put, List.setIfInBounds_toArray, List.set_cons_zero, List.set_cons_succ]
                    refine wpAnyH_at 1 (some 146) (v := ?v1501) (by decide) rfl (by kernel_rfl) (by kernel_rfl) (by kernel_rfl) (fun _ _ _ h => h) (Or.inl ⟨by rfl, ?y1501⟩) (by assumption) ?r1501
                    case y1501 => (intro w hSw; (try dsimp only at hSw); go_simp; (try with_reducible rfl))
                    simp only [Act.put, List.setIfInBounds_toArray, List.set_cons_zero, List.set_cons_succ]
                    refine wpAnyH_at 2 (some 147) (v := ?v1502) (by decide) rfl (by kernel_rfl) (by kernel_rfl) (by kernel_rfl) (fun _ _ _ h => h) (Or.inl ⟨by rfl, ?y1502⟩) (by assumption) ?r1502
                    case y1502 => (intro w hSw; (try dsimp only at hSw); go_simp; (try with_reducible rfl))
                    simp only [Act.put, List.setIfInBounds_toArray, List.set_cons_zero, List.set_cons_succ]
                    refine wpAnyH_at 3 (some 148) (v := ?v1503) (by decide) rfl (by kernel_rfl) (by kernel_rfl) (by kernel_rfl) (fun _ _ _ h => h) (Or.inl ⟨by rfl, ?y1503⟩) (by assumption) ?r1503
                    case y1503 => (intro w hSw; (try dsimp only at hSw); go_simp; (try with_reducible rfl))
                    simp only [Act.put, List.setIfInBounds_toArray, List.set_cons_zero, List.set_cons_succ]
                    refine wpAnyH_at 5 (some 150) (v := ?v1505) (by decide) rfl (by kernel_rfl) (by kernel_rfl) (by kernel_rfl) (fun _ _ _ h => h) (Or.inl ⟨by rfl, ?y1505⟩) (by assumption) ?r1505
                    case y1505 => (intro w hSw; (try dsimp only at hSw); go_simp; (try with_reducible rfl))
                    simp only [Act.put, List.setIfInBounds_toArray, List.set_cons_zero, List.set_cons_succ]
                    refine wpAnyH_at 6 (some 151) (v := ?v1506) (by decide) rfl (by kernel_rfl) (by kernel_rfl) (by kernel_rfl) (fun _ _ _ h => h) (Or.inl ⟨by rfl, ?y1506⟩) (by assumption) ?r1506
                    case y1506 => (intro w hSw; (try dsimp only at hSw); go_simp; (try with_reducible rfl))
                    simp only [Act.put, List.setIfInBounds_toArray, List.set_cons_zero, List.set_cons_succ]
                    refine wpAnyH_ready (rs := [4, 7]) (by kernel_rfl) (by simp) ?_
                    refine AllReadyH.cons rfl (fun K hK => ?_) (AllReadyH.cons rfl (fun K hK => ?_) AllReadyH.nil)
                    · go_simp
                      try dsimp only []
                      refine hK.out _ _ (by exact ⟨d0, d1⟩) (fun hHeld => ?_)
                      clear hK K
                      try simp only [Act.put, List.setIfInBounds_toArray, List.set_cons_zero, List.set_cons_succ]
                      refine wpAnyH_ready (rs := [7]) (by kernel_rfl) (by simp) ?_
                      refine AllReadyH.cons rfl (fun K hK => ?_) AllReadyH.nil
                      go_simp
                      try dsimp only []
                      refine hK.out _ _ (by exact ⟨k1, k2⟩) (fun hHeld => ?_)
                      clear hK K
                      try simp only [Act.put, List.setIfInBounds_toArray, List.set_cons_zero, List.set_cons_succ]
                      refine wpAnyH_ready (rs := [8]) (by kernel_rfl) (by simp) ?_
                      refine AllReadyH.cons rfl (fun K hK => ?_) AllReadyH.nil
                      go_simp
                      refine (ins_any (by exact OW.out) (scells_one _) (L.length) (by exact HIL.out) (own_two (w := W6) _ _).drew (by simp [Value.oneCell']) (fun g hg e => by have h1 := HF.out _ (G3.out _ e); have h2 := AI6.out.k.size; simp [Value.ownBlock] at hg; omega) (by omega)).mono ?_
                      rintro e w7 ⟨a7, c7, rfl, ho7, hk7, hf7⟩
                      have r7 := (hk7.block sb (row_lt RW.out) (OW.out.ne_block RW.out (by decide))).trans RW.out
                      have x7 := (hk7.block xb (row_lt XW.out) (fun e => by have h1 := HF.out _ (G3.out _ e); have h2 := AI6.out.n; omega)).trans XW.out
                      obtain ⟨e0, e1, _⟩ := cell2 x7
                      try dsimp only []
                      refine hK.out _ _ (by exact ⟨e0, e1⟩) (fun hHeld => ?_)
                      clear hK K
                      try simp only [Act.put, List.setIfInBounds_toArray, List.set_cons_zero, List.set_cons_succ]
                      refine wpAnyH_at 9 (some 154) (v := ?v15109) (by decide) rfl (by kernel_rfl) (by kernel_rfl) (by kernel_rfl) (fun _ _ _ h => h) (Or.inl ⟨by rfl, ?y15109⟩) (by assumption) ?r15109
                      case y15109 => (intro w hSw; (try dsimp only at hSw); go_simp; (try with_reducible rfl))
                      simp only [Act.put, List.setIfInBounds_toArray, List.set_cons_zero, List.set_cons_succ]
                      refine wpAnyH_at 10 (some 155) (v := ?v15110) (by decide) rfl (by kernel_rfl) (by kernel_rfl) (by kernel_rfl) (fun _ _ _ h => h) (Or.inl ⟨by rfl, ?y15110⟩) (by assumption) ?r15110
                      case y15110 => (intro w hSw; (try dsimp only at hSw); go_simp; (try with_reducible rfl))
                      simp only [Act.put, List.setIfInBounds_toArray, List.set_cons_zero, List.set_cons_succ]
                      have c7' : w7.cell? ⟨sb, 0, none⟩ = some (.slice ao6 C5.length cap6) := by have := row_cell r7 0; simpa using this
                      have f7' := row_free r7 0
                      refine wpAnyH_ready (rs := [11]) (by kernel_rfl) (by simp) ?_
                      refine AllReadyH.cons rfl (fun K hK => ?_) AllReadyH.nil
                      go_simp
                      try dsimp only []
                      refine hK.out _ _ (by exact ⟨(cell2 (((Kept.refl (fun k => k = sb) w7).setCell (.inl rfl) _).block xb (row_lt x7) n2 |>.trans x7)).1, (cell2 (((Kept.refl (fun k => k = sb) w7).setCell (.inl rfl) _).block xb (row_lt x7) n2 |>.trans x7)).2.1⟩) (fun hHeld => ?_)
                      clear hK K
                      try simp only [Act.put, List.setIfInBounds_toArray, List.set_cons_zero, List.set_cons_succ]
                      refine wpAnyH_done (by kernel_rfl) ?_ _
                      have R7 := hid r7; have HO7 := hid ho7; have HK7 := hid hk7; have HF7 := hid hf7
                      clear hHeld c7' f7' r7 ho7 hk7 hf7 x7 e0 e1
                      go_wp2
                      go_ret
                      have ho := HO7.out
                      have hfo := HF7.out
                      have hl : C5.length + 1 = T.length := by rw [HT6.out, HC6.out]; simp; omega
                      have hd : T = C5.take (L.length) ++ [(x1, q)] ++ C5.drop (L.length) := by rw [HC6.out, List.take_left' rfl, List.drop_left' rfl]; exact HT6.out
                      have hsc : (scells C5).take ((L.length) * 2) ++ [.int .u32 (x1), .int .u32 (q)] ++ (scells C5).drop ((L.length) * 2) = scells T := by
                        rw [← scells_take, ← scells_drop, hd, scells_app, scells_app]; rfl
                      rw [hsc] at ho
                      rw [hl] at ho hfo ⊢
                      rw [← HTA.out]
                      refine ⟨by rw [HC.out]; rfl, SetAt.put (F := fun g => F g ∨ w.heap.size ≤ g) (S0 := C5) R7.out (.inl AI6.out.s.m) HGA.out ho (fun g hg => ?_), ?_⟩
                      · rcases hfo g hg with h1 | h1
                        · exact .inl (G3.out g h1)
                        · right; have := AI6.out.k.size; simp at h1; omega
                      · exact Kept.setCell (F := F) (Kept.trans' (F := F) ((AI6.out.k.alloc _).drew) HK7.out (fun i hi => Or.inl (G3.out i hi))) (Or.inl AI6.out.s.m) _
                    · go_simp
                      try dsimp only []
                      refine hK.out _ _ (by exact ⟨k1, k2⟩) (fun hHeld => ?_)
                      clear hK K
                      try simp only [Act.put, List.setIfInBounds_toArray, List.set_cons_zero, List.set_cons_succ]
                      refine wpAnyH_ready (rs := [4]) (by kernel_rfl) (by simp) ?_
                      refine AllReadyH.cons rfl (fun K hK => ?_) AllReadyH.nil
                      go_simp
                      try dsimp only []
                      refine hK.out _ _ (by exact ⟨k1, k2⟩) (fun hHeld => ?_)
                      clear hK K
                      try simp only [Act.put, List.setIfInBounds_toArray, List.set_cons_zero, List.set_cons_succ]
                      refine wpAnyH_ready (rs := [8]) (by kernel_rfl) (by simp) ?_
                      refine AllReadyH.cons rfl (fun K hK => ?_) AllReadyH.nil
                      go_simp
                      refine (ins_any (by exact OW.out) (scells_one _) (L.length) (by exact HIL.out) (own_two (w := W6) _ _).drew (by simp [Value.oneCell']) (fun g hg e => by have h1 := HF.out _ (G3.out _ e); have h2 := AI6.out.k.size; simp [Value.ownBlock] at hg; omega) (by omega)).mono ?_
                      rintro e w7 ⟨a7, c7, rfl, ho7, hk7, hf7⟩
                      have r7 := (hk7.block sb (row_lt RW.out) (OW.out.ne_block RW.out (by decide))).trans RW.out
                      have x7 := (hk7.block xb (row_lt XW.out) (fun e => by have h1 := HF.out _ (G3.out _ e); have h2 := AI6.out.n; omega)).trans XW.out
                      obtain ⟨e0, e1, _⟩ := cell2 x7
                      try dsimp only []
                      refine hK.out _ _ (by exact ⟨e0, e1⟩) (fun hHeld => ?_)
                      clear hK K
                      try simp only [Act.put, List.setIfInBounds_toArray, List.set_cons_zero, List.set_cons_succ]
                      refine wpAnyH_at 9 (some 154) (v := ?v15209) (by decide) rfl (by kernel_rfl) (by kernel_rfl) (by kernel_rfl) (fun _ _ _ h => h) (Or.inl ⟨by rfl, ?y15209⟩) (by assumption) ?r15209
                      case y15209 => (intro w hSw; (try dsimp only at hSw); go_simp; (try with_reducible rfl))
                      simp only [Act.put, List.setIfInBounds_toArray, List.set_cons_zero, List.set_cons_succ]
                      refine wpAnyH_at 10 (some 155) (v := ?v15210) (by decide) rfl (by kernel_rfl) (by kernel_rfl) (by kernel_rfl) (fun _ _ _ h => h) (Or.inl ⟨by rfl, ?y15210⟩) (by assumption) ?r15210
                      case y15210 => (intro w hSw; (try dsimp only at hSw); go_simp; (try with_reducible rfl))
                      simp only [Act.put, List.setIfInBounds_toArray, List.set_cons_zero, List.set_cons_succ]
                      have c7' : w7.cell? ⟨sb, 0, none⟩ = some (.slice ao6 C5.length cap6) := by have := row_cell r7 0; simpa using this
                      have f7' := row_free r7 0
                      refine wpAnyH_ready (rs := [11]) (by kernel_rfl) (by simp) ?_
                      refine AllReadyH.cons rfl (fun K hK => ?_) AllReadyH.nil
                      go_simp
                      try dsimp only []
                      refine hK.out _ _ (by exact ⟨(cell2 (((Kept.refl (fun k => k = sb) w7).setCell (.inl rfl) _).block xb (row_lt x7) n2 |>.trans x7)).1, (cell2 (((Kept.refl (fun k => k = sb) w7).setCell (.inl rfl) _).block xb (row_lt x7) n2 |>.trans x7)).2.1⟩) (fun hHeld => ?_)
                      clear hK K
                      try simp only [Act.put, List.setIfInBounds_toArray, List.set_cons_zero, List.set_cons_succ]
                      refine wpAnyH_done (by kernel_rfl) ?_ _
                      have R7 := hid r7; have HO7 := hid ho7; have HK7 := hid hk7; have HF7 := hid hf7
                      clear hHeld c7' f7' r7 ho7 hk7 hf7 x7 e0 e1
                      go_wp2
                      go_ret
                      have ho := HO7.out
                      have hfo := HF7.out
                      have hl : C5.length + 1 = T.length := by rw [HT6.out, HC6.out]; simp; omega
                      have hd : T = C5.take (L.length) ++ [(x1, q)] ++ C5.drop (L.length) := by rw [HC6.out, List.take_left' rfl, List.drop_left' rfl]; exact HT6.out
                      have hsc : (scells C5).take ((L.length) * 2) ++ [.int .u32 (x1), .int .u32 (q)] ++ (scells C5).drop ((L.length) * 2) = scells T := by
                        rw [← scells_take, ← scells_drop, hd, scells_app, scells_app]; rfl
                      rw [hsc] at ho
                      rw [hl] at ho hfo ⊢
                      rw [← HTA.out]
                      refine ⟨by rw [HC.out]; rfl, SetAt.put (F := fun g => F g ∨ w.heap.size ≤ g) (S0 := C5) R7.out (.inl AI6.out.s.m) HGA.out ho (fun g hg => ?_), ?_⟩
                      · rcases hfo g hg with h1 | h1
                        · exact .inl (G3.out g h1)
                        · right; have := AI6.out.k.size; simp at h1; omega
                      · exact Kept.setCell (F := F) (Kept.trans' (F := F) ((AI6.out.k.alloc _).drew) HK7.out (fun i hi => Or.inl (G3.out i hi))) (Or.inl AI6.out.s.m) _
              · have hpx : (p == x2 + 1) = false := by simpa using hp
                refine wp_region_held_drew (S := fun w' => w'.cell? ⟨sb, 0, none⟩ = some (.slice (some ⟨g, 0, none⟩) C.length cap) ∧ w'.cell? ⟨xb, 1, none⟩ = some (.int .u32 x2) ∧ w'.cell? ⟨g, L.length * 2, none⟩ = some (.int .u32 p)) (by kernel_rfl) (by exact ⟨c0, d1, y0⟩) (fun hHeld => ?_)
                refine wpAnyH_at 0 (some 54) (v := ?v200) (by decide) rfl (by kernel_rfl) (by kernel_rfl) (by kernel_rfl) (fun _ _ _ h => h) (Or.inl ⟨by rfl, ?y200⟩) (by assumption) ?r200
                case y200 => (intro w hSw; (try dsimp only at hSw); go_simp; (try with_reducible rfl))
                simp only [Act.put, List.setIfInBounds_toArray, List.set_cons_zero, List.set_cons_succ]
                refine wpAnyH_at 1 (some 55) (v := ?v21) (by decide) rfl (by kernel_rfl) (by kernel_rfl) (by kernel_rfl) (fun _ _ _ h => h) (Or.inl ⟨by rfl, ?y21⟩) (by assumption) ?r21
                case y21 => (intro w hSw; (try dsimp only at hSw); go_simp; (try with_reducible rfl))
                simp only [Act.put, List.setIfInBounds_toArray, List.set_cons_zero, List.set_cons_succ]
                refine wpAnyH_at 2 (some 56) (v := ?v22) (by decide) rfl (by kernel_rfl) (by kernel_rfl) (by kernel_rfl) (fun _ _ _ h => h) (Or.inl ⟨by rfl, ?y22⟩) (by assumption) ?r22
                case y22 => (intro w hSw; (try dsimp only at hSw); go_simp; (try with_reducible rfl))
                simp only [Act.put, List.setIfInBounds_toArray, List.set_cons_zero, List.set_cons_succ]
                refine wpAnyH_at 3 (some 57) (v := ?v23) (by decide) rfl (by kernel_rfl) (by kernel_rfl) (by kernel_rfl) (fun _ _ _ h => h) (Or.inl ⟨by rfl, ?y23⟩) (by assumption) ?r23
                case y23 => (intro w hSw; (try dsimp only at hSw); go_simp; (try with_reducible rfl))
                simp only [Act.put, List.setIfInBounds_toArray, List.set_cons_zero, List.set_cons_succ]
                refine wpAnyH_at 4 (some 58) (v := ?v24) (by decide) rfl (by kernel_rfl) (by kernel_rfl) (by kernel_rfl) (fun _ _ _ h => h) (Or.inl ⟨by rfl, ?y24⟩) (by assumption) ?r24
                case y24 => (intro w hSw; (try dsimp only at hSw); go_simp; (try with_reducible rfl))
                simp only [Act.put, List.setIfInBounds_toArray, List.set_cons_zero, List.set_cons_succ]
                refine wpAnyH_at 5 (some 59) (v := ?v25) (by decide) rfl (by kernel_rfl) (by kernel_rfl) (by kernel_rfl) (fun _ _ _ h => h) (Or.inl ⟨by rfl, ?y25⟩) (by assumption) ?r25
                case y25 => (intro w hSw; (try dsimp only at hSw); go_simp; (try with_reducible rfl))
                simp only [Act.put, List.setIfInBounds_toArray, List.set_cons_zero, List.set_cons_succ]
                refine wpAnyH_at 6 (some 60) (v := ?v26) (by decide) rfl (by kernel_rfl) (by kernel_rfl) (by kernel_rfl) (fun _ _ _ h => h) (Or.inl ⟨by rfl, ?y26⟩) (by assumption) ?r26
                case y26 => (intro w hSw; (try dsimp only at hSw); go_simp; (try with_reducible rfl))
                simp only [Act.put, List.setIfInBounds_toArray, List.set_cons_zero, List.set_cons_succ]
                refine wpAnyH_at 7 (some 61) (v := ?v27) (by decide) rfl (by kernel_rfl) (by kernel_rfl) (by kernel_rfl) (fun _ _ _ h => h) (Or.inl ⟨by rfl, ?y27⟩) (by assumption) ?r27
                case y27 => (intro w hSw; (try dsimp only at hSw); go_simp; (try with_reducible rfl))
                simp only [Act.put, List.setIfInBounds_toArray, List.set_cons_zero, List.set_cons_succ]
                refine wpAnyH_at 8 (some 62) (v := ?v28) (by decide) rfl (by kernel_rfl) (by kernel_rfl) (by kernel_rfl) (fun _ _ _ h => h) (Or.inl ⟨by rfl, ?y28⟩) (by assumption) ?r28
                case y28 => (intro w hSw; (try dsimp only at hSw); go_simp; (try with_reducible rfl))
                simp only [Act.put, List.setIfInBounds_toArray, List.set_cons_zero, List.set_cons_succ]
                refine wpAnyH_at 9 (some 63) (v := ?v29) (by decide) rfl (by kernel_rfl) (by kernel_rfl) (by kernel_rfl) (fun _ _ _ h => h) (Or.inl ⟨by rfl, ?y29⟩) (by assumption) ?r29
                case y29 => (intro w hSw; (try dsimp only at hSw); go_simp; (try with_reducible rfl))
                simp only [Act.put, List.setIfInBounds_toArray, List.set_cons_zero, List.set_cons_succ]
                refine wpAnyH_at 10 (some 64) (v := ?v210) (by decide) rfl (by kernel_rfl) (by kernel_rfl) (by kernel_rfl) (fun _ _ _ h => h) (Or.inl ⟨by rfl, ?y210⟩) (by assumption) ?r210
                case y210 => (intro w hSw; (try dsimp only at hSw); go_simp; (try with_reducible rfl))
                simp only [Act.put, List.setIfInBounds_toArray, List.set_cons_zero, List.set_cons_succ]
                refine wpAnyH_at 11 (some 65) (v := ?v211) (by decide) rfl (by kernel_rfl) (by kernel_rfl) (by kernel_rfl) (fun _ _ _ h => h) (Or.inl ⟨by rfl, ?y211⟩) (by assumption) ?r211
                case y211 => (intro w hSw; (try dsimp only at hSw); go_simp; (try with_reducible rfl))
                simp only [Act.put, List.setIfInBounds_toArray, List.set_cons_zero, List.set_cons_succ]
                refine wpAnyH_at 12 (some 66) (v := ?v212) (by decide) rfl (by kernel_rfl) (by kernel_rfl) (by kernel_rfl) (fun _ _ _ h => h) (Or.inl ⟨by rfl, ?y212⟩) (by assumption) ?r212
                case y212 => (intro w hSw; (try dsimp only at hSw); go_simp; (try with_reducible rfl))
                simp only [Act.put, List.setIfInBounds_toArray, List.set_cons_zero, List.set_cons_succ]
                refine wpAnyH_at 13 (some 67) (v := ?v213) (by decide) rfl (by kernel_rfl) (by kernel_rfl) (by kernel_rfl) (fun _ _ _ h => h) (Or.inl ⟨by rfl, ?y213⟩) (by assumption) ?r213
                case y213 => (intro w hSw; (try dsimp only at hSw); go_simp; (try with_reducible rfl))
                simp only [Act.put, List.setIfInBounds_toArray, List.set_cons_zero, List.set_cons_succ]
                refine wpAnyH_at 14 (some 68) (v := ?v214) (by decide) rfl (by kernel_rfl) (by kernel_rfl) (by kernel_rfl) (fun _ _ _ h => h) (Or.inl ⟨by rfl, ?y214⟩) (by assumption) ?r214
                case y214 => (intro w hSw; (try dsimp only at hSw); go_simp; (try with_reducible rfl))
                simp only [Act.put, List.setIfInBounds_toArray, List.set_cons_zero, List.set_cons_succ]
                refine wpAnyH_at 15 (some 69) (v := ?v215) (by decide) rfl (by kernel_rfl) (by kernel_rfl) (by kernel_rfl) (fun _ _ _ h => h) (Or.inl ⟨by rfl, ?y215⟩) (by assumption) ?r215
                case y215 => (intro w hSw; (try dsimp only at hSw); go_simp; (try with_reducible rfl))
                simp only [Act.put, List.setIfInBounds_toArray, List.set_cons_zero, List.set_cons_succ]
                refine wpAnyH_at 16 (some 70) (v := ?v216) (by decide) rfl (by kernel_rfl) (by kernel_rfl) (by kernel_rfl) (fun _ _ _ h => h) (Or.inl ⟨by rfl, ?y216⟩) (by assumption) ?r216
                case y216 => (intro w hSw; (try dsimp only at hSw); go_simp; (try with_reducible rfl))
                simp only [Act.put, List.setIfInBounds_toArray, List.set_cons_zero, List.set_cons_succ]
                refine wpAnyH_at 17 (some 71) (v := ?v217) (by decide) rfl (by kernel_rfl) (by kernel_rfl) (by kernel_rfl) (fun _ _ _ h => h) (Or.inl ⟨by rfl, ?y217⟩) (by assumption) ?r217
                case y217 => (intro w hSw; (try dsimp only at hSw); go_simp; (try with_reducible rfl))
                simp only [Act.put, List.setIfInBounds_toArray, List.set_cons_zero, List.set_cons_succ]
                refine wpAnyH_at 18 (some 72) (v := ?v218) (by decide) rfl (by kernel_rfl) (by kernel_rfl) (by kernel_rfl) (fun _ _ _ h => h) (Or.inl ⟨by rfl, ?y218⟩) (by assumption) ?r218
                case y218 => (intro w hSw; (try dsimp only at hSw); go_simp; (try with_reducible rfl))
                simp only [Act.put, List.setIfInBounds_toArray, List.set_cons_zero, List.set_cons_succ]
                refine wpAnyH_at 19 (some 73) (v := ?v219) (by decide) rfl (by kernel_rfl) (by kernel_rfl) (by kernel_rfl) (fun _ _ _ h => h) (Or.inl ⟨by rfl, ?y219⟩) (by assumption) ?r219
                case y219 => (intro w hSw; (try dsimp only at hSw); go_simp; (try with_reducible rfl))
                simp only [Act.put, List.setIfInBounds_toArray, List.set_cons_zero, List.set_cons_succ]
                refine wpAnyH_at 20 (some 74) (v := ?v220) (by decide) rfl (by kernel_rfl) (by kernel_rfl) (by kernel_rfl) (fun _ _ _ h => h) (Or.inl ⟨by rfl, ?y220⟩) (by assumption) ?r220
                case y220 => (intro w hSw; (try dsimp only at hSw); go_simp; (try with_reducible rfl))
                simp only [Act.put, List.setIfInBounds_toArray, List.set_cons_zero, List.set_cons_succ]
                refine wpAnyH_at 21 (some 75) (v := ?v221) (by decide) rfl (by kernel_rfl) (by kernel_rfl) (by kernel_rfl) (fun _ _ _ h => h) (Or.inl ⟨by rfl, ?y221⟩) (by assumption) ?r221
                case y221 => (intro w hSw; (try dsimp only at hSw); go_simp; (try with_reducible rfl))
                simp only [Act.put, List.setIfInBounds_toArray, List.set_cons_zero, List.set_cons_succ]
                refine wpAnyH_at 22 (some 76) (v := ?v222) (by decide) rfl (by kernel_rfl) (by kernel_rfl) (by kernel_rfl) (fun _ _ _ h => h) (Or.inl ⟨by rfl, ?y222⟩) (by assumption) ?r222
                case y222 => (intro w hSw; (try dsimp only at hSw); go_simp; (try with_reducible rfl))
                simp only [Act.put, List.setIfInBounds_toArray, List.set_cons_zero, List.set_cons_succ]
                refine wpAnyH_at 23 (some 77) (v := ?v223) (by decide) rfl (by kernel_rfl) (by kernel_rfl) (by kernel_rfl) (fun _ _ _ h => h) (Or.inl ⟨by rfl, ?y223⟩) (by assumption) ?r223
                case y223 => (intro w hSw; (try dsimp only at hSw); go_simp; (try with_reducible rfl))
                simp only [Act.put, List.setIfInBounds_toArray, List.set_cons_zero, List.set_cons_succ]
                refine wpAnyH_at 24 (some 78) (v := ?v224) (by decide) rfl (by kernel_rfl) (by kernel_rfl) (by kernel_rfl) (fun _ _ _ h => h) (Or.inl ⟨by rfl, ?y224⟩) (by assumption) ?r224
                case y224 => (intro w hSw; (try dsimp only at hSw); go_simp; (try with_reducible rfl))
                simp only [Act.put, List.setIfInBounds_toArray, List.set_cons_zero, List.set_cons_succ]
                refine wpAnyH_at 25 (some 79) (v := ?v225) (by decide) rfl (by kernel_rfl) (by kernel_rfl) (by kernel_rfl) (fun _ _ _ h => h) (Or.inl ⟨by rfl, ?y225⟩) (by assumption) ?r225
                case y225 => (intro w hSw; (try dsimp only at hSw); go_simp; (try with_reducible rfl))
                simp only [Act.put, List.setIfInBounds_toArray, List.set_cons_zero, List.set_cons_succ]
                refine wpAnyH_done (by kernel_rfl) ?_ _
                go_wp2_with fail
                obtain ⟨R, hR⟩ : ∃ R, R = (p, q) :: R' := ⟨_, rfl⟩
                have AI5 := AI.out.drew
                rw [HCC.out, ← hR] at AI5
                have ht5 : T = leftL L x1 ++ [(leftX L x1, x2)] ++ R := by rw [HT.out, hR]; simp only [rightL, rightX, if_neg (show ¬ (x2 ≠ 4294967295 ∧ (p, q).1 = x2 + 1) from fun h => hp h.2)]
                have hm5 : Mid L x1 x2 R := by rw [hR]; exact HM.out
                have HT5 := hid ht5; have HM5 := hid hm5
                clear AI c0 cf d0 d1 df n1 n2 G1 G2 G3 HCy HCC HCl hCn hq hqi hp hpx hxm hxm2 hw hyb hyx hx2 y0 y1 HT HM ht5 hm5 hR
                generalize wr.drew = W5 at AI5 hHeld ⊢
                clear hHeld
                obtain ⟨C5, hC5⟩ : ∃ C5, C5 = L ++ R := ⟨_, rfl⟩
                rw [← hC5] at AI5
                obtain ⟨ao5, cap5, g1, g2, g3, c0, cf, d0, d1, df, n1, n2, hCn5⟩ := AI5.facts HF.out
                have hCl5 : C5.length = L.length + (R).length := by rw [hC5]; simp
                have HCl5 := hid hCl5
                have HA5 := hid AI5
                clear AI5
                rcases List.eq_nil_or_concat L with hL | ⟨L0, z, hL⟩
                · have hi0 : ¬ (0 : Int) < (L.length : Int) := by rw [hL]; simp
                  have hi1 : ¬ 0 < L.length := by rw [hL]; simp
                  have ht : T = L ++ [(x1, x2)] ++ R := by rw [HT5.out, hL]; rfl
                  have HT6 := hid ht; have HC6 := hid hC5
                  clear ht hL hC5 hCl5 g1 g2 g3
                  refine wp_region_held_drew (S := fun _ => True) (by kernel_rfl) (by exact trivial) (fun hHeld => ?_)
                  refine wpAnyH_at 0 (some 100) (v := ?v2100) (by decide) rfl (by kernel_rfl) (by kernel_rfl) (by kernel_rfl) (fun _ _ _ h => h) (Or.inl ⟨by rfl, ?y2100⟩) (by assumption) ?r2100
                  case y2100 => (intro w hSw; (try dsimp only at hSw); go_simp; (try with_reducible rfl))
                  simp only [Act.put, List.setIfInBounds_toArray, List.set_cons_zero, List.set_cons_succ]
                  refine wpAnyH_at 1 (some 101) (v := ?v2101) (by decide) rfl (by kernel_rfl) (by kernel_rfl) (by kernel_rfl) (fun _ _ _ h => h) (Or.inl ⟨by rfl, ?y2101⟩) (by assumption) ?r2101
                  case y2101 => (intro w hSw; (try dsimp only at hSw); go_simp; (try with_reducible rfl))
                  simp only [Act.put, List.setIfInBounds_toArray, List.set_cons_zero, List.set_cons_succ]
                  refine wpAnyH_at 2 (some 102) (v := ?v2102) (by decide) rfl (by kernel_rfl) (by kernel_rfl) (by kernel_rfl) (fun _ _ _ h => h) (Or.inl ⟨by rfl, ?y2102⟩) (by assumption) ?r2102
                  case y2102 => (intro w hSw; (try dsimp only at hSw); go_simp; (try with_reducible rfl))
                  simp only [Act.put, List.setIfInBounds_toArray, List.set_cons_zero, List.set_cons_succ]
                  refine wpAnyH_at 3 (some 103) (v := undef) (by decide) rfl (by kernel_rfl) (by kernel_rfl) (by kernel_rfl) (fun _ _ _ h => h) (Or.inr ⟨by rfl, rfl⟩) (by assumption) ?_
                  simp only [Act.put, List.setIfInBounds_toArray, List.set_cons_zero, List.set_cons_succ]
                  refine wpAnyH_at 4 (some 104) (v := undef) (by decide) rfl (by kernel_rfl) (by kernel_rfl) (by kernel_rfl) (fun _ _ _ h => h) (Or.inr ⟨by rfl, rfl⟩) (by assumption) ?_
                  simp only [Act.put, List.setIfInBounds_toArray, List.set_cons_zero, List.set_cons_succ]
                  refine wpAnyH_at 5 (some 105) (v := undef) (by decide) rfl (by kernel_rfl) (by kernel_rfl) (by kernel_rfl) (fun _ _ _ h => h) (Or.inr ⟨by rfl, rfl⟩) (by assumption) ?_
                  simp only [Act.put, List.setIfInBounds_toArray, List.set_cons_zero, List.set_cons_succ]
                  refine wpAnyH_at 6 (some 106) (v := ?v2106) (by decide) rfl (by kernel_rfl) (by kernel_rfl) (by kernel_rfl) (fun _ _ _ h => h) (Or.inl ⟨by rfl, ?y2106⟩) (by assumption) ?r2106
                  case y2106 => (intro w hSw; (try dsimp only at hSw); go_simp; (try with_reducible rfl))
                  simp only [Act.put, List.setIfInBounds_toArray, List.set_cons_zero, List.set_cons_succ]
                  refine wpAnyH_at 7 (some 107) (v := ?v2107) (by decide) rfl (by kernel_rfl) (by kernel_rfl) (by kernel_rfl) (fun _ _ _ h => h) (Or.inl ⟨by rfl, ?y2107⟩) (by assumption) ?r2107
                  case y2107 => (intro w hSw; (try dsimp only at hSw); go_simp; (try with_reducible rfl))
                  simp only [Act.put, List.setIfInBounds_toArray, List.set_cons_zero, List.set_cons_succ]
                  refine wpAnyH_at 8 (some 108) (v := undef) (by decide) rfl (by kernel_rfl) (by kernel_rfl) (by kernel_rfl) (fun _ _ _ h => h) (Or.inr ⟨by rfl, rfl⟩) (by assumption) ?_
                  simp only [Act.put, List.setIfInBounds_toArray, List.set_cons_zero, List.set_cons_succ]
                  refine wpAnyH_at 9 (some 109) (v := undef) (by decide) rfl (by kernel_rfl) (by kernel_rfl) (by kernel_rfl) (fun _ _ _ h => h) (Or.inr ⟨by rfl, rfl⟩) (by assumption) ?_
                  simp only [Act.put, List.setIfInBounds_toArray, List.set_cons_zero, List.set_cons_succ]
                  refine wpAnyH_at 10 (some 110) (v := undef) (by decide) rfl (by kernel_rfl) (by kernel_rfl) (by kernel_rfl) (fun _ _ _ h => h) (Or.inr ⟨by rfl, rfl⟩) (by assumption) ?_
                  simp only [Act.put, List.setIfInBounds_toArray, List.set_cons_zero, List.set_cons_succ]
                  refine wpAnyH_at 11 (some 111) (v := undef) (by decide) rfl (by kernel_rfl) (by kernel_rfl) (by kernel_rfl) (fun _ _ _ h => h) (Or.inr ⟨by rfl, rfl⟩) (by assumption) ?_
                  simp only [Act.put, List.setIfInBounds_toArray, List.set_cons_zero, List.set_cons_succ]
                  refine wpAnyH_at 12 (some 112) (v := undef) (by decide) rfl (by kernel_rfl) (by kernel_rfl) (by kernel_rfl) (fun _ _ _ h => h) (Or.inr ⟨by rfl, rfl⟩) (by assumption) ?_
                  simp only [Act.put, List.setIfInBounds_toArray, List.set_cons_zero, List.set_cons_succ]
                  refine wpAnyH_at 13 (some 113) (v := undef) (by decide) rfl (by kernel_rfl) (by kernel_rfl) (by kernel_rfl) (fun _ _ _ h => h) (Or.inr ⟨by rfl, rfl⟩) (by assumption) ?_
                  simp only [Act.put, List.setIfInBounds_toArray, List.set_cons_zero, List.set_cons_succ]
                  refine wpAnyH_at 14 (some 114) (v := undef) (by decide) rfl (by kernel_rfl) (by kernel_rfl) (by kernel_rfl) (fun _ _ _ h => h) (Or.inr ⟨by rfl, rfl⟩) (by assumption) ?_
                  simp only [Act.put, List.setIfInBounds_toArray, List.set_cons_zero, List.set_cons_succ]
                  refine wpAnyH_at 15 (some 115) (v := undef) (by decide) rfl (by kernel_rfl) (by kernel_rfl) (by kernel_rfl) (fun _ _ _ h => h) (Or.inr ⟨by rfl, rfl⟩) (by assumption) ?_
                  simp only [Act.put, List.setIfInBounds_toArray, List.set_cons_zero, List.set_cons_succ]
                  refine wpAnyH_at 16 (some 116) (v := undef) (by decide) rfl (by kernel_rfl) (by kernel_rfl) (by kernel_rfl) (fun _ _ _ h => h) (Or.inr ⟨by rfl, rfl⟩) (by assumption) ?_
                  simp only [Act.put, List.setIfInBounds_toArray, List.set_cons_zero, List.set_cons_succ]
                  refine wpAnyH_at 17 (some 117) (v := undef) (by decide) rfl (by kernel_rfl) (by kernel_rfl) (by kernel_rfl) (fun _ _ _ h => h) (Or.inr ⟨by rfl, rfl⟩) (by assumption) ?_
                  simp only [Act.put, List.setIfInBounds_toArray, List.set_cons_zero, List.set_cons_succ]
                  refine wpAnyH_at 18 (some 118) (v := undef) (by decide) rfl (by kernel_rfl) (by kernel_rfl) (by kernel_rfl) (fun _ _ _ h => h) (Or.inr ⟨by rfl, rfl⟩) (by assumption) ?_
                  simp only [Act.put, List.setIfInBounds_toArray, List.set_cons_zero, List.set_cons_succ]
                  refine wpAnyH_at 19 (some 119) (v := undef) (by decide) rfl (by kernel_rfl) (by kernel_rfl) (by kernel_rfl) (fun _ _ _ h => h) (Or.inr ⟨by rfl, rfl⟩) (by assumption) ?_
                  simp only [Act.put, List.setIfInBounds_toArray, List.set_cons_zero, List.set_cons_succ]
                  refine wpAnyH_at 20 (some 120) (v := undef) (by decide) rfl (by kernel_rfl) (by kernel_rfl) (by kernel_rfl) (fun _ _ _ h => h) (Or.inr ⟨by rfl, rfl⟩) (by assumption) ?_
                  simp only [Act.put, List.setIfInBounds_toArray, List.set_cons_zero, List.set_cons_succ]
                  refine wpAnyH_at 21 (some 121) (v := ?v2121) (by decide) rfl (by kernel_rfl) (by kernel_rfl) (by kernel_rfl) (fun _ _ _ h => h) (Or.inl ⟨by rfl, ?y2121⟩) (by assumption) ?r2121
                  case y2121 => (intro w hSw; (try dsimp only at hSw); go_simp; (try with_reducible rfl))
                  simp only [Act.put, List.setIfInBounds_toArray, List.set_cons_zero, List.set_cons_succ]
                  refine wpAnyH_done (by kernel_rfl) ?_ _
                  clear hHeld
                  have AI6 := hid HA5.out.drew
                  go_wp2_with fail
                  clear c0 cf d0 d1 df n1 n2
                  generalize W5.drew = W6 at AI6 ⊢
                  obtain ⟨ao6, cap6, g1, g2, g3, c0, cf, d0, d1, df, n1, n2, hCn⟩ := AI6.out.facts HF.out
                  have G3 := hid g3
                  have OW := hid (show Own ((W6.alloc (.cells #[.int .u32 (x1), .int .u32 (x2)] 46)).drew) 46 2 _ _ _ from (g2.alloc _).drew)
                  have RW := hid (row_old (w := W6) g1 (.cells #[.int .u32 (x1), .int .u32 (x2)] 46))
                  have XW := hid (row_old (w := W6) AI6.out.x (.cells #[.int .u32 (x1), .int .u32 (x2)] 46))
                  have HIL := hid (show L.length ≤ C5.length by rw [HC6.out]; simp)
                  have k0 : (W6.alloc (.cells #[.int .u32 (x1), .int .u32 (x2)] 46)).cell? ⟨sb, 0, none⟩ = some (.slice ao6 C5.length cap6) := by have := row_cell RW.out 0; simpa using this
                  obtain ⟨k1, k2, _⟩ := cell2 XW.out
                  clear g1 g2 g3
                  refine wp_region_held_drew (S := fun w' => w'.cell? ⟨xb, 0, none⟩ = some (.int .u32 (x1)) ∧ w'.cell? ⟨xb, 1, none⟩ = some (.int .u32 (x2))) (by kernel_rfl) (by exact ⟨d0, d1⟩) (fun hHeld => ?_)
                  refine wpAnyH_at 0 (some 145) (v := ?v2200) (by decide) rfl (by kernel_rfl) (by kernel_rfl) (by kernel_rfl) (fun _ _ _ h => h) (Or.inl ⟨by rfl, ?y2200⟩) (by assumption) ?r2200
                  case y2200 => (intro w hSw; (try dsimp only at hSw); go_simp; (try with_reducible rfl))
                  simp only [Act.put, List.setIfInBounds_toArray, List.set_cons_zero, List.set_cons_succ]
                  refine wpAnyH_at 1 (some 146) (v := ?v2201) (by decide) rfl (by kernel_rfl) (by kernel_rfl) (by kernel_rfl) (fun _ _ _ h => h) (Or.inl ⟨by rfl, ?y2201⟩) (by assumption) ?r2201
                  case y2201 => (intro w hSw; (try dsimp only at hSw); go_simp; (try with_reducible rfl))
                  simp only [Act.put, List.setIfInBounds_toArray, List.set_cons_zero, List.set_cons_succ]
                  refine wpAnyH_at 2 (some 147) (v := ?v2202) (by decide) rfl (by kernel_rfl) (by kernel_rfl) (by kernel_rfl) (fun _ _ _ h => h) (Or.inl ⟨by rfl, ?y2202⟩) (by assumption) ?r2202
                  case y2202 => (intro w hSw; (try dsimp only at hSw); go_simp; (try with_reducible rfl))
                  simp only [Act.put, List.setIfInBounds_toArray, List.set_cons_zero, List.set_cons_succ]
                  refine wpAnyH_at 3 (some 148) (v := ?v2203) (by decide) rfl (by kernel_rfl) (by kernel_rfl) (by kernel_rfl) (fun _ _ _ h => h) (Or.inl ⟨by rfl, ?y2203⟩) (by assumption) ?r2203
                  case y2203 => (intro w hSw; (try dsimp only at hSw); go_simp; (try with_reducible rfl))
                  simp only [Act.put, List.setIfInBounds_toArray, List.set_cons_zero, List.set_cons_succ]
                  refine wpAnyH_at 5 (some 150) (v := ?v2205) (by decide) rfl (by kernel_rfl) (by kernel_rfl) (by kernel_rfl) (fun _ _ _ h => h) (Or.inl ⟨by rfl, ?y2205⟩) (by assumption) ?r2205
                  case y2205 => (intro w hSw; (try dsimp only at hSw); go_simp; (try with_reducible rfl))
                  simp only [Act.put, List.setIfInBounds_toArray, List.set_cons_zero, List.set_cons_succ]
                  refine wpAnyH_at 6 (some 151) (v := ?v2206) (by decide) rfl (by kernel_rfl) (by kernel_rfl) (by kernel_rfl) (fun _ _ _ h => h) (Or.inl ⟨by rfl, ?y2206⟩) (by assumption) ?r2206
                  case y2206 => (intro w hSw; (try dsimp only at hSw); go_simp; (try with_reducible rfl))
                  simp only [Act.put, List.setIfInBounds_toArray, List.set_cons_zero, List.set_cons_succ]
                  refine wpAnyH_ready (rs := [4, 7]) (by kernel_rfl) (by simp) ?_
                  refine AllReadyH.cons rfl (fun K hK => ?_) (AllReadyH.cons rfl (fun K hK => ?_) AllReadyH.nil)
                  · go_simp
                    try dsimp only []
                    refine hK.out _ _ (by exact ⟨d0, d1⟩) (fun hHeld => ?_)
                    clear hK K
                    try simp only [Act.put, List.setIfInBounds_toArray, List.set_cons_zero, List.set_cons_succ]
                    refine wpAnyH_ready (rs := [7]) (by kernel_rfl) (by simp) ?_
                    refine AllReadyH.cons rfl (fun K hK => ?_) AllReadyH.nil
                    go_simp
                    try dsimp only []
                    refine hK.out _ _ (by exact ⟨k1, k2⟩) (fun hHeld => ?_)
                    clear hK K
                    try simp only [Act.put, List.setIfInBounds_toArray, List.set_cons_zero, List.set_cons_succ]
                    refine wpAnyH_ready (rs := [8]) (by kernel_rfl) (by simp) ?_
                    refine AllReadyH.cons rfl (fun K hK => ?_) AllReadyH.nil
                    go_simp
                    refine (ins_any (by exact OW.out) (scells_one _) (L.length) (by exact HIL.out) (own_two (w := W6) _ _).drew (by simp [Value.oneCell']) (fun g hg e => by have h1 := HF.out _ (G3.out _ e); have h2 := AI6.out.k.size; simp [Value.ownBlock] at hg; omega) (by omega)).mono ?_
                    rintro e w7 ⟨a7, c7, rfl, ho7, hk7, hf7⟩
                    have r7 := (hk7.block sb (row_lt RW.out) (OW.out.ne_block RW.out (by decide))).trans RW.out
                    have x7 := (hk7.block xb (row_lt XW.out) (fun e => by have h1 := HF.out _ (G3.out _ e); have h2 := AI6.out.n; omega)).trans XW.out
                    obtain ⟨e0, e1, _⟩ := cell2 x7
                    try dsimp only []
                    refine hK.out _ _ (by exact ⟨e0, e1⟩) (fun hHeld => ?_)
                    clear hK K
                    try simp only [Act.put, List.setIfInBounds_toArray, List.set_cons_zero, List.set_cons_succ]
                    refine wpAnyH_at 9 (some 154) (v := ?v22109) (by decide) rfl (by kernel_rfl) (by kernel_rfl) (by kernel_rfl) (fun _ _ _ h => h) (Or.inl ⟨by rfl, ?y22109⟩) (by assumption) ?r22109
                    case y22109 => (intro w hSw; (try dsimp only at hSw); go_simp; (try with_reducible rfl))
                    simp only [Act.put, List.setIfInBounds_toArray, List.set_cons_zero, List.set_cons_succ]
                    refine wpAnyH_at 10 (some 155) (v := ?v22110) (by decide) rfl (by kernel_rfl) (by kernel_rfl) (by kernel_rfl) (fun _ _ _ h => h) (Or.inl ⟨by rfl, ?y22110⟩) (by assumption) ?r22110
                    case y22110 => (intro w hSw; (try dsimp only at hSw); go_simp; (try with_reducible rfl))
                    simp only [Act.put, List.setIfInBounds_toArray, List.set_cons_zero, List.set_cons_succ]
                    have c7' : w7.cell? ⟨sb, 0, none⟩ = some (.slice ao6 C5.length cap6) := by have := row_cell r7 0; simpa using this
                    have f7' := row_free r7 0
                    refine wpAnyH_ready (rs := [11]) (by kernel_rfl) (by simp) ?_
                    refine AllReadyH.cons rfl (fun K hK => ?_) AllReadyH.nil
                    go_simp
                    try dsimp only []
                    refine hK.out _ _ (by exact ⟨(cell2 (((Kept.refl (fun k => k = sb) w7).setCell (.inl rfl) _).block xb (row_lt x7) n2 |>.trans x7)).1, (cell2 (((Kept.refl (fun k => k = sb) w7).setCell (.inl rfl) _).block xb (row_lt x7) n2 |>.trans x7)).2.1⟩) (fun hHeld => ?_)
                    clear hK K
                    try simp only [Act.put, List.setIfInBounds_toArray, List.set_cons_zero, List.set_cons_succ]
                    refine wpAnyH_done (by kernel_rfl) ?_ _
                    have R7 := hid r7; have HO7 := hid ho7; have HK7 := hid hk7; have HF7 := hid hf7
                    clear hHeld c7' f7' r7 ho7 hk7 hf7 x7 e0 e1
                    go_wp2
                    go_ret
                    have ho := HO7.out
                    have hfo := HF7.out
                    have hl : C5.length + 1 = T.length := by rw [HT6.out, HC6.out]; simp; omega
                    have hd : T = C5.take (L.length) ++ [(x1, x2)] ++ C5.drop (L.length) := by rw [HC6.out, List.take_left' rfl, List.drop_left' rfl]; exact HT6.out
                    have hsc : (scells C5).take ((L.length) * 2) ++ [.int .u32 (x1), .int .u32 (x2)] ++ (scells C5).drop ((L.length) * 2) = scells T := by
                      rw [← scells_take, ← scells_drop, hd, scells_app, scells_app]; rfl
                    rw [hsc] at ho
                    rw [hl] at ho hfo ⊢
                    rw [← HTA.out]
                    refine ⟨by rw [HC.out]; rfl, SetAt.put (F := fun g => F g ∨ w.heap.size ≤ g) (S0 := C5) R7.out (.inl AI6.out.s.m) HGA.out ho (fun g hg => ?_), ?_⟩
                    · rcases hfo g hg with h1 | h1
                      · exact .inl (G3.out g h1)
                      · right; have := AI6.out.k.size; simp at h1; omega
                    · exact Kept.setCell (F := F) (Kept.trans' (F := F) ((AI6.out.k.alloc _).drew) HK7.out (fun i hi => Or.inl (G3.out i hi))) (Or.inl AI6.out.s.m) _
                  · go_simp
                    try dsimp only []
                    refine hK.out _ _ (by exact ⟨k1, k2⟩) (fun hHeld => ?_)
                    clear hK K
                    try simp only [Act.put, List.setIfInBounds_toArray, List.set_cons_zero, List.set_cons_succ]
                    refine wpAnyH_ready (rs := [4]) (by kernel_rfl) (by simp) ?_
                    refine AllReadyH.cons rfl (fun K hK => ?_) AllReadyH.nil
                    go_simp
                    try dsimp only []
                    refine hK.out _ _ (by exact ⟨k1, k2⟩) (fun hHeld => ?_)
                    clear hK K
                    try simp only [Act.put, List.setIfInBounds_toArray, List.set_cons_zero, List.set_cons_succ]
                    refine wpAnyH_ready (rs := [8]) (by kernel_rfl) (by simp) ?_
                    refine AllReadyH.cons rfl (fun K hK => ?_) AllReadyH.nil
                    go_simp
                    refine (ins_any (by exact OW.out) (scells_one _) (L.length) (by exact HIL.out) (own_two (w := W6) _ _).drew (by simp [Value.oneCell']) (fun g hg e => by have h1 := HF.out _ (G3.out _ e); have h2 := AI6.out.k.size; simp [Value.ownBlock] at hg; omega) (by omega)).mono ?_
                    rintro e w7 ⟨a7, c7, rfl, ho7, hk7, hf7⟩
                    have r7 := (hk7.block sb (row_lt RW.out) (OW.out.ne_block RW.out (by decide))).trans RW.out
                    have x7 := (hk7.block xb (row_lt XW.out) (fun e => by have h1 := HF.out _ (G3.out _ e); have h2 := AI6.out.n; omega)).trans XW.out
                    obtain ⟨e0, e1, _⟩ := cell2 x7
                    try dsimp only []
                    refine hK.out _ _ (by exact ⟨e0, e1⟩) (fun hHeld => ?_)
                    clear hK K
                    try simp only [Act.put, List.setIfInBounds_toArray, List.set_cons_zero, List.set_cons_succ]
                    refine wpAnyH_at 9 (some 154) (v := ?v22209) (by decide) rfl (by kernel_rfl) (by kernel_rfl) (by kernel_rfl) (fun _ _ _ h => h) (Or.inl ⟨by rfl, ?y22209⟩) (by assumption) ?r22209
                    case y22209 => (intro w hSw; (try dsimp only at hSw); go_simp; (try with_reducible rfl))
                    simp only [Act.put, List.setIfInBounds_toArray, List.set_cons_zero, List.set_cons_succ]
                    refine wpAnyH_at 10 (some 155) (v := ?v22210) (by decide) rfl (by kernel_rfl) (by kernel_rfl) (by kernel_rfl) (fun _ _ _ h => h) (Or.inl ⟨by rfl, ?y22210⟩) (by assumption) ?r22210
                    case y22210 => (intro w hSw; (try dsimp only at hSw); go_simp; (try with_reducible rfl))
                    simp only [Act.put, List.setIfInBounds_toArray, List.set_cons_zero, List.set_cons_succ]
                    have c7' : w7.cell? ⟨sb, 0, none⟩ = some (.slice ao6 C5.length cap6) := by have := row_cell r7 0; simpa using this
                    have f7' := row_free r7 0
                    refine wpAnyH_ready (rs := [11]) (by kernel_rfl) (by simp) ?_
                    refine AllReadyH.cons rfl (fun K hK => ?_) AllReadyH.nil
                    go_simp
                    try dsimp only []
                    refine hK.out _ _ (by exact ⟨(cell2 (((Kept.refl (fun k => k = sb) w7).setCell (.inl rfl) _).block xb (row_lt x7) n2 |>.trans x7)).1, (cell2 (((Kept.refl (fun k => k = sb) w7).setCell (.inl rfl) _).block xb (row_lt x7) n2 |>.trans x7)).2.1⟩) (fun hHeld => ?_)
                    clear hK K
                    try simp only [Act.put, List.setIfInBounds_toArray, List.set_cons_zero, List.set_cons_succ]
                    refine wpAnyH_done (by kernel_rfl) ?_ _
                    have R7 := hid r7; have HO7 := hid ho7; have HK7 := hid hk7; have HF7 := hid hf7
                    clear hHeld c7' f7' r7 ho7 hk7 hf7 x7 e0 e1
                    go_wp2
                    go_ret
                    have ho := HO7.out
                    have hfo := HF7.out
                    have hl : C5.length + 1 = T.length := by rw [HT6.out, HC6.out]; simp; omega
                    have hd : T = C5.take (L.length) ++ [(x1, x2)] ++ C5.drop (L.length) := by rw [HC6.out, List.take_left' rfl, List.drop_left' rfl]; exact HT6.out
                    have hsc : (scells C5).take ((L.length) * 2) ++ [.int .u32 (x1), .int .u32 (x2)] ++ (scells C5).drop ((L.length) * 2) = scells T := by
                      rw [← scells_take, ← scells_drop, hd, scells_app, scells_app]; rfl
                    rw [hsc] at ho
                    rw [hl] at ho hfo ⊢
                    rw [← HTA.out]
                    refine ⟨by rw [HC.out]; rfl, SetAt.put (F := fun g => F g ∨ w.heap.size ≤ g) (S0 := C5) R7.out (.inl AI6.out.s.m) HGA.out ho (fun g hg => ?_), ?_⟩
                    · rcases hfo g hg with h1 | h1
                      · exact .inl (G3.out g h1)
                      · right; have := AI6.out.k.size; simp at h1; omega
                    · exact Kept.setCell (F := F) (Kept.trans' (F := F) ((AI6.out.k.alloc _).drew) HK7.out (fun i hi => Or.inl (G3.out i hi))) (Or.inl AI6.out.s.m) _
                · rw [List.concat_eq_append] at hL
                  have hm : L.length = L0.length + 1 := by rw [hL]; simp
                  have hmC : L0.length < C5.length := by omega
                  have hCz : C5[L0.length]'hmC = z := by simp [hC5, hL]
                  have hzb := HM5.out.bl z (by rw [hL]; simp)
                  have hzx := HM5.out.l z (by rw [hL]; simp)
                  obtain ⟨g, cap', e, l1, l2, y0, y1⟩ := own_at g2 L0.length hmC
                  simp only [Value.slice.injEq] at e
                  obtain ⟨rfl, _, rfl⟩ := e
                  rw [hCz] at y0 y1
                  obtain ⟨zp, zq⟩ := z
                  simp only at y0 y1 hzb hzx
                  have hi0 : (0 : Int) < (L.length : Int) := by omega
                  have hi1 : 0 < L.length := by omega
                  have hx0 : (x1 != 0) = true := by simp; omega
                  have hx0' : x1 ≠ 0 := by omega
                  have hw1 : IntKind.u32.wrap (x1 - 1) = x1 - 1 := by have := HM5.out.b; simp [IntKind.wrap, IntKind.bits, IntKind.signed]; omega
                  have hLs : L.length ≤ 2147483648 := by omega
                  have hw2 : IntKind.i64.wrap ((L.length : Int) - 1) = (L0.length : Int) := by rw [IntKind.wrap_i64]; omega
                  have hmI : (L0.length : Int) < (C5.length : Int) := by omega
                  have G1 := hid g1; have G2 := hid g2; have G3 := hid g3; have HC5 := hid hC5; have HL := hid hL; have Hm := hid hm
                  clear g1 g2 g3 hC5 hL hm hCl5 hCz
                  by_cases hz : zq = x1 - 1
                  · have hzx1 : (zq == x1 - 1) = true := by simpa using hz
                    refine wp_region_held_drew (S := fun w' => w'.cell? ⟨sb, 0, none⟩ = some (.slice (some ⟨g, 0, none⟩) C5.length cap5) ∧ w'.cell? ⟨xb, 0, none⟩ = some (.int .u32 x1) ∧ w'.cell? ⟨g, L0.length * 2 + 1, none⟩ = some (.int .u32 zq)) (by kernel_rfl) (by exact ⟨c0, d0, y1⟩) (fun hHeld => ?_)
                    refine wpAnyH_at 0 (some 100) (v := ?v2300) (by decide) rfl (by kernel_rfl) (by kernel_rfl) (by kernel_rfl) (fun _ _ _ h => h) (Or.inl ⟨by rfl, ?y2300⟩) (by assumption) ?r2300
                    case y2300 => (intro w hSw; (try dsimp only at hSw); go_simp; (try with_reducible rfl))
                    simp only [Act.put, List.setIfInBounds_toArray, List.set_cons_zero, List.set_cons_succ]
                    refine wpAnyH_at 1 (some 101) (v := ?v2301) (by decide) rfl (by kernel_rfl) (by kernel_rfl) (by kernel_rfl) (fun _ _ _ h => h) (Or.inl ⟨by rfl, ?y2301⟩) (by assumption) ?r2301
                    case y2301 => (intro w hSw; (try dsimp only at hSw); go_simp; (try with_reducible rfl))
                    simp only [Act.put, List.setIfInBounds_toArray, List.set_cons_zero, List.set_cons_succ]
                    refine wpAnyH_at 2 (some 102) (v := ?v2302) (by decide) rfl (by kernel_rfl) (by kernel_rfl) (by kernel_rfl) (fun _ _ _ h => h) (Or.inl ⟨by rfl, ?y2302⟩) (by assumption) ?r2302
                    case y2302 => (intro w hSw; (try dsimp only at hSw); go_simp; (try with_reducible rfl))
                    simp only [Act.put, List.setIfInBounds_toArray, List.set_cons_zero, List.set_cons_succ]
                    refine wpAnyH_at 3 (some 103) (v := ?v2303) (by decide) rfl (by kernel_rfl) (by kernel_rfl) (by kernel_rfl) (fun _ _ _ h => h) (Or.inl ⟨by rfl, ?y2303⟩) (by assumption) ?r2303
                    case y2303 => (intro w hSw; (try dsimp only at hSw); go_simp; (try with_reducible rfl))
                    simp only [Act.put, List.setIfInBounds_toArray, List.set_cons_zero, List.set_cons_succ]
                    refine wpAnyH_at 4 (some 104) (v := ?v2304) (by decide) rfl (by kernel_rfl) (by kernel_rfl) (by kernel_rfl) (fun _ _ _ h => h) (Or.inl ⟨by rfl, ?y2304⟩) (by assumption) ?r2304
                    case y2304 => (intro w hSw; (try dsimp only at hSw); go_simp; (try with_reducible rfl))
                    simp only [Act.put, List.setIfInBounds_toArray, List.set_cons_zero, List.set_cons_succ]
                    refine wpAnyH_at 5 (some 105) (v := ?v2305) (by decide) rfl (by kernel_rfl) (by kernel_rfl) (by kernel_rfl) (fun _ _ _ h => h) (Or.inl ⟨by rfl, ?y2305⟩) (by assumption) ?r2305
                    case y2305 => (intro w hSw; (try dsimp only at hSw); go_simp; (try with_reducible rfl))
                    simp only [Act.put, List.setIfInBounds_toArray, List.set_cons_zero, List.set_cons_succ]
                    refine wpAnyH_at 6 (some 106) (v := ?v2306) (by decide) rfl (by kernel_rfl) (by kernel_rfl) (by kernel_rfl) (fun _ _ _ h => h) (Or.inl ⟨by rfl, ?y2306⟩) (by assumption) ?r2306
                    case y2306 => (intro w hSw; (try dsimp only at hSw); go_simp; (try with_reducible rfl))
                    simp only [Act.put, List.setIfInBounds_toArray, List.set_cons_zero, List.set_cons_succ]
                    refine wpAnyH_at 7 (some 107) (v := ?v2307) (by decide) rfl (by kernel_rfl) (by kernel_rfl) (by kernel_rfl) (fun _ _ _ h => h) (Or.inl ⟨by rfl, ?y2307⟩) (by assumption) ?r2307
                    case y2307 => (intro w hSw; (try dsimp only at hSw); go_simp; (try with_reducible rfl))
                    simp only [Act.put, List.setIfInBounds_toArray, List.set_cons_zero, List.set_cons_succ]
                    refine wpAnyH_at 8 (some 108) (v := ?v2308) (by decide) rfl (by kernel_rfl) (by kernel_rfl) (by kernel_rfl) (fun _ _ _ h => h) (Or.inl ⟨by rfl, ?y2308⟩) (by assumption) ?r2308
                    case y2308 => (intro w hSw; (try dsimp only at hSw); go_simp; (try with_reducible rfl))
                    simp only [Act.put, List.setIfInBounds_toArray, List.set_cons_zero, List.set_cons_succ]
                    refine wpAnyH_at 9 (some 109) (v := ?v2309) (by decide) rfl (by kernel_rfl) (by kernel_rfl) (by kernel_rfl) (fun _ _ _ h => h) (Or.inl ⟨by rfl, ?y2309⟩) (by assumption) ?r2309
                    case y2309 => (intro w hSw; (try dsimp only at hSw); go_simp; (try with_reducible rfl))
                    simp only [Act.put, List.setIfInBounds_toArray, List.set_cons_zero, List.set_cons_succ]
                    refine wpAnyH_at 10 (some 110) (v := ?v2310) (by decide) rfl (by kernel_rfl) (by kernel_rfl) (by kernel_rfl) (fun _ _ _ h => h) (Or.inl ⟨by rfl, ?y2310⟩) (by assumption) ?r2310
                    case y2310 => (intro w hSw; (try dsimp only at hSw); go_simp; (try with_reducible rfl))
                    simp only [Act.put, List.setIfInBounds_toArray, List.set_cons_zero, List.set_cons_succ]
                    refine wpAnyH_at 11 (some 111) (v := ?v2311) (by decide) rfl (by kernel_rfl) (by kernel_rfl) (by kernel_rfl) (fun _ _ _ h => h) (Or.inl ⟨by rfl, ?y2311⟩) (by assumption) ?r2311
                    case y2311 => (intro w hSw; (try dsimp only at hSw); go_simp; (try with_reducible rfl))
                    simp only [Act.put, List.setIfInBounds_toArray, List.set_cons_zero, List.set_cons_succ]
                    refine wpAnyH_at 12 (some 112) (v := ?v2312) (by decide) rfl (by kernel_rfl) (by kernel_rfl) (by kernel_rfl) (fun _ _ _ h => h) (Or.inl ⟨by rfl, ?y2312⟩) (by assumption) ?r2312
                    case y2312 => (intro w hSw; (try dsimp only at hSw); go_simp; (try with_reducible rfl))
                    simp only [Act.put, List.setIfInBounds_toArray, List.set_cons_zero, List.set_cons_succ]
                    refine wpAnyH_at 13 (some 113) (v := ?v2313) (by decide) rfl (by kernel_rfl) (by kernel_rfl) (by kernel_rfl) (fun _ _ _ h => h) (Or.inl ⟨by rfl, ?y2313⟩) (by assumption) ?r2313
                    case y2313 => (intro w hSw; (try dsimp only at hSw); go_simp; (try with_reducible rfl))
                    simp only [Act.put, List.setIfInBounds_toArray, List.set_cons_zero, List.set_cons_succ]
                    refine wpAnyH_at 14 (some 114) (v := ?v2314) (by decide) rfl (by kernel_rfl) (by kernel_rfl) (by kernel_rfl) (fun _ _ _ h => h) (Or.inl ⟨by rfl, ?y2314⟩) (by assumption) ?r2314
                    case y2314 => (intro w hSw; (try dsimp only at hSw); go_simp; (try with_reducible rfl))
                    simp only [Act.put, List.setIfInBounds_toArray, List.set_cons_zero, List.set_cons_succ]
                    refine wpAnyH_at 15 (some 115) (v := ?v2315) (by decide) rfl (by kernel_rfl) (by kernel_rfl) (by kernel_rfl) (fun _ _ _ h => h) (Or.inl ⟨by rfl, ?y2315⟩) (by assumption) ?r2315
                    case y2315 => (intro w hSw; (try dsimp only at hSw); go_simp; (try with_reducible rfl))
                    simp only [Act.put, List.setIfInBounds_toArray, List.set_cons_zero, List.set_cons_succ]
                    refine wpAnyH_at 16 (some 116) (v := ?v2316) (by decide) rfl (by kernel_rfl) (by kernel_rfl) (by kernel_rfl) (fun _ _ _ h => h) (Or.inl ⟨by rfl, ?y2316⟩) (by assumption) ?r2316
                    case y2316 => (intro w hSw; (try dsimp only at hSw); go_simp; (try with_reducible rfl))
                    simp only [Act.put, List.setIfInBounds_toArray, List.set_cons_zero, List.set_cons_succ]
                    refine wpAnyH_at 17 (some 117) (v := ?v2317) (by decide) rfl (by kernel_rfl) (by kernel_rfl) (by kernel_rfl) (fun _ _ _ h => h) (Or.inl ⟨by rfl, ?y2317⟩) (by assumption) ?r2317
                    case y2317 => (intro w hSw; (try dsimp only at hSw); go_simp; (try with_reducible rfl))
                    simp only [Act.put, List.setIfInBounds_toArray, List.set_cons_zero, List.set_cons_succ]
                    refine wpAnyH_at 18 (some 118) (v := ?v2318) (by decide) rfl (by kernel_rfl) (by kernel_rfl) (by kernel_rfl) (fun _ _ _ h => h) (Or.inl ⟨by rfl, ?y2318⟩) (by assumption) ?r2318
                    case y2318 => (intro w hSw; (try dsimp only at hSw); go_simp; (try with_reducible rfl))
                    simp only [Act.put, List.setIfInBounds_toArray, List.set_cons_zero, List.set_cons_succ]
                    refine wpAnyH_at 19 (some 119) (v := ?v2319) (by decide) rfl (by kernel_rfl) (by kernel_rfl) (by kernel_rfl) (fun _ _ _ h => h) (Or.inl ⟨by rfl, ?y2319⟩) (by assumption) ?r2319
                    case y2319 => (intro w hSw; (try dsimp only at hSw); go_simp; (try with_reducible rfl))
                    simp only [Act.put, List.setIfInBounds_toArray, List.set_cons_zero, List.set_cons_succ]
                    refine wpAnyH_at 20 (some 120) (v := ?v2320) (by decide) rfl (by kernel_rfl) (by kernel_rfl) (by kernel_rfl) (fun _ _ _ h => h) (Or.inl ⟨by rfl, ?y2320⟩) (by assumption) ?r2320
                    case y2320 => (intro w hSw; (try dsimp only at hSw); go_simp; (try with_reducible rfl))
                    simp only [Act.put, List.setIfInBounds_toArray, List.set_cons_zero, List.set_cons_succ]
                    refine wpAnyH_at 21 (some 121) (v := ?v2321) (by decide) rfl (by kernel_rfl) (by kernel_rfl) (by kernel_rfl) (fun _ _ _ h => h) (Or.inl ⟨by rfl, ?y2321⟩) (by assumption) ?r2321
                    case y2321 => (intro w hSw; (try dsimp only at hSw); go_simp; (try with_reducible rfl))
                    simp only [Act.put, List.setIfInBounds_toArray, List.set_cons_zero, List.set_cons_succ]
                    refine wpAnyH_done (by kernel_rfl) ?_ _
                    clear hHeld
                    go_wp2_with fail
                    have kx : Kept (fun k => k = xb) W5 (W5.setCell ⟨xb, 0, none⟩ (.int .u32 zp)).drew := ((Kept.refl (fun k => k = xb) W5).setCell (.inl rfl) _).drew
                    have AI1 := (HA5.out.set0 HF.out zp).drew
                    have q1 := (kx.block sb (row_lt G1.out) n1).trans G1.out
                    have q2 := G2.out.kept kx (fun k hk e => by have := HF.out _ (G3.out _ hk); have := HA5.out.n; omega)
                    have Q1 := hid q1; have Q2 := hid q2; have A1 := hid AI1
                    clear kx q1 q2 AI1
                    refine (del_le Q2.out (scells_one _) L0.length L.length (by have := Hm.out; omega) (by have := HCl5.out; omega)).mono ?_
                    rintro e w5 ⟨a2, c2, rfl, ho5, hk5, hb5⟩
                    obtain ⟨r5, hl5, AI6⟩ := A1.out.del (C' := L0 ++ R) HF.out Q1.out Q2.out G3.out L0.length L.length (by have := Hm.out; omega) (by have := HCl5.out; omega) (by rw [HC5.out, List.drop_left' rfl, HL.out, List.append_assoc, List.take_left' rfl]) ho5 hk5 hb5
                    obtain ⟨C6, hC6⟩ : ∃ C6, C6 = L0 ++ R := ⟨_, rfl⟩
                    rw [hl5]
                    rw [← hC6] at AI6 ⊢
                    have c5' : w5.cell? ⟨sb, 0, none⟩ = some (.slice (some ⟨g, 0, none⟩) C5.length cap5) := by have := row_cell r5 0; simpa using this
                    have f5' := row_free r5 0
                    have HC6 := hid hC6
                    have ht : T = L0 ++ [(zp, x2)] ++ R := by rw [HT5.out]; simp [leftL, leftX, HL.out, hz, hx0']
                    have HT6 := hid ht
                    have AI6 := hid AI6
                    clear r5 hl5 ho5 hk5 hb5 hC6 ht c0 cf d0 d1 df n1 n2 y0 y1
                    go_wp2_with fail
                    clear c5' f5' G1 G2 G3 Q1 Q2
                    generalize w5.setCell ⟨sb, 0, none⟩ (.slice a2 C6.length c2) = W6 at AI6 ⊢
                    have hCn5 := AI6.out.s.g.len
                    obtain ⟨ao6, cap6, g1, g2, g3, c0, cf, d0, d1, df, n1, n2, hCn⟩ := AI6.out.facts HF.out
                    have G3 := hid g3
                    have OW := hid (show Own ((W6.alloc (.cells #[.int .u32 (zp), .int .u32 (x2)] 46)).drew) 46 2 _ _ _ from (g2.alloc _).drew)
                    have RW := hid (row_old (w := W6) g1 (.cells #[.int .u32 (zp), .int .u32 (x2)] 46))
                    have XW := hid (row_old (w := W6) AI6.out.x (.cells #[.int .u32 (zp), .int .u32 (x2)] 46))
                    have HIL := hid (show L0.length ≤ C6.length by rw [HC6.out]; simp)
                    have k0 : (W6.alloc (.cells #[.int .u32 (zp), .int .u32 (x2)] 46)).cell? ⟨sb, 0, none⟩ = some (.slice ao6 C6.length cap6) := by have := row_cell RW.out 0; simpa using this
                    obtain ⟨k1, k2, _⟩ := cell2 XW.out
                    clear g1 g2 g3
                    refine wp_region_held_drew (S := fun w' => w'.cell? ⟨xb, 0, none⟩ = some (.int .u32 (zp)) ∧ w'.cell? ⟨xb, 1, none⟩ = some (.int .u32 (x2))) (by kernel_rfl) (by exact ⟨d0, d1⟩) (fun hHeld => ?_)
                    refine wpAnyH_at 0 (some 145) (v := ?v2600) (by decide) rfl (by kernel_rfl) (by kernel_rfl) (by kernel_rfl) (fun _ _ _ h => h) (Or.inl ⟨by rfl, ?y2600⟩) (by assumption) ?r2600
                    case y2600 => (intro w hSw; (try dsimp only at hSw); go_simp; (try with_reducible rfl))
                    simp only [Act.put, List.setIfInBounds_toArray, List.set_cons_zero, List.set_cons_succ]
                    refine wpAnyH_at 1 (some 146) (v := ?v2601) (by decide) rfl (by kernel_rfl) (by kernel_rfl) (by kernel_rfl) (fun _ _ _ h => h) (Or.inl ⟨by rfl, ?y2601⟩) (by assumption) ?r2601
                    case y2601 => (intro w hSw; (try dsimp only at hSw); go_simp; (try with_reducible rfl))
                    simp only [Act.put, List.setIfInBounds_toArray, List.set_cons_zero, List.set_cons_succ]
                    refine wpAnyH_at 2 (some 147) (v := ?v2602) (by decide) rfl (by kernel_rfl) (by kernel_rfl) (by kernel_rfl) (fun _ _ _ h => h) (Or.inl ⟨by rfl, ?y2602⟩) (by assumption) ?r2602
                    case y2602 => (intro w hSw; (try dsimp only at hSw); go_simp; (try with_reducible rfl))
                    simp only [Act.put, List.setIfInBounds_toArray, List.set_cons_zero, List.set_cons_succ]
                    refine wpAnyH_at 3 (some 148) (v := ?v2603) (by decide) rfl (by kernel_rfl) (by kernel_rfl) (by kernel_rfl) (fun _ _ _ h => h) (Or.inl ⟨by rfl, ?y2603⟩) (by assumption) ?r2603
                    case y2603 => (intro w hSw; (try dsimp only at hSw); go_simp; (try with_reducible rfl))
                    simp only [Act.put, List.setIfInBounds_toArray, List.set_cons_zero, List.set_cons_succ]
                    refine wpAnyH_at 5 (some 150) (v := ?v2605) (by decide) rfl (by kernel_rfl) (by kernel_rfl) (by kernel_rfl) (fun _ _ _ h => h) (Or.inl ⟨by rfl, ?y2605⟩) (by assumption) ?r2605
                    case y2605 => (intro w hSw; (try dsimp only at hSw); go_simp; (try with_reducible rfl))
                    simp only [Act.put, List.setIfInBounds_toArray, List.set_cons_zero, List.set_cons_succ]
                    refine wpAnyH_at 6 (some 151) (v := ?v2606) (by decide) rfl (by kernel_rfl) (by kernel_rfl) (by kernel_rfl) (fun _ _ _ h => h) (Or.inl ⟨by rfl, ?y2606⟩) (by assumption) ?r2606
                    case y2606 => (intro w hSw; (try dsimp only at hSw); go_simp; (try with_reducible rfl))
                    simp only [Act.put, List.setIfInBounds_toArray, List.set_cons_zero, List.set_cons_succ]
                    refine wpAnyH_ready (rs := [4, 7]) (by kernel_rfl) (by simp) ?_
                    refine AllReadyH.cons rfl (fun K hK => ?_) (AllReadyH.cons rfl (fun K hK => ?_) AllReadyH.nil)
                    · go_simp
                      try dsimp only []
                      refine hK.out _ _ (by exact ⟨d0, d1⟩) (fun hHeld => ?_)
                      clear hK K
                      try simp only [Act.put, List.setIfInBounds_toArray, List.set_cons_zero, List.set_cons_succ]
                      refine wpAnyH_ready (rs := [7]) (by kernel_rfl) (by simp) ?_
                      refine AllReadyH.cons rfl (fun K hK => ?_) AllReadyH.nil
                      go_simp
                      try dsimp only []
                      refine hK.out _ _ (by exact ⟨k1, k2⟩) (fun hHeld => ?_)
                      clear hK K
                      try simp only [Act.put, List.setIfInBounds_toArray, List.set_cons_zero, List.set_cons_succ]
                      refine wpAnyH_ready (rs := [8]) (by kernel_rfl) (by simp) ?_
                      refine AllReadyH.cons rfl (fun K hK => ?_) AllReadyH.nil
                      go_simp
                      refine (ins_any (by exact OW.out) (scells_one _) (L0.length) (by exact HIL.out) (own_two (w := W6) _ _).drew (by simp [Value.oneCell']) (fun g hg e => by have h1 := HF.out _ (G3.out _ e); have h2 := AI6.out.k.size; simp [Value.ownBlock] at hg; omega) (by omega)).mono ?_
                      rintro e w7 ⟨a7, c7, rfl, ho7, hk7, hf7⟩
                      have r7 := (hk7.block sb (row_lt RW.out) (OW.out.ne_block RW.out (by decide))).trans RW.out
                      have x7 := (hk7.block xb (row_lt XW.out) (fun e => by have h1 := HF.out _ (G3.out _ e); have h2 := AI6.out.n; omega)).trans XW.out
                      obtain ⟨e0, e1, _⟩ := cell2 x7
                      try dsimp only []
                      refine hK.out _ _ (by exact ⟨e0, e1⟩) (fun hHeld => ?_)
                      clear hK K
                      try simp only [Act.put, List.setIfInBounds_toArray, List.set_cons_zero, List.set_cons_succ]
                      refine wpAnyH_at 9 (some 154) (v := ?v26109) (by decide) rfl (by kernel_rfl) (by kernel_rfl) (by kernel_rfl) (fun _ _ _ h => h) (Or.inl ⟨by rfl, ?y26109⟩) (by assumption) ?r26109
                      case y26109 => (intro w hSw; (try dsimp only at hSw); go_simp; (try with_reducible rfl))
                      simp only [Act.put, List.setIfInBounds_toArray, List.set_cons_zero, List.set_cons_succ]
                      refine wpAnyH_at 10 (some 155) (v := ?v26110) (by decide) rfl (by kernel_rfl) (by kernel_rfl) (by kernel_rfl) (fun _ _ _ h => h) (Or.inl ⟨by rfl, ?y26110⟩) (by assumption) ?r26110
                      case y26110 => (intro w hSw; (try dsimp only at hSw); go_simp; (try with_reducible rfl))
                      simp only [Act.put, List.setIfInBounds_toArray, List.set_cons_zero, List.set_cons_succ]
                      have c7' : w7.cell? ⟨sb, 0, none⟩ = some (.slice ao6 C6.length cap6) := by have := row_cell r7 0; simpa using this
                      have f7' := row_free r7 0
                      refine wpAnyH_ready (rs := [11]) (by kernel_rfl) (by simp) ?_
                      refine AllReadyH.cons rfl (fun K hK => ?_) AllReadyH.nil
                      go_simp
                      try dsimp only []
                      refine hK.out _ _ (by exact ⟨(cell2 (((Kept.refl (fun k => k = sb) w7).setCell (.inl rfl) _).block xb (row_lt x7) n2 |>.trans x7)).1, (cell2 (((Kept.refl (fun k => k = sb) w7).setCell (.inl rfl) _).block xb (row_lt x7) n2 |>.trans x7)).2.1⟩) (fun hHeld => ?_)
                      clear hK K
                      try simp only [Act.put, List.setIfInBounds_toArray, List.set_cons_zero, List.set_cons_succ]
                      refine wpAnyH_done (by kernel_rfl) ?_ _
                      have R7 := hid r7; have HO7 := hid ho7; have HK7 := hid hk7; have HF7 := hid hf7
                      clear hHeld c7' f7' r7 ho7 hk7 hf7 x7 e0 e1
                      go_wp2
                      go_ret
                      have ho := HO7.out
                      have hfo := HF7.out
                      have hl : C6.length + 1 = T.length := by rw [HT6.out, HC6.out]; simp; omega
                      have hd : T = C6.take (L0.length) ++ [(zp, x2)] ++ C6.drop (L0.length) := by rw [HC6.out, List.take_left' rfl, List.drop_left' rfl]; exact HT6.out
                      have hsc : (scells C6).take ((L0.length) * 2) ++ [.int .u32 (zp), .int .u32 (x2)] ++ (scells C6).drop ((L0.length) * 2) = scells T := by
                        rw [← scells_take, ← scells_drop, hd, scells_app, scells_app]; rfl
                      rw [hsc] at ho
                      rw [hl] at ho hfo ⊢
                      rw [← HTA.out]
                      refine ⟨by rw [HC.out]; rfl, SetAt.put (F := fun g => F g ∨ w.heap.size ≤ g) (S0 := C6) R7.out (.inl AI6.out.s.m) HGA.out ho (fun g hg => ?_), ?_⟩
                      · rcases hfo g hg with h1 | h1
                        · exact .inl (G3.out g h1)
                        · right; have := AI6.out.k.size; simp at h1; omega
                      · exact Kept.setCell (F := F) (Kept.trans' (F := F) ((AI6.out.k.alloc _).drew) HK7.out (fun i hi => Or.inl (G3.out i hi))) (Or.inl AI6.out.s.m) _
                    · go_simp
                      try dsimp only []
                      refine hK.out _ _ (by exact ⟨k1, k2⟩) (fun hHeld => ?_)
                      clear hK K
                      try simp only [Act.put, List.setIfInBounds_toArray, List.set_cons_zero, List.set_cons_succ]
                      refine wpAnyH_ready (rs := [4]) (by kernel_rfl) (by simp) ?_
                      refine AllReadyH.cons rfl (fun K hK => ?_) AllReadyH.nil
                      go_simp
                      try dsimp only []
                      refine hK.out _ _ (by exact ⟨k1, k2⟩) (fun hHeld => ?_)
                      clear hK K
                      try simp only [Act.put, List.setIfInBounds_toArray, List.set_cons_zero, List.set_cons_succ]
                      refine wpAnyH_ready (rs := [8]) (by kernel_rfl) (by simp) ?_
                      refine AllReadyH.cons rfl (fun K hK => ?_) AllReadyH.nil
                      go_simp
                      refine (ins_any (by exact OW.out) (scells_one _) (L0.length) (by exact HIL.out) (own_two (w := W6) _ _).drew (by simp [Value.oneCell']) (fun g hg e => by have h1 := HF.out _ (G3.out _ e); have h2 := AI6.out.k.size; simp [Value.ownBlock] at hg; omega) (by omega)).mono ?_
                      rintro e w7 ⟨a7, c7, rfl, ho7, hk7, hf7⟩
                      have r7 := (hk7.block sb (row_lt RW.out) (OW.out.ne_block RW.out (by decide))).trans RW.out
                      have x7 := (hk7.block xb (row_lt XW.out) (fun e => by have h1 := HF.out _ (G3.out _ e); have h2 := AI6.out.n; omega)).trans XW.out
                      obtain ⟨e0, e1, _⟩ := cell2 x7
                      try dsimp only []
                      refine hK.out _ _ (by exact ⟨e0, e1⟩) (fun hHeld => ?_)
                      clear hK K
                      try simp only [Act.put, List.setIfInBounds_toArray, List.set_cons_zero, List.set_cons_succ]
                      refine wpAnyH_at 9 (some 154) (v := ?v26209) (by decide) rfl (by kernel_rfl) (by kernel_rfl) (by kernel_rfl) (fun _ _ _ h => h) (Or.inl ⟨by rfl, ?y26209⟩) (by assumption) ?r26209
                      case y26209 => (intro w hSw; (try dsimp only at hSw); go_simp; (try with_reducible rfl))
                      simp only [Act.put, List.setIfInBounds_toArray, List.set_cons_zero, List.set_cons_succ]
                      refine wpAnyH_at 10 (some 155) (v := ?v26210) (by decide) rfl (by kernel_rfl) (by kernel_rfl) (by kernel_rfl) (fun _ _ _ h => h) (Or.inl ⟨by rfl, ?y26210⟩) (by assumption) ?r26210
                      case y26210 => (intro w hSw; (try dsimp only at hSw); go_simp; (try with_reducible rfl))
                      simp only [Act.put, List.setIfInBounds_toArray, List.set_cons_zero, List.set_cons_succ]
                      have c7' : w7.cell? ⟨sb, 0, none⟩ = some (.slice ao6 C6.length cap6) := by have := row_cell r7 0; simpa using this
                      have f7' := row_free r7 0
                      refine wpAnyH_ready (rs := [11]) (by kernel_rfl) (by simp) ?_
                      refine AllReadyH.cons rfl (fun K hK => ?_) AllReadyH.nil
                      go_simp
                      try dsimp only []
                      refine hK.out _ _ (by exact ⟨(cell2 (((Kept.refl (fun k => k = sb) w7).setCell (.inl rfl) _).block xb (row_lt x7) n2 |>.trans x7)).1, (cell2 (((Kept.refl (fun k => k = sb) w7).setCell (.inl rfl) _).block xb (row_lt x7) n2 |>.trans x7)).2.1⟩) (fun hHeld => ?_)
                      clear hK K
                      try simp only [Act.put, List.setIfInBounds_toArray, List.set_cons_zero, List.set_cons_succ]
                      refine wpAnyH_done (by kernel_rfl) ?_ _
                      have R7 := hid r7; have HO7 := hid ho7; have HK7 := hid hk7; have HF7 := hid hf7
                      clear hHeld c7' f7' r7 ho7 hk7 hf7 x7 e0 e1
                      go_wp2
                      go_ret
                      have ho := HO7.out
                      have hfo := HF7.out
                      have hl : C6.length + 1 = T.length := by rw [HT6.out, HC6.out]; simp; omega
                      have hd : T = C6.take (L0.length) ++ [(zp, x2)] ++ C6.drop (L0.length) := by rw [HC6.out, List.take_left' rfl, List.drop_left' rfl]; exact HT6.out
                      have hsc : (scells C6).take ((L0.length) * 2) ++ [.int .u32 (zp), .int .u32 (x2)] ++ (scells C6).drop ((L0.length) * 2) = scells T := by
                        rw [← scells_take, ← scells_drop, hd, scells_app, scells_app]; rfl
                      rw [hsc] at ho
                      rw [hl] at ho hfo ⊢
                      rw [← HTA.out]
                      refine ⟨by rw [HC.out]; rfl, SetAt.put (F := fun g => F g ∨ w.heap.size ≤ g) (S0 := C6) R7.out (.inl AI6.out.s.m) HGA.out ho (fun g hg => ?_), ?_⟩
                      · rcases hfo g hg with h1 | h1
                        · exact .inl (G3.out g h1)
                        · right; have := AI6.out.k.size; simp at h1; omega
                      · exact Kept.setCell (F := F) (Kept.trans' (F := F) ((AI6.out.k.alloc _).drew) HK7.out (fun i hi => Or.inl (G3.out i hi))) (Or.inl AI6.out.s.m) _
                  · have hzx1 : (zq == x1 - 1) = false := by simpa using hz
                    have ht : T = L ++ [(x1, x2)] ++ R := by rw [HT5.out]; simp [leftL, leftX, HL.out, hz]
                    have HT6 := hid ht; have HC6 := HC5
                    clear ht
                    refine wp_region_held_drew (S := fun w' => w'.cell? ⟨sb, 0, none⟩ = some (.slice (some ⟨g, 0, none⟩) C5.length cap5) ∧ w'.cell? ⟨xb, 0, none⟩ = some (.int .u32 x1) ∧ w'.cell? ⟨g, L0.length * 2 + 1, none⟩ = some (.int .u32 zq)) (by kernel_rfl) (by exact ⟨c0, d0, y1⟩) (fun hHeld => ?_)
                    refine wpAnyH_at 0 (some 100) (v := ?v2400) (by decide) rfl (by kernel_rfl) (by kernel_rfl) (by kernel_rfl) (fun _ _ _ h => h) (Or.inl ⟨by rfl, ?y2400⟩) (by assumption) ?r2400
                    case y2400 => (intro w hSw; (try dsimp only at hSw); go_simp; (try with_reducible rfl))
                    simp only [Act.put, List.setIfInBounds_toArray, List.set_cons_zero, List.set_cons_succ]
                    refine wpAnyH_at 1 (some 101) (v := ?v2401) (by decide) rfl (by kernel_rfl) (by kernel_rfl) (by kernel_rfl) (fun _ _ _ h => h) (Or.inl ⟨by rfl, ?y2401⟩) (by assumption) ?r2401
                    case y2401 => (intro w hSw; (try dsimp only at hSw); go_simp; (try with_reducible rfl))
                    simp only [Act.put, List.setIfInBounds_toArray, List.set_cons_zero, List.set_cons_succ]
                    refine wpAnyH_at 2 (some 102) (v := ?v2402) (by decide) rfl (by kernel_rfl) (by kernel_rfl) (by kernel_rfl) (fun _ _ _ h => h) (Or.inl ⟨by rfl, ?y2402⟩) (by assumption) ?r2402
                    case y2402 => (intro w hSw; (try dsimp only at hSw); go_simp; (try with_reducible rfl))
                    simp only [Act.put, List.setIfInBounds_toArray, List.set_cons_zero, List.set_cons_succ]
                    refine wpAnyH_at 3 (some 103) (v := ?v2403) (by decide) rfl (by kernel_rfl) (by kernel_rfl) (by kernel_rfl) (fun _ _ _ h => h) (Or.inl ⟨by rfl, ?y2403⟩) (by assumption) ?r2403
                    case y2403 => (intro w hSw; (try dsimp only at hSw); go_simp; (try with_reducible rfl))
                    simp only [Act.put, List.setIfInBounds_toArray, List.set_cons_zero, List.set_cons_succ]
                    refine wpAnyH_at 4 (some 104) (v := ?v2404) (by decide) rfl (by kernel_rfl) (by kernel_rfl) (by kernel_rfl) (fun _ _ _ h => h) (Or.inl ⟨by rfl, ?y2404⟩) (by assumption) ?r2404
                    case y2404 => (intro w hSw; (try dsimp only at hSw); go_simp; (try with_reducible rfl))
                    simp only [Act.put, List.setIfInBounds_toArray, List.set_cons_zero, List.set_cons_succ]
                    refine wpAnyH_at 5 (some 105) (v := ?v2405) (by decide) rfl (by kernel_rfl) (by kernel_rfl) (by kernel_rfl) (fun _ _ _ h => h) (Or.inl ⟨by rfl, ?y2405⟩) (by assumption) ?r2405
                    case y2405 => (intro w hSw; (try dsimp only at hSw); go_simp; (try with_reducible rfl))
                    simp only [Act.put, List.setIfInBounds_toArray, List.set_cons_zero, List.set_cons_succ]
                    refine wpAnyH_at 6 (some 106) (v := ?v2406) (by decide) rfl (by kernel_rfl) (by kernel_rfl) (by kernel_rfl) (fun _ _ _ h => h) (Or.inl ⟨by rfl, ?y2406⟩) (by assumption) ?r2406
                    case y2406 => (intro w hSw; (try dsimp only at hSw); go_simp; (try with_reducible rfl))
                    simp only [Act.put, List.setIfInBounds_toArray, List.set_cons_zero, List.set_cons_succ]
                    refine wpAnyH_at 7 (some 107) (v := ?v2407) (by decide) rfl (by kernel_rfl) (by kernel_rfl) (by kernel_rfl) (fun _ _ _ h => h) (Or.inl ⟨by rfl, ?y2407⟩) (by assumption) ?r2407
                    case y2407 => (intro w hSw; (try dsimp only at hSw); go_simp; (try with_reducible rfl))
                    simp only [Act.put, List.setIfInBounds_toArray, List.set_cons_zero, List.set_cons_succ]
                    refine wpAnyH_at 8 (some 108) (v := ?v2408) (by decide) rfl (by kernel_rfl) (by kernel_rfl) (by kernel_rfl) (fun _ _ _ h => h) (Or.inl ⟨by rfl, ?y2408⟩) (by assumption) ?r2408
                    case y2408 => (intro w hSw; (try dsimp only at hSw); go_simp; (try with_reducible rfl))
                    simp only [Act.put, List.setIfInBounds_toArray, List.set_cons_zero, List.set_cons_succ]
                    refine wpAnyH_at 9 (some 109) (v := ?v2409) (by decide) rfl (by kernel_rfl) (by kernel_rfl) (by kernel_rfl) (fun _ _ _ h => h) (Or.inl ⟨by rfl, ?y2409⟩) (by assumption) ?r2409
                    case y2409 => (intro w hSw; (try dsimp only at hSw); go_simp; (try with_reducible rfl))
                    simp only [Act.put, List.setIfInBounds_toArray, List.set_cons_zero, List.set_cons_succ]
                    refine wpAnyH_at 10 (some 110) (v := ?v2410) (by decide) rfl (by kernel_rfl) (by kernel_rfl) (by kernel_rfl) (fun _ _ _ h => h) (Or.inl ⟨by rfl, ?y2410⟩) (by assumption) ?r2410
                    case y2410 => (intro w hSw; (try dsimp only at hSw); go_simp; (try with_reducible rfl))
                    simp only [Act.put, List.setIfInBounds_toArray, List.set_cons_zero, List.set_cons_succ]
                    refine wpAnyH_at 11 (some 111) (v := ?v2411) (by decide) rfl (by kernel_rfl) (by kernel_rfl) (by kernel_rfl) (fun _ _ _ h => h) (Or.inl ⟨by rfl, ?y2411⟩) (by assumption) ?r2411
                    case y2411 => (intro w hSw; (try dsimp only at hSw); go_simp; (try with_reducible rfl))
                    simp only [Act.put, List.setIfInBounds_toArray, List.set_cons_zero, List.set_cons_succ]
                    refine wpAnyH_at 12 (some 112) (v := ?v2412) (by decide) rfl (by kernel_rfl) (by kernel_rfl) (by kernel_rfl) (fun _ _ _ h => h) (Or.inl ⟨by rfl, ?y2412⟩) (by assumption) ?r2412
                    case y2412 => (intro w hSw; (try dsimp only at hSw); go_simp; (try with_reducible rfl))
                    simp only [Act.put, List.setIfInBounds_toArray, List.set_cons_zero, List.set_cons_succ]
                    refine wpAnyH_at 13 (some 113) (v := ?v2413) (by decide) rfl (by kernel_rfl) (by kernel_rfl) (by kernel_rfl) (fun _ _ _ h => h) (Or.inl ⟨by rfl, ?y2413⟩) (by assumption) ?r2413
                    case y2413 => (intro w hSw; (try dsimp only at hSw); go_simp; (try with_reducible rfl))
                    simp only [Act.put, List.setIfInBounds_toArray, List.set_cons_zero, List.set_cons_succ]
                    refine wpAnyH_at 14 (some 114) (v := ?v2414) (by decide) rfl (by kernel_rfl) (by kernel_rfl) (by kernel_rfl) (fun _ _ _ h => h) (Or.inl ⟨by rfl, ?y2414⟩) (by assumption) ?r2414
                    case y2414 => (intro w hSw; (try dsimp only at hSw); go_simp; (try with_reducible rfl))
                    simp only [Act.put, List.setIfInBounds_toArray, List.set_cons_zero, List.set_cons_succ]
                    refine wpAnyH_at 15 (some 115) (v := ?v2415) (by decide) rfl (by kernel_rfl) (by kernel_rfl) (by kernel_rfl) (fun _ _ _ h => h) (Or.inl ⟨by rfl, ?y2415⟩) (by assumption) ?r2415
                    case y2415 => (intro w hSw; (try dsimp only at hSw); go_simp; (try with_reducible rfl))
                    simp only [Act.put, List.setIfInBounds_toArray, List.set_cons_zero, List.set_cons_succ]
                    refine wpAnyH_at 16 (some 116) (v := ?v2416) (by decide) rfl (by kernel_rfl) (by kernel_rfl) (by kernel_rfl) (fun _ _ _ h => h) (Or.inl ⟨by rfl, ?y2416⟩) (by assumption) ?r2416
                    case y2416 => (intro w hSw; (try dsimp only at hSw); go_simp; (try with_reducible rfl))
                    simp only [Act.put, List.setIfInBounds_toArray, List.set_cons_zero, List.set_cons_succ]
                    refine wpAnyH_at 17 (some 117) (v := ?v2417) (by decide) rfl (by kernel_rfl) (by kernel_rfl) (by kernel_rfl) (fun _ _ _ h => h) (Or.inl ⟨by rfl, ?y2417⟩) (by assumption) ?r2417
                    case y2417 => (intro w hSw; (try dsimp only at hSw); go_simp; (try with_reducible rfl))
                    simp only [Act.put, List.setIfInBounds_toArray, List.set_cons_zero, List.set_cons_succ]
                    refine wpAnyH_at 18 (some 118) (v := ?v2418) (by decide) rfl (by kernel_rfl) (by kernel_rfl) (by kernel_rfl) (fun _ _ _ h => h) (Or.inl ⟨by rfl, ?y2418⟩) (by assumption) ?r2418
                    case y2418 => (intro w hSw; (try dsimp only at hSw); go_simp; (try with_reducible rfl))
                    simp only [Act.put, List.setIfInBounds_toArray, List.set_cons_zero, List.set_cons_succ]
                    refine wpAnyH_at 19 (some 119) (v := ?v2419) (by decide) rfl (by kernel_rfl) (by kernel_rfl) (by kernel_rfl) (fun _ _ _ h => h) (Or.inl ⟨by rfl, ?y2419⟩) (by assumption) ?r2419
                    case y2419 => (intro w hSw; (try dsimp only at hSw); go_simp; (try with_reducible rfl))
                    simp only [Act.put, List.setIfInBounds_toArray, List.set_cons_zero, List.set_cons_succ]
                    refine wpAnyH_at 20 (some 120) (v := ?v2420) (by decide) rfl (by kernel_rfl) (by kernel_rfl) (by kernel_rfl) (fun _ _ _ h => h) (Or.inl ⟨by rfl, ?y2420⟩) (by assumption) ?r2420
                    case y2420 => (intro w hSw; (try dsimp only at hSw); go_simp; (try with_reducible rfl))
                    simp only [Act.put, List.setIfInBounds_toArray, List.set_cons_zero, List.set_cons_succ]
                    refine wpAnyH_at 21 (some 121) (v := ?v2421) (by decide) rfl (by kernel_rfl) (by kernel_rfl) (by kernel_rfl) (fun _ _ _ h => h) (Or.inl ⟨by rfl, ?y2421⟩) (by assumption) ?r2421
                    case y2421 => (intro w hSw; (try dsimp only at hSw); go_simp; (try with_reducible rfl))
                    simp only [Act.put, List.setIfInBounds_toArray, List.set_cons_zero, List.set_cons_succ]
                    refine wpAnyH_done (by kernel_rfl) ?_ _
                    clear hHeld
                    have AI6 := hid HA5.out.drew
                    go_wp2_with fail
                    clear c0 cf d0 d1 df n1 n2 y0 y1 G1 G2 G3
                    generalize W5.drew = W6 at AI6 ⊢
                    obtain ⟨ao6, cap6, g1, g2, g3, c0, cf, d0, d1, df, n1, n2, hCn⟩ := AI6.out.facts HF.out
                    have G3 := hid g3
                    have OW := hid (show Own ((W6.alloc (.cells #[.int .u32 (x1), .int .u32 (x2)] 46)).drew) 46 2 _ _ _ from (g2.alloc _).drew)
                    have RW := hid (row_old (w := W6) g1 (.cells #[.int .u32 (x1), .int .u32 (x2)] 46))
                    have XW := hid (row_old (w := W6) AI6.out.x (.cells #[.int .u32 (x1), .int .u32 (x2)] 46))
                    have HIL := hid (show L.length ≤ C5.length by rw [HC6.out]; simp)
                    have k0 : (W6.alloc (.cells #[.int .u32 (x1), .int .u32 (x2)] 46)).cell? ⟨sb, 0, none⟩ = some (.slice ao6 C5.length cap6) := by have := row_cell RW.out 0; simpa using this
                    obtain ⟨k1, k2, _⟩ := cell2 XW.out
                    clear g1 g2 g3
                    refine wp_region_held_drew (S := fun w' => w'.cell? ⟨xb, 0, none⟩ = some (.int .u32 (x1)) ∧ w'.cell? ⟨xb, 1, none⟩ = some (.int .u32 (x2))) (by kernel_rfl) (by exact ⟨d0, d1⟩) (fun hHeld => ?_)
                    refine wpAnyH_at 0 (some 145) (v := ?v2500) (by decide) rfl (by kernel_rfl) (by kernel_rfl) (by kernel_rfl) (fun _ _ _ h => h) (Or.inl ⟨by rfl, ?y2500⟩) (by assumption) ?r2500
                    case y2500 => (intro w hSw; (try dsimp only at hSw); go_simp; (try with_reducible rfl))
                    simp only [Act.put, List.setIfInBounds_toArray, List.set_cons_zero, List.set_cons_succ]
                    refine wpAnyH_at 1 (some 146) (v := ?v2501) (by decide) rfl (by kernel_rfl) (by kernel_rfl) (by kernel_rfl) (fun _ _ _ h => h) (Or.inl ⟨by rfl, ?y2501⟩) (by assumption) ?r2501
                    case y2501 => (intro w hSw; (try dsimp only at hSw); go_simp; (try with_reducible rfl))
                    simp only [Act.put, List.setIfInBounds_toArray, List.set_cons_zero, List.set_cons_succ]
                    refine wpAnyH_at 2 (some 147) (v := ?v2502) (by decide) rfl (by kernel_rfl) (by kernel_rfl) (by kernel_rfl) (fun _ _ _ h => h) (Or.inl ⟨by rfl, ?y2502⟩) (by assumption) ?r2502
                    case y2502 => (intro w hSw; (try dsimp only at hSw); go_simp; (try with_reducible rfl))
                    simp only [Act.put, List.setIfInBounds_toArray, List.set_cons_zero, List.set_cons_succ]
                    refine wpAnyH_at 3 (some 148) (v := ?v2503) (by decide) rfl (by kernel_rfl) (by kernel_rfl) (by kernel_rfl) (fun _ _ _ h => h) (Or.inl ⟨by rfl, ?y2503⟩) (by assumption) ?r2503
                    case y2503 => (intro w hSw; (try dsimp only at hSw); go_simp; (try with_reducible rfl))
                    simp only [Act.put, List.setIfInBounds_toArray, List.set_cons_zero, List.set_cons_succ]
                    refine wpAnyH_at 5 (some 150) (v := ?v2505) (by decide) rfl (by kernel_rfl) (by kernel_rfl) (by kernel_rfl) (fun _ _ _ h => h) (Or.inl ⟨by rfl, ?y2505⟩) (by assumption) ?r2505
                    case y2505 => (intro w hSw; (try dsimp only at hSw); go_simp; (try with_reducible rfl))
                    simp only [Act.put, List.setIfInBounds_toArray, List.set_cons_zero, List.set_cons_succ]
                    refine wpAnyH_at 6 (some 151) (v := ?v2506) (by decide) rfl (by kernel_rfl) (by kernel_rfl) (by kernel_rfl) (fun _ _ _ h => h) (Or.inl ⟨by rfl, ?y2506⟩) (by assumption) ?r2506
                    case y2506 => (intro w hSw; (try dsimp only at hSw); go_simp; (try with_reducible rfl))
                    simp only [Act.put, List.setIfInBounds_toArray, List.set_cons_zero, List.set_cons_succ]
                    refine wpAnyH_ready (rs := [4, 7]) (by kernel_rfl) (by simp) ?_
                    refine AllReadyH.cons rfl (fun K hK => ?_) (AllReadyH.cons rfl (fun K hK => ?_) AllReadyH.nil)
                    · go_simp
                      try dsimp only []
                      refine hK.out _ _ (by exact ⟨d0, d1⟩) (fun hHeld => ?_)
                      clear hK K
                      try simp only [Act.put, List.setIfInBounds_toArray, List.set_cons_zero, List.set_cons_succ]
                      refine wpAnyH_ready (rs := [7]) (by kernel_rfl) (by simp) ?_
                      refine AllReadyH.cons rfl (fun K hK => ?_) AllReadyH.nil
                      go_simp
                      try dsimp only []
                      refine hK.out _ _ (by exact ⟨k1, k2⟩) (fun hHeld => ?_)
                      clear hK K
                      try simp only [Act.put, List.setIfInBounds_toArray, List.set_cons_zero, List.set_cons_succ]
                      refine wpAnyH_ready (rs := [8]) (by kernel_rfl) (by simp) ?_
                      refine AllReadyH.cons rfl (fun K hK => ?_) AllReadyH.nil
                      go_simp
                      refine (ins_any (by exact OW.out) (scells_one _) (L.length) (by exact HIL.out) (own_two (w := W6) _ _).drew (by simp [Value.oneCell']) (fun g hg e => by have h1 := HF.out _ (G3.out _ e); have h2 := AI6.out.k.size; simp [Value.ownBlock] at hg; omega) (by omega)).mono ?_
                      rintro e w7 ⟨a7, c7, rfl, ho7, hk7, hf7⟩
                      have r7 := (hk7.block sb (row_lt RW.out) (OW.out.ne_block RW.out (by decide))).trans RW.out
                      have x7 := (hk7.block xb (row_lt XW.out) (fun e => by have h1 := HF.out _ (G3.out _ e); have h2 := AI6.out.n; omega)).trans XW.out
                      obtain ⟨e0, e1, _⟩ := cell2 x7
                      try dsimp only []
                      refine hK.out _ _ (by exact ⟨e0, e1⟩) (fun hHeld => ?_)
                      clear hK K
                      try simp only [Act.put, List.setIfInBounds_toArray, List.set_cons_zero, List.set_cons_succ]
                      refine wpAnyH_at 9 (some 154) (v := ?v25109) (by decide) rfl (by kernel_rfl) (by kernel_rfl) (by kernel_rfl) (fun _ _ _ h => h) (Or.inl ⟨by rfl, ?y25109⟩) (by assumption) ?r25109
                      case y25109 => (intro w hSw; (try dsimp only at hSw); go_simp; (try with_reducible rfl))
                      simp only [Act.put, List.setIfInBounds_toArray, List.set_cons_zero, List.set_cons_succ]
                      refine wpAnyH_at 10 (some 155) (v := ?v25110) (by decide) rfl (by kernel_rfl) (by kernel_rfl) (by kernel_rfl) (fun _ _ _ h => h) (Or.inl ⟨by rfl, ?y25110⟩) (by assumption) ?r25110
                      case y25110 => (intro w hSw; (try dsimp only at hSw); go_simp; (try with_reducible rfl))
                      simp only [Act.put, List.setIfInBounds_toArray, List.set_cons_zero, List.set_cons_succ]
                      have c7' : w7.cell? ⟨sb, 0, none⟩ = some (.slice ao6 C5.length cap6) := by have := row_cell r7 0; simpa using this
                      have f7' := row_free r7 0
                      refine wpAnyH_ready (rs := [11]) (by kernel_rfl) (by simp) ?_
                      refine AllReadyH.cons rfl (fun K hK => ?_) AllReadyH.nil
                      go_simp
                      try dsimp only []
                      refine hK.out _ _ (by exact ⟨(cell2 (((Kept.refl (fun k => k = sb) w7).setCell (.inl rfl) _).block xb (row_lt x7) n2 |>.trans x7)).1, (cell2 (((Kept.refl (fun k => k = sb) w7).setCell (.inl rfl) _).block xb (row_lt x7) n2 |>.trans x7)).2.1⟩) (fun hHeld => ?_)
                      clear hK K
                      try simp only [Act.put, List.setIfInBounds_toArray, List.set_cons_zero, List.set_cons_succ]
                      refine wpAnyH_done (by kernel_rfl) ?_ _
                      have R7 := hid r7; have HO7 := hid ho7; have HK7 := hid hk7; have HF7 := hid hf7
                      clear hHeld c7' f7' r7 ho7 hk7 hf7 x7 e0 e1
                      go_wp2
                      go_ret
                      have ho := HO7.out
                      have hfo := HF7.out
                      have hl : C5.length + 1 = T.length := by rw [HT6.out, HC6.out]; simp; omega
                      have hd : T = C5.take (L.length) ++ [(x1, x2)] ++ C5.drop (L.length) := by rw [HC6.out, List.take_left' rfl, List.drop_left' rfl]; exact HT6.out
                      have hsc : (scells C5).take ((L.length) * 2) ++ [.int .u32 (x1), .int .u32 (x2)] ++ (scells C5).drop ((L.length) * 2) = scells T := by
                        rw [← scells_take, ← scells_drop, hd, scells_app, scells_app]; rfl
                      rw [hsc] at ho
                      rw [hl] at ho hfo ⊢
                      rw [← HTA.out]
                      refine ⟨by rw [HC.out]; rfl, SetAt.put (F := fun g => F g ∨ w.heap.size ≤ g) (S0 := C5) R7.out (.inl AI6.out.s.m) HGA.out ho (fun g hg => ?_), ?_⟩
                      · rcases hfo g hg with h1 | h1
                        · exact .inl (G3.out g h1)
                        · right; have := AI6.out.k.size; simp at h1; omega
                      · exact Kept.setCell (F := F) (Kept.trans' (F := F) ((AI6.out.k.alloc _).drew) HK7.out (fun i hi => Or.inl (G3.out i hi))) (Or.inl AI6.out.s.m) _
                    · go_simp
                      try dsimp only []
                      refine hK.out _ _ (by exact ⟨k1, k2⟩) (fun hHeld => ?_)
                      clear hK K
                      try simp only [Act.put, List.setIfInBounds_toArray, List.set_cons_zero, List.set_cons_succ]
                      refine wpAnyH_ready (rs := [4]) (by kernel_rfl) (by simp) ?_
                      refine AllReadyH.cons rfl (fun K hK => ?_) AllReadyH.nil
                      go_simp
                      try dsimp only []
                      refine hK.out _ _ (by exact ⟨k1, k2⟩) (fun hHeld => ?_)
                      clear hK K
                      try simp only [Act.put, List.setIfInBounds_toArray, List.set_cons_zero, List.set_cons_succ]
                      refine wpAnyH_ready (rs := [8]) (by kernel_rfl) (by simp) ?_
                      refine AllReadyH.cons rfl (fun K hK => ?_) AllReadyH.nil
                      go_simp
                      refine (ins_any (by exact OW.out) (scells_one _) (L.length) (by exact HIL.out) (own_two (w := W6) _ _).drew (by simp [Value.oneCell']) (fun g hg e => by have h1 := HF.out _ (G3.out _ e); have h2 := AI6.out.k.size; simp [Value.ownBlock] at hg; omega) (by omega)).mono ?_
                      rintro e w7 ⟨a7, c7, rfl, ho7, hk7, hf7⟩
                      have r7 := (hk7.block sb (row_lt RW.out) (OW.out.ne_block RW.out (by decide))).trans RW.out
                      have x7 := (hk7.block xb (row_lt XW.out) (fun e => by have h1 := HF.out _ (G3.out _ e); have h2 := AI6.out.n; omega)).trans XW.out
                      obtain ⟨e0, e1, _⟩ := cell2 x7
                      try dsimp only []
                      refine hK.out _ _ (by exact ⟨e0, e1⟩) (fun hHeld => ?_)
                      clear hK K
                      try simp only [Act.put, List.setIfInBounds_toArray, List.set_cons_zero, List.set_cons_succ]
                      refine wpAnyH_at 9 (some 154) (v := ?v25209) (by decide) rfl (by kernel_rfl) (by kernel_rfl) (by kernel_rfl) (fun _ _ _ h => h) (Or.inl ⟨by rfl, ?y25209⟩) (by assumption) ?r25209
                      case y25209 => (intro w hSw; (try dsimp only at hSw); go_simp; (try with_reducible rfl))
                      simp only [Act.put, List.setIfInBounds_toArray, List.set_cons_zero, List.set_cons_succ]
                      refine wpAnyH_at 10 (some 155) (v := ?v25210) (by decide) rfl (by kernel_rfl) (by kernel_rfl) (by kernel_rfl) (fun _ _ _ h => h) (Or.inl ⟨by rfl, ?y25210⟩) (by assumption) ?r25210
                      case y25210 => (intro w hSw; (try dsimp only at hSw); go_simp; (try with_reducible rfl))
                      simp only [Act.put, List.setIfInBounds_toArray, List.set_cons_zero, List.set_cons_succ]
                      have c7' : w7.cell? ⟨sb, 0, none⟩ = some (.slice ao6 C5.length cap6) := by have := row_cell r7 0; simpa using this
                      have f7' := row_free r7 0
                      refine wpAnyH_ready (rs := [11]) (by kernel_rfl) (by simp) ?_
                      refine AllReadyH.cons rfl (fun K hK => ?_) AllReadyH.nil
                      go_simp
                      try dsimp only []
                      refine hK.out _ _ (by exact ⟨(cell2 (((Kept.refl (fun k => k = sb) w7).setCell (.inl rfl) _).block xb (row_lt x7) n2 |>.trans x7)).1, (cell2 (((Kept.refl (fun k => k = sb) w7).setCell (.inl rfl) _).block xb (row_lt x7) n2 |>.trans x7)).2.1⟩) (fun hHeld => ?_)
                      clear hK K
                      try simp only [Act.put, List.setIfInBounds_toArray, List.set_cons_zero, List.set_cons_succ]
                      refine wpAnyH_done (by kernel_rfl) ?_ _
                      have R7 := hid r7; have HO7 := hid ho7; have HK7 := hid hk7; have HF7 := hid hf7
                      clear hHeld c7' f7' r7 ho7 hk7 hf7 x7 e0 e1
                      go_wp2
                      go_ret
                      have ho := HO7.out
                      have hfo := HF7.out
                      have hl : C5.length + 1 = T.length := by rw [HT6.out, HC6.out]; simp; omega
                      have hd : T = C5.take (L.length) ++ [(x1, x2)] ++ C5.drop (L.length) := by rw [HC6.out, List.take_left' rfl, List.drop_left' rfl]; exact HT6.out
                      have hsc : (scells C5).take ((L.length) * 2) ++ [.int .u32 (x1), .int .u32 (x2)] ++ (scells C5).drop ((L.length) * 2) = scells T := by
                        rw [← scells_take, ← scells_drop, hd, scells_app, scells_app]; rfl
                      rw [hsc] at ho
                      rw [hl] at ho hfo ⊢
                      rw [← HTA.out]
                      refine ⟨by rw [HC.out]; rfl, SetAt.put (F := fun g => F g ∨ w.heap.size ≤ g) (S0 := C5) R7.out (.inl AI6.out.s.m) HGA.out ho (fun g hg => ?_), ?_⟩
                      · rcases hfo g hg with h1 | h1
                        · exact .inl (G3.out g h1)
                        · right; have := AI6.out.k.size; simp at h1; omega
                      · exact Kept.setCell (F := F) (Kept.trans' (F := F) ((AI6.out.k.alloc _).drew) HK7.out (fun i hi => Or.inl (G3.out i hi))) (Or.inl AI6.out.s.m) _
            · have hqi : ¬ ((L.length : Int) < (C.length : Int)) := by omega
              have HCl := hid hCl; have HLl := hid hLl
              have hR : R = [] := List.eq_nil_of_length_eq_zero (by omega)
              have ht5 : T = leftL L x1 ++ [(leftX L x1, x2)] ++ R := by rw [HT.out, hR]; rfl
              have HT5 := hid ht5; have HM5 := HM
              clear hCl hLl HT HM ht5 hR
              refine wp_region_held_drew (S := fun w' => w'.cell? ⟨sb, 0, none⟩ = some (.slice ao C.length cap)) (by kernel_rfl) (by exact c0) (fun hHeld => ?_)
              refine wpAnyH_at 0 (some 54) (v := ?v300) (by decide) rfl (by kernel_rfl) (by kernel_rfl) (by kernel_rfl) (fun _ _ _ h => h) (Or.inl ⟨by rfl, ?y300⟩) (by assumption) ?r300
              case y300 => (intro w hSw; (try dsimp only at hSw); go_simp; (try with_reducible rfl))
              simp only [Act.put, List.setIfInBounds_toArray, List.set_cons_zero, List.set_cons_succ]
              refine wpAnyH_at 1 (some 55) (v := ?v31) (by decide) rfl (by kernel_rfl) (by kernel_rfl) (by kernel_rfl) (fun _ _ _ h => h) (Or.inl ⟨by rfl, ?y31⟩) (by assumption) ?r31
              case y31 => (intro w hSw; (try dsimp only at hSw); go_simp; (try with_reducible rfl))
              simp only [Act.put, List.setIfInBounds_toArray, List.set_cons_zero, List.set_cons_succ]
              refine wpAnyH_at 2 (some 56) (v := ?v32) (by decide) rfl (by kernel_rfl) (by kernel_rfl) (by kernel_rfl) (fun _ _ _ h => h) (Or.inl ⟨by rfl, ?y32⟩) (by assumption) ?r32
              case y32 => (intro w hSw; (try dsimp only at hSw); go_simp; (try with_reducible rfl))
              simp only [Act.put, List.setIfInBounds_toArray, List.set_cons_zero, List.set_cons_succ]
              refine wpAnyH_at 3 (some 57) (v := ?v33) (by decide) rfl (by kernel_rfl) (by kernel_rfl) (by kernel_rfl) (fun _ _ _ h => h) (Or.inl ⟨by rfl, ?y33⟩) (by assumption) ?r33
              case y33 => (intro w hSw; (try dsimp only at hSw); go_simp; (try with_reducible rfl))
              simp only [Act.put, List.setIfInBounds_toArray, List.set_cons_zero, List.set_cons_succ]
              refine wpAnyH_at 4 (some 58) (v := ?v34) (by decide) rfl (by kernel_rfl) (by kernel_rfl) (by kernel_rfl) (fun _ _ _ h => h) (Or.inl ⟨by rfl, ?y34⟩) (by assumption) ?r34
              case y34 => (intro w hSw; (try dsimp only at hSw); go_simp; (try with_reducible rfl))
              simp only [Act.put, List.setIfInBounds_toArray, List.set_cons_zero, List.set_cons_succ]
              refine wpAnyH_at 5 (some 59) (v := ?v35) (by decide) rfl (by kernel_rfl) (by kernel_rfl) (by kernel_rfl) (fun _ _ _ h => h) (Or.inl ⟨by rfl, ?y35⟩) (by assumption) ?r35
              case y35 => (intro w hSw; (try dsimp only at hSw); go_simp; (try with_reducible rfl))
              simp only [Act.put, List.setIfInBounds_toArray, List.set_cons_zero, List.set_cons_succ]
              refine wpAnyH_at 6 (some 60) (v := ?v36) (by decide) rfl (by kernel_rfl) (by kernel_rfl) (by kernel_rfl) (fun _ _ _ h => h) (Or.inl ⟨by rfl, ?y36⟩) (by assumption) ?r36
              case y36 => (intro w hSw; (try dsimp only at hSw); go_simp; (try with_reducible rfl))
              simp only [Act.put, List.setIfInBounds_toArray, List.set_cons_zero, List.set_cons_succ]
              refine wpAnyH_at 7 (some 61) (v := ?v37) (by decide) rfl (by kernel_rfl) (by kernel_rfl) (by kernel_rfl) (fun _ _ _ h => h) (Or.inl ⟨by rfl, ?y37⟩) (by assumption) ?r37
              case y37 => (intro w hSw; (try dsimp only at hSw); go_simp; (try with_reducible rfl))
              simp only [Act.put, List.setIfInBounds_toArray, List.set_cons_zero, List.set_cons_succ]
              refine wpAnyH_at 8 (some 62) (v := undef) (by decide) rfl (by kernel_rfl) (by kernel_rfl) (by kernel_rfl) (fun _ _ _ h => h) (Or.inr ⟨by rfl, rfl⟩) (by assumption) ?_
              simp only [Act.put, List.setIfInBounds_toArray, List.set_cons_zero, List.set_cons_succ]
              refine wpAnyH_at 9 (some 63) (v := undef) (by decide) rfl (by kernel_rfl) (by kernel_rfl) (by kernel_rfl) (fun _ _ _ h => h) (Or.inr ⟨by rfl, rfl⟩) (by assumption) ?_
              simp only [Act.put, List.setIfInBounds_toArray, List.set_cons_zero, List.set_cons_succ]
              refine wpAnyH_at 10 (some 64) (v := undef) (by decide) rfl (by kernel_rfl) (by kernel_rfl) (by kernel_rfl) (fun _ _ _ h => h) (Or.inr ⟨by rfl, rfl⟩) (by assumption) ?_
              simp only [Act.put, List.setIfInBounds_toArray, List.set_cons_zero, List.set_cons_succ]
              refine wpAnyH_at 11 (some 65) (v := ?v311) (by decide) rfl (by kernel_rfl) (by kernel_rfl) (by kernel_rfl) (fun _ _ _ h => h) (Or.inl ⟨by rfl, ?y311⟩) (by assumption) ?r311
              case y311 => (intro w hSw; (try dsimp only at hSw); go_simp; (try with_reducible rfl))
              simp only [Act.put, List.setIfInBounds_toArray, List.set_cons_zero, List.set_cons_succ]
              refine wpAnyH_at 12 (some 66) (v := ?v312) (by decide) rfl (by kernel_rfl) (by kernel_rfl) (by kernel_rfl) (fun _ _ _ h => h) (Or.inl ⟨by rfl, ?y312⟩) (by assumption) ?r312
              case y312 => (intro w hSw; (try dsimp only at hSw); go_simp; (try with_reducible rfl))
              simp only [Act.put, List.setIfInBounds_toArray, List.set_cons_zero, List.set_cons_succ]
              refine wpAnyH_at 13 (some 67) (v := undef) (by decide) rfl (by kernel_rfl) (by kernel_rfl) (by kernel_rfl) (fun _ _ _ h => h) (Or.inr ⟨by rfl, rfl⟩) (by assumption) ?_
              simp only [Act.put, List.setIfInBounds_toArray, List.set_cons_zero, List.set_cons_succ]
              refine wpAnyH_at 14 (some 68) (v := undef) (by decide) rfl (by kernel_rfl) (by kernel_rfl) (by kernel_rfl) (fun _ _ _ h => h) (Or.inr ⟨by rfl, rfl⟩) (by assumption) ?_
              simp only [Act.put, List.setIfInBounds_toArray, List.set_cons_zero, List.set_cons_succ]
              refine wpAnyH_at 15 (some 69) (v := undef) (by decide) rfl (by kernel_rfl) (by kernel_rfl) (by kernel_rfl) (fun _ _ _ h => h) (Or.inr ⟨by rfl, rfl⟩) (by assumption) ?_
              simp only [Act.put, List.setIfInBounds_toArray, List.set_cons_zero, List.set_cons_succ]
              refine wpAnyH_at 16 (some 70) (v := undef) (by decide) rfl (by kernel_rfl) (by kernel_rfl) (by kernel_rfl) (fun _ _ _ h => h) (Or.inr ⟨by rfl, rfl⟩) (by assumption) ?_
              simp only [Act.put, List.setIfInBounds_toArray, List.set_cons_zero, List.set_cons_succ]
              refine wpAnyH_at 17 (some 71) (v := undef) (by decide) rfl (by kernel_rfl) (by kernel_rfl) (by kernel_rfl) (fun _ _ _ h => h) (Or.inr ⟨by rfl, rfl⟩) (by assumption) ?_
              simp only [Act.put, List.setIfInBounds_toArray, List.set_cons_zero, List.set_cons_succ]
              refine wpAnyH_at 18 (some 72) (v := undef) (by decide) rfl (by kernel_rfl) (by kernel_rfl) (by kernel_rfl) (fun _ _ _ h => h) (Or.inr ⟨by rfl, rfl⟩) (by assumption) ?_
              simp only [Act.put, List.setIfInBounds_toArray, List.set_cons_zero, List.set_cons_succ]
              refine wpAnyH_at 19 (some 73) (v := undef) (by decide) rfl (by kernel_rfl) (by kernel_rfl) (by kernel_rfl) (fun _ _ _ h => h) (Or.inr ⟨by rfl, rfl⟩) (by assumption) ?_
              simp only [Act.put, List.setIfInBounds_toArray, List.set_cons_zero, List.set_cons_succ]
              refine wpAnyH_at 20 (some 74) (v := undef) (by decide) rfl (by kernel_rfl) (by kernel_rfl) (by kernel_rfl) (fun _ _ _ h => h) (Or.inr ⟨by rfl, rfl⟩) (by assumption) ?_
              simp only [Act.put, List.setIfInBounds_toArray, List.set_cons_zero, List.set_cons_succ]
              refine wpAnyH_at 21 (some 75) (v := undef) (by decide) rfl (by kernel_rfl) (by kernel_rfl) (by kernel_rfl) (fun _ _ _ h => h) (Or.inr ⟨by rfl, rfl⟩) (by assumption) ?_
              simp only [Act.put, List.setIfInBounds_toArray, List.set_cons_zero, List.set_cons_succ]
              refine wpAnyH_at 22 (some 76) (v := undef) (by decide) rfl (by kernel_rfl) (by kernel_rfl) (by kernel_rfl) (fun _ _ _ h => h) (Or.inr ⟨by rfl, rfl⟩) (by assumption) ?_
              simp only [Act.put, List.setIfInBounds_toArray, List.set_cons_zero, List.set_cons_succ]
              refine wpAnyH_at 23 (some 77) (v := undef) (by decide) rfl (by kernel_rfl) (by kernel_rfl) (by kernel_rfl) (fun _ _ _ h => h) (Or.inr ⟨by rfl, rfl⟩) (by assumption) ?_
              simp only [Act.put, List.setIfInBounds_toArray, List.set_cons_zero, List.set_cons_succ]
              refine wpAnyH_at 24 (some 78) (v := undef) (by decide) rfl (by kernel_rfl) (by kernel_rfl) (by kernel_rfl) (fun _ _ _ h => h) (Or.inr ⟨by rfl, rfl⟩) (by assumption) ?_
              simp only [Act.put, List.setIfInBounds_toArray, List.set_cons_zero, List.set_cons_succ]
              refine wpAnyH_at 25 (some 79) (v := ?v325) (by decide) rfl (by kernel_rfl) (by kernel_rfl) (by kernel_rfl) (fun _ _ _ h => h) (Or.inl ⟨by rfl, ?y325⟩) (by assumption) ?r325
              case y325 => (intro w hSw; (try dsimp only at hSw); go_simp; (try with_reducible rfl))
              simp only [Act.put, List.setIfInBounds_toArray, List.set_cons_zero, List.set_cons_succ]
              refine wpAnyH_done (by kernel_rfl) ?_ _
              go_wp2_with fail
              have AI5 := AI.out.drew
              rw [HCC.out] at AI5
              clear AI c0 cf d0 d1 df n1 n2 G1 G2 G3 HCC HCl hCn hq hqi
              generalize wr.drew = W5 at AI5 hHeld ⊢
              clear hHeld
              obtain ⟨C5, hC5⟩ : ∃ C5, C5 = L ++ R := ⟨_, rfl⟩
              rw [← hC5] at AI5
              obtain ⟨ao5, cap5, g1, g2, g3, c0, cf, d0, d1, df, n1, n2, hCn5⟩ := AI5.facts HF.out
              have hCl5 : C5.length = L.length + (R).length := by rw [hC5]; simp
              have HCl5 := hid hCl5
              have HA5 := hid AI5
              clear AI5
              rcases List.eq_nil_or_concat L with hL | ⟨L0, z, hL⟩
              · have hi0 : ¬ (0 : Int) < (L.length : Int) := by rw [hL]; simp
                have hi1 : ¬ 0 < L.length := by rw [hL]; simp
                have ht : T = L ++ [(x1, x2)] ++ R := by rw [HT5.out, hL]; rfl
                have HT6 := hid ht; have HC6 := hid hC5
                clear ht hL hC5 hCl5 g1 g2 g3
                refine wp_region_held_drew (S := fun _ => True) (by kernel_rfl) (by exact trivial) (fun hHeld => ?_)
                refine wpAnyH_at 0 (some 100) (v := ?v3100) (by decide) rfl (by kernel_rfl) (by kernel_rfl) (by kernel_rfl) (fun _ _ _ h => h) (Or.inl ⟨by rfl, ?y3100⟩) (by assumption) ?r3100
                case y3100 => (intro w hSw; (try dsimp only at hSw); go_simp; (try with_reducible rfl))
                simp only [Act.put, List.setIfInBounds_toArray, List.set_cons_zero, List.set_cons_succ]
                refine wpAnyH_at 1 (some 101) (v := ?v3101) (by decide) rfl (by kernel_rfl) (by kernel_rfl) (by kernel_rfl) (fun _ _ _ h => h) (Or.inl ⟨by rfl, ?y3101⟩) (by assumption) ?r3101
                case y3101 => (intro w hSw; (try dsimp only at hSw); go_simp; (try with_reducible rfl))
                simp only [Act.put, List.setIfInBounds_toArray, List.set_cons_zero, List.set_cons_succ]
                refine wpAnyH_at 2 (some 102) (v := ?v3102) (by decide) rfl (by kernel_rfl) (by kernel_rfl) (by kernel_rfl) (fun _ _ _ h => h) (Or.inl ⟨by rfl, ?y3102⟩) (by assumption) ?r3102
                case y3102 => (intro w hSw; (try dsimp only at hSw); go_simp; (try with_reducible rfl))
                simp only [Act.put, List.setIfInBounds_toArray, List.set_cons_zero, List.set_cons_succ]
                refine wpAnyH_at 3 (some 103) (v := undef) (by decide) rfl (by kernel_rfl) (by kernel_rfl) (by kernel_rfl) (fun _ _ _ h => h) (Or.inr ⟨by rfl, rfl⟩) (by assumption) ?_
                simp only [Act.put, List.setIfInBounds_toArray, List.set_cons_zero, List.set_cons_succ]
                refine wpAnyH_at 4 (some 104) (v := undef) (by decide) rfl (by kernel_rfl) (by kernel_rfl) (by kernel_rfl) (fun _ _ _ h => h) (Or.inr ⟨by rfl, rfl⟩) (by assumption) ?_
                simp only [Act.put, List.setIfInBounds_toArray, List.set_cons_zero, List.set_cons_succ]
                refine wpAnyH_at 5 (some 105) (v := undef) (by decide) rfl (by kernel_rfl) (by kernel_rfl) (by kernel_rfl) (fun _ _ _ h => h) (Or.inr ⟨by rfl, rfl⟩) (by assumption) ?_
                simp only [Act.put, List.setIfInBounds_toArray, List.set_cons_zero, List.set_cons_succ]
                refine wpAnyH_at 6 (some 106) (v := ?v3106) (by decide) rfl (by kernel_rfl) (by kernel_rfl) (by kernel_rfl) (fun _ _ _ h => h) (Or.inl ⟨by rfl, ?y3106⟩) (by assumption) ?r3106
                case y3106 => (intro w hSw; (try dsimp only at hSw); go_simp; (try with_reducible rfl))
                simp only [Act.put, List.setIfInBounds_toArray, List.set_cons_zero, List.set_cons_succ]
                refine wpAnyH_at 7 (some 107) (v := ?v3107) (by decide) rfl (by kernel_rfl) (by kernel_rfl) (by kernel_rfl) (fun _ _ _ h => h) (Or.inl ⟨by rfl, ?y3107⟩) (by assumption) ?r3107
                case y3107 => (intro w hSw; (try dsimp only at hSw); go_simp; (try with_reducible rfl))
                simp only [Act.put, List.setIfInBounds_toArray, List.set_cons_zero, List.set_cons_succ]
                refine wpAnyH_at 8 (some 108) (v := undef) (by decide) rfl (by kernel_rfl) (by kernel_rfl) (by kernel_rfl) (fun _ _ _ h => h) (Or.inr ⟨by rfl, rfl⟩) (by assumption) ?_
                simp only [Act.put, List.setIfInBounds_toArray, List.set_cons_zero, List.set_cons_succ]
                refine wpAnyH_at 9 (some 109) (v := undef) (by decide) rfl (by kernel_rfl) (by kernel_rfl) (by kernel_rfl) (fun _ _ _ h => h) (Or.inr ⟨by rfl, rfl⟩) (by assumption) ?_
                simp only [Act.put, List.setIfInBounds_toArray, List.set_cons_zero, List.set_cons_succ]
                refine wpAnyH_at 10 (some 110) (v := undef) (by decide) rfl (by kernel_rfl) (by kernel_rfl) (by kernel_rfl) (fun _ _ _ h => h) (Or.inr ⟨by rfl, rfl⟩) (by assumption) ?_
                simp only [Act.put, List.setIfInBounds_toArray, List.set_cons_zero, List.set_cons_succ]
                refine wpAnyH_at 11 (some 111) (v := undef) (by decide) rfl (by kernel_rfl) (by kernel_rfl) (by kernel_rfl) (fun _ _ _ h => h) (Or.inr ⟨by rfl, rfl⟩) (by assumption) ?_
                simp only [Act.put, List.setIfInBounds_toArray, List.set_cons_zero, List.set_cons_succ]
                refine wpAnyH_at 12 (some 112) (v := undef) (by decide) rfl (by kernel_rfl) (by kernel_rfl) (by kernel_rfl) (fun _ _ _ h => h) (Or.inr ⟨by rfl, rfl⟩) (by assumption) ?_
                simp only [Act.put, List.setIfInBounds_toArray, List.set_cons_zero, List.set_cons_succ]
                refine wpAnyH_at 13 (some 113) (v := undef) (by decide) rfl (by kernel_rfl) (by kernel_rfl) (by kernel_rfl) (fun _ _ _ h => h) (Or.inr ⟨by rfl, rfl⟩) (by assumption) ?_
                simp only [Act.put, List.setIfInBounds_toArray, List.set_cons_zero, List.set_cons_succ]
                refine wpAnyH_at 14 (some 114) (v := undef) (by decide) rfl (by kernel_rfl) (by kernel_rfl) (by kernel_rfl) (fun _ _ _ h => h) (Or.inr ⟨by rfl, rfl⟩) (by assumption) ?_
                simp only [Act.put, List.setIfInBounds_toArray, List.set_cons_zero, List.set_cons_succ]
                refine wpAnyH_at 15 (some 115) (v := undef) (by decide) rfl (by kernel_rfl) (by kernel_rfl) (by kernel_rfl) (fun _ _ _ h => h) (Or.inr ⟨by rfl, rfl⟩) (by assumption) ?_
                simp only [Act.put, List.setIfInBounds_toArray, List.set_cons_zero, List.set_cons_succ]
                refine wpAnyH_at 16 (some 116) (v := undef) (by decide) rfl (by kernel_rfl) (by kernel_rfl) (by kernel_rfl) (fun _ _ _ h => h) (Or.inr ⟨by rfl, rfl⟩) (by assumption) ?_
                simp only [Act.put, List.setIfInBounds_toArray, List.set_cons_zero, List.set_cons_succ]
                refine wpAnyH_at 17 (some 117) (v := undef) (by decide) rfl (by kernel_rfl) (by kernel_rfl) (by kernel_rfl) (fun _ _ _ h => h) (Or.inr ⟨by rfl, rfl⟩) (by assumption) ?_
                simp only [Act.put, List.setIfInBounds_toArray, List.set_cons_zero, List.set_cons_succ]
                refine wpAnyH_at 18 (some 118) (v := undef) (by decide) rfl (by kernel_rfl) (by kernel_rfl) (by kernel_rfl) (fun _ _ _ h => h) (Or.inr ⟨by rfl, rfl⟩) (by assumption) ?_
                simp only [Act.put, List.setIfInBounds_toArray, List.set_cons_zero, List.set_cons_succ]
                refine wpAnyH_at 19 (some 119) (v := undef) (by decide) rfl (by kernel_rfl) (by kernel_rfl) (by kernel_rfl) (fun _ _ _ h => h) (Or.inr ⟨by rfl, rfl⟩) (by assumption) ?_
                simp only [Act.put, List.setIfInBounds_toArray, List.set_cons_zero, List.set_cons_succ]
                refine wpAnyH_at 20 (some 120) (v := undef) (by decide) rfl (by kernel_rfl) (by kernel_rfl) (by kernel_rfl) (fun _ _ _ h => h) (Or.inr ⟨by rfl, rfl⟩) (by assumption) ?_
                simp only [Act.put, List.setIfInBounds_toArray, List.set_cons_zero, List.set_cons_succ]
                refine wpAnyH_at 21 (some 121) (v := ?v3121) (by decide) rfl (by kernel_rfl) (by kernel_rfl) (by kernel_rfl) (fun _ _ _ h => h) (Or.inl ⟨by rfl, ?y3121⟩) (by assumption) ?r3121
                case y3121 => (intro w hSw; (try dsimp only at hSw); go_simp; (try with_reducible rfl))
                simp only [Act.put, List.setIfInBounds_toArray, List.set_cons_zero, List.set_cons_succ]
                refine wpAnyH_done (by kernel_rfl) ?_ _
                clear hHeld
                have AI6 := hid HA5.out.drew
                go_wp2_with fail
                clear c0 cf d0 d1 df n1 n2
                generalize W5.drew = W6 at AI6 ⊢
                obtain ⟨ao6, cap6, g1, g2, g3, c0, cf, d0, d1, df, n1, n2, hCn⟩ := AI6.out.facts HF.out
                have G3 := hid g3
                have OW := hid (show Own ((W6.alloc (.cells #[.int .u32 (x1), .int .u32 (x2)] 46)).drew) 46 2 _ _ _ from (g2.alloc _).drew)
                have RW := hid (row_old (w := W6) g1 (.cells #[.int .u32 (x1), .int .u32 (x2)] 46))
                have XW := hid (row_old (w := W6) AI6.out.x (.cells #[.int .u32 (x1), .int .u32 (x2)] 46))
                have HIL := hid (show L.length ≤ C5.length by rw [HC6.out]; simp)
                have k0 : (W6.alloc (.cells #[.int .u32 (x1), .int .u32 (x2)] 46)).cell? ⟨sb, 0, none⟩ = some (.slice ao6 C5.length cap6) := by have := row_cell RW.out 0; simpa using this
                obtain ⟨k1, k2, _⟩ := cell2 XW.out
                clear g1 g2 g3
                refine wp_region_held_drew (S := fun w' => w'.cell? ⟨xb, 0, none⟩ = some (.int .u32 (x1)) ∧ w'.cell? ⟨xb, 1, none⟩ = some (.int .u32 (x2))) (by kernel_rfl) (by exact ⟨d0, d1⟩) (fun hHeld => ?_)
                refine wpAnyH_at 0 (some 145) (v := ?v3200) (by decide) rfl (by kernel_rfl) (by kernel_rfl) (by kernel_rfl) (fun _ _ _ h => h) (Or.inl ⟨by rfl, ?y3200⟩) (by assumption) ?r3200
                case y3200 => (intro w hSw; (try dsimp only at hSw); go_simp; (try with_reducible rfl))
                simp only [Act.put, List.setIfInBounds_toArray, List.set_cons_zero, List.set_cons_succ]
                refine wpAnyH_at 1 (some 146) (v := ?v3201) (by decide) rfl (by kernel_rfl) (by kernel_rfl) (by kernel_rfl) (fun _ _ _ h => h) (Or.inl ⟨by rfl, ?y3201⟩) (by assumption) ?r3201
                case y3201 => (intro w hSw; (try dsimp only at hSw); go_simp; (try with_reducible rfl))
                simp only [Act.put, List.setIfInBounds_toArray, List.set_cons_zero, List.set_cons_succ]
                refine wpAnyH_at 2 (some 147) (v := ?v3202) (by decide) rfl (by kernel_rfl) (by kernel_rfl) (by kernel_rfl) (fun _ _ _ h => h) (Or.inl ⟨by rfl, ?y3202⟩) (by assumption) ?r3202
                case y3202 => (intro w hSw; (try dsimp only at hSw); go_simp; (try with_reducible rfl))
                simp only [Act.put, List.setIfInBounds_toArray, List.set_cons_zero, List.set_cons_succ]
                refine wpAnyH_at 3 (some 148) (v := ?v3203) (by decide) rfl (by kernel_rfl) (by kernel_rfl) (by kernel_rfl) (fun _ _ _ h => h) (Or.inl ⟨by rfl, ?y3203⟩) (by assumption) ?r3203
                case y3203 => (intro w hSw; (try dsimp only at hSw); go_simp; (try with_reducible rfl))
                simp only [Act.put, List.setIfInBounds_toArray, List.set_cons_zero, List.set_cons_succ]
                refine wpAnyH_at 5 (some 150) (v := ?v3205) (by decide) rfl (by kernel_rfl) (by kernel_rfl) (by kernel_rfl) (fun _ _ _ h => h) (Or.inl ⟨by rfl, ?y3205⟩) (by assumption) ?r3205
                case y3205 => (intro w hSw; (try dsimp only at hSw); go_simp; (try with_reducible rfl))
                simp only [Act.put, List.setIfInBounds_toArray, List.set_cons_zero, List.set_cons_succ]
                refine wpAnyH_at 6 (some 151) (v := ?v3206) (by decide) rfl (by kernel_rfl) (by kernel_rfl) (by kernel_rfl) (fun _ _ _ h => h) (Or.inl ⟨by rfl, ?y3206⟩) (by assumption) ?r3206
                case y3206 => (intro w hSw; (try dsimp only at hSw); go_simp; (try with_reducible rfl))
                simp only [Act.put, List.setIfInBounds_toArray, List.set_cons_zero, List.set_cons_succ]
                refine wpAnyH_ready (rs := [4, 7]) (by kernel_rfl) (by simp) ?_
                refine AllReadyH.cons rfl (fun K hK => ?_) (AllReadyH.cons rfl (fun K hK => ?_) AllReadyH.nil)
                · go_simp
                  try dsimp only []
                  refine hK.out _ _ (by exact ⟨d0, d1⟩) (fun hHeld => ?_)
                  clear hK K
                  try simp only [Act.put, List.setIfInBounds_toArray, List.set_cons_zero, List.set_cons_succ]
                  refine wpAnyH_ready (rs := [7]) (by kernel_rfl) (by simp) ?_
                  refine AllReadyH.cons rfl (fun K hK => ?_) AllReadyH.nil
                  go_simp
                  try dsimp only []
                  refine hK.out _ _ (by exact ⟨k1, k2⟩) (fun hHeld => ?_)
                  clear hK K
                  try simp only [Act.put, List.setIfInBounds_toArray, List.set_cons_zero, List.set_cons_succ]
                  refine wpAnyH_ready (rs := [8]) (by kernel_rfl) (by simp) ?_
                  refine AllReadyH.cons rfl (fun K hK => ?_) AllReadyH.nil
                  go_simp
                  refine (ins_any (by exact OW.out) (scells_one _) (L.length) (by exact HIL.out) (own_two (w := W6) _ _).drew (by simp [Value.oneCell']) (fun g hg e => by have h1 := HF.out _ (G3.out _ e); have h2 := AI6.out.k.size; simp [Value.ownBlock] at hg; omega) (by omega)).mono ?_
                  rintro e w7 ⟨a7, c7, rfl, ho7, hk7, hf7⟩
                  have r7 := (hk7.block sb (row_lt RW.out) (OW.out.ne_block RW.out (by decide))).trans RW.out
                  have x7 := (hk7.block xb (row_lt XW.out) (fun e => by have h1 := HF.out _ (G3.out _ e); have h2 := AI6.out.n; omega)).trans XW.out
                  obtain ⟨e0, e1, _⟩ := cell2 x7
                  try dsimp only []
                  refine hK.out _ _ (by exact ⟨e0, e1⟩) (fun hHeld => ?_)
                  clear hK K
                  try simp only [Act.put, List.setIfInBounds_toArray, List.set_cons_zero, List.set_cons_succ]
                  refine wpAnyH_at 9 (some 154) (v := ?v32109) (by decide) rfl (by kernel_rfl) (by kernel_rfl) (by kernel_rfl) (fun _ _ _ h => h) (Or.inl ⟨by rfl, ?y32109⟩) (by assumption) ?r32109
                  case y32109 => (intro w hSw; (try dsimp only at hSw); go_simp; (try with_reducible rfl))
                  simp only [Act.put, List.setIfInBounds_toArray, List.set_cons_zero, List.set_cons_succ]
                  refine wpAnyH_at 10 (some 155) (v := ?v32110) (by decide) rfl (by kernel_rfl) (by kernel_rfl) (by kernel_rfl) (fun _ _ _ h => h) (Or.inl ⟨by rfl, ?y32110⟩) (by assumption) ?r32110
                  case y32110 => (intro w hSw; (try dsimp only at hSw); go_simp; (try with_reducible rfl))
                  simp only [Act.put, List.setIfInBounds_toArray, List.set_cons_zero, List.set_cons_succ]
                  have c7' : w7.cell? ⟨sb, 0, none⟩ = some (.slice ao6 C5.length cap6) := by have := row_cell r7 0; simpa using this
                  have f7' := row_free r7 0
                  refine wpAnyH_ready (rs := [11]) (by kernel_rfl) (by simp) ?_
                  refine AllReadyH.cons rfl (fun K hK => ?_) AllReadyH.nil
                  go_simp
                  try dsimp only []
                  refine hK.out _ _ (by exact ⟨(cell2 (((Kept.refl (fun k => k = sb) w7).setCell (.inl rfl) _).block xb (row_lt x7) n2 |>.trans x7)).1, (cell2 (((Kept.refl (fun k => k = sb) w7).setCell (.inl rfl) _).block xb (row_lt x7) n2 |>.trans x7)).2.1⟩) (fun hHeld => ?_)
                  clear hK K
                  try simp only [Act.put, List.setIfInBounds_toArray, List.set_cons_zero, List.set_cons_succ]
                  refine wpAnyH_done (by kernel_rfl) ?_ _
                  have R7 := hid r7; have HO7 := hid ho7; have HK7 := hid hk7; have HF7 := hid hf7
                  clear hHeld c7' f7' r7 ho7 hk7 hf7 x7 e0 e1
                  go_wp2
                  go_ret
                  have ho := HO7.out
                  have hfo := HF7.out
                  have hl : C5.length + 1 = T.length := by rw [HT6.out, HC6.out]; simp; omega
                  have hd : T = C5.take (L.length) ++ [(x1, x2)] ++ C5.drop (L.length) := by rw [HC6.out, List.take_left' rfl, List.drop_left' rfl]; exact HT6.out
                  have hsc : (scells C5).take ((L.length) * 2) ++ [.int .u32 (x1), .int .u32 (x2)] ++ (scells C5).drop ((L.length) * 2) = scells T := by
                    rw [← scells_take, ← scells_drop, hd, scells_app, scells_app]; rfl
                  rw [hsc] at ho
                  rw [hl] at ho hfo ⊢
                  rw [← HTA.out]
                  refine ⟨by rw [HC.out]; rfl, SetAt.put (F := fun g => F g ∨ w.heap.size ≤ g) (S0 := C5) R7.out (.inl AI6.out.s.m) HGA.out ho (fun g hg => ?_), ?_⟩
                  · rcases hfo g hg with h1 | h1
                    · exact .inl (G3.out g h1)
                    · right; have := AI6.out.k.size; simp at h1; omega
                  · exact Kept.setCell (F := F) (Kept.trans' (F := F) ((AI6.out.k.alloc _).drew) HK7.out (fun i hi => Or.inl (G3.out i hi))) (Or.inl AI6.out.s.m) _
                · go_simp
                  try dsimp only []
                  refine hK.out _ _ (by exact ⟨k1, k2⟩) (fun hHeld => ?_)
                  clear hK K
                  try simp only [Act.put, List.setIfInBounds_toArray, List.set_cons_zero, List.set_cons_succ]
                  refine wpAnyH_ready (rs := [4]) (by kernel_rfl) (by simp) ?_
                  refine AllReadyH.cons rfl (fun K hK => ?_) AllReadyH.nil
                  go_simp
                  try dsimp only []
                  refine hK.out _ _ (by exact ⟨k1, k2⟩) (fun hHeld => ?_)
                  clear hK K
                  try simp only [Act.put, List.setIfInBounds_toArray, List.set_cons_zero, List.set_cons_succ]
                  refine wpAnyH_ready (rs := [8]) (by kernel_rfl) (by simp) ?_
                  refine AllReadyH.cons rfl (fun K hK => ?_) AllReadyH.nil
                  go_simp
                  refine (ins_any (by exact OW.out) (scells_one _) (L.length) (by exact HIL.out) (own_two (w := W6) _ _).drew (by simp [Value.oneCell']) (fun g hg e => by have h1 := HF.out _ (G3.out _ e); have h2 := AI6.out.k.size; simp [Value.ownBlock] at hg; omega) (by omega)).mono ?_
                  rintro e w7 ⟨a7, c7, rfl, ho7, hk7, hf7⟩
                  have r7 := (hk7.block sb (row_lt RW.out) (OW.out.ne_block RW.out (by decide))).trans RW.out
                  have x7 := (hk7.block xb (row_lt XW.out) (fun e => by have h1 := HF.out _ (G3.out _ e); have h2 := AI6.out.n; omega)).trans XW.out
                  obtain ⟨e0, e1, _⟩ := cell2 x7
                  try dsimp only []
                  refine hK.out _ _ (by exact ⟨e0, e1⟩) (fun hHeld => ?_)
                  clear hK K
                  try simp only [Act.put, List.setIfInBounds_toArray, List.set_cons_zero, List.set_cons_succ]
                  refine wpAnyH_at 9 (some 154) (v := ?v32209) (by decide) rfl (by kernel_rfl) (by kernel_rfl) (by kernel_rfl) (fun _ _ _ h => h) (Or.inl ⟨by rfl, ?y32209⟩) (by assumption) ?r32209
                  case y32209 => (intro w hSw; (try dsimp only at hSw); go_simp; (try with_reducible rfl))
                  simp only [Act.put, List.setIfInBounds_toArray, List.set_cons_zero, List.set_cons_succ]
                  refine wpAnyH_at 10 (some 155) (v := ?v32210) (by decide) rfl (by kernel_rfl) (by kernel_rfl) (by kernel_rfl) (fun _ _ _ h => h) (Or.inl ⟨by rfl, ?y32210⟩) (by assumption) ?r32210
                  case y32210 => (intro w hSw; (try dsimp only at hSw); go_simp; (try with_reducible rfl))
                  simp only [Act.put, List.setIfInBounds_toArray, List.set_cons_zero, List.set_cons_succ]
                  have c7' : w7.cell? ⟨sb, 0, none⟩ = some (.slice ao6 C5.length cap6) := by have := row_cell r7 0; simpa using this
                  have f7' := row_free r7 0
                  refine wpAnyH_ready (rs := [11]) (by kernel_rfl) (by simp) ?_
                  refine AllReadyH.cons rfl (fun K hK => ?_) AllReadyH.nil
                  go_simp
                  try dsimp only []
                  refine hK.out _ _ (by exact ⟨(cell2 (((Kept.refl (fun k => k = sb) w7).setCell (.inl rfl) _).block xb (row_lt x7) n2 |>.trans x7)).1, (cell2 (((Kept.refl (fun k => k = sb) w7).setCell (.inl rfl) _).block xb (row_lt x7) n2 |>.trans x7)).2.1⟩) (fun hHeld => ?_)
                  clear hK K
                  try simp only [Act.put, List.setIfInBounds_toArray, List.set_cons_zero, List.set_cons_succ]
                  refine wpAnyH_done (by kernel_rfl) ?_ _
                  have R7 := hid r7; have HO7 := hid ho7; have HK7 := hid hk7; have HF7 := hid hf7
                  clear hHeld c7' f7' r7 ho7 hk7 hf7 x7 e0 e1
                  go_wp2
                  go_ret
                  have ho := HO7.out
                  have hfo := HF7.out
                  have hl : C5.length + 1 = T.length := by rw [HT6.out, HC6.out]; simp; omega
                  have hd : T = C5.take (L.length) ++ [(x1, x2)] ++ C5.drop (L.length) := by rw [HC6.out, List.take_left' rfl, List.drop_left' rfl]; exact HT6.out
                  have hsc : (scells C5).take ((L.length) * 2) ++ [.int .u32 (x1), .int .u32 (x2)] ++ (scells C5).drop ((L.length) * 2) = scells T := by
                    rw [← scells_take, ← scells_drop, hd, scells_app, scells_app]; rfl
                  rw [hsc] at ho
                  rw [hl] at ho hfo ⊢
                  rw [← HTA.out]
                  refine ⟨by rw [HC.out]; rfl, SetAt.put (F := fun g => F g ∨ w.heap.size ≤ g) (S0 := C5) R7.out (.inl AI6.out.s.m) HGA.out ho (fun g hg => ?_), ?_⟩
                  · rcases hfo g hg with h1 | h1
                    · exact .inl (G3.out g h1)
                    · right; have := AI6.out.k.size; simp at h1; omega
                  · exact Kept.setCell (F := F) (Kept.trans' (F := F) ((AI6.out.k.alloc _).drew) HK7.out (fun i hi => Or.inl (G3.out i hi))) (Or.inl AI6.out.s.m) _
              · rw [List.concat_eq_append] at hL
                have hm : L.length = L0.length + 1 := by rw [hL]; simp
                have hmC : L0.length < C5.length := by omega
                have hCz : C5[L0.length]'hmC = z := by simp [hC5, hL]
                have hzb := HM5.out.bl z (by rw [hL]; simp)
                have hzx := HM5.out.l z (by rw [hL]; simp)
                obtain ⟨g, cap', e, l1, l2, y0, y1⟩ := own_at g2 L0.length hmC
                simp only [Value.slice.injEq] at e
                obtain ⟨rfl, _, rfl⟩ := e
                rw [hCz] at y0 y1
                obtain ⟨zp, zq⟩ := z
                simp only at y0 y1 hzb hzx
                have hi0 : (0 : Int) < (L.length : Int) := by omega
                have hi1 : 0 < L.length := by omega
                have hx0 : (x1 != 0) = true := by simp; omega
                have hx0' : x1 ≠ 0 := by omega
                have hw1 : IntKind.u32.wrap (x1 - 1) = x1 - 1 := by have := HM5.out.b; simp [IntKind.wrap, IntKind.bits, IntKind.signed]; omega
                have hLs : L.length ≤ 2147483648 := by omega
                have hw2 : IntKind.i64.wrap ((L.length : Int) - 1) = (L0.length : Int) := by rw [IntKind.wrap_i64]; omega
                have hmI : (L0.length : Int) < (C5.length : Int) := by omega
                have G1 := hid g1; have G2 := hid g2; have G3 := hid g3; have HC5 := hid hC5; have HL := hid hL; have Hm := hid hm
                clear g1 g2 g3 hC5 hL hm hCl5 hCz
                by_cases hz : zq = x1 - 1
                · have hzx1 : (zq == x1 - 1) = true := by simpa using hz
                  refine wp_region_held_drew (S := fun w' => w'.cell? ⟨sb, 0, none⟩ = some (.slice (some ⟨g, 0, none⟩) C5.length cap5) ∧ w'.cell? ⟨xb, 0, none⟩ = some (.int .u32 x1) ∧ w'.cell? ⟨g, L0.length * 2 + 1, none⟩ = some (.int .u32 zq)) (by kernel_rfl) (by exact ⟨c0, d0, y1⟩) (fun hHeld => ?_)
                  refine wpAnyH_at 0 (some 100) (v := ?v3300) (by decide) rfl (by kernel_rfl) (by kernel_rfl) (by kernel_rfl) (fun _ _ _ h => h) (Or.inl ⟨by rfl, ?y3300⟩) (by assumption) ?r3300
                  case y3300 => (intro w hSw; (try dsimp only at hSw); go_simp; (try with_reducible rfl))
                  simp only [Act.put, List.setIfInBounds_toArray, List.set_cons_zero, List.set_cons_succ]
                  refine wpAnyH_at 1 (some 101) (v := ?v3301) (by decide) rfl (by kernel_rfl) (by kernel_rfl) (by kernel_rfl) (fun _ _ _ h => h) (Or.inl ⟨by rfl, ?y3301⟩) (by assumption) ?r3301
                  case y3301 => (intro w hSw; (try dsimp only at hSw); go_simp; (try with_reducible rfl))
                  simp only [Act.put, List.setIfInBounds_toArray, List.set_cons_zero, List.set_cons_succ]
                  refine wpAnyH_at 2 (some 102) (v := ?v3302) (by decide) rfl (by kernel_rfl) (by kernel_rfl) (by kernel_rfl) (fun _ _ _ h => h) (Or.inl ⟨by rfl, ?y3302⟩) (by assumption) ?r3302
                  case y3302 => (intro w hSw; (try dsimp only at hSw); go_simp; (try with_reducible rfl))
                  simp only [Act.put, List.setIfInBounds_toArray, List.set_cons_zero, List.set_cons_succ]
                  refine wpAnyH_at 3 (some 103) (v := ?v3303) (by decide) rfl (by kernel_rfl) (by kernel_rfl) (by kernel_rfl) (fun _ _ _ h => h) (Or.inl ⟨by rfl, ?y3303⟩) (by assumption) ?r3303
                  case y3303 => (intro w hSw; (try dsimp only at hSw); go_simp; (try with_reducible rfl))
                  simp only [Act.put, List.setIfInBounds_toArray, List.set_cons_zero, List.set_cons_succ]
                  refine wpAnyH_at 4 (some 104) (v := ?v3304) (by decide) rfl (by kernel_rfl) (by kernel_rfl) (by kernel_rfl) (fun _ _ _ h => h) (Or.inl ⟨by rfl, ?y3304⟩) (by assumption) ?r3304
                  case y3304 => (intro w hSw; (try dsimp only at hSw); go_simp; (try with_reducible rfl))
                  simp only [Act.put, List.setIfInBounds_toArray, List.set_cons_zero, List.set_cons_succ]
                  refine wpAnyH_at 5 (some 105) (v := ?v3305) (by decide) rfl (by kernel_rfl) (by kernel_rfl) (by kernel_rfl) (fun _ _ _ h => h) (Or.inl ⟨by rfl, ?y3305⟩) (by assumption) ?r3305
                  case y3305 => (intro w hSw; (try dsimp only at hSw); go_simp; (try with_reducible rfl))
                  simp only [Act.put, List.setIfInBounds_toArray, List.set_cons_zero, List.set_cons_succ]
                  refine wpAnyH_at 6 (some 106) (v := ?v3306) (by decide) rfl (by kernel_rfl) (by kernel_rfl) (by kernel_rfl) (fun _ _ _ h => h) (Or.inl ⟨by rfl, ?y3306⟩) (by assumption) ?r3306
                  case y3306 => (intro w hSw; (try dsimp only at hSw); go_simp; (try with_reducible rfl))
                  simp only [Act.put, List.setIfInBounds_toArray, List.set_cons_zero, List.set_cons_succ]
                  refine wpAnyH_at 7 (some 107) (v := ?v3307) (by decide) rfl (by kernel_rfl) (by kernel_rfl) (by kernel_rfl) (fun _ _ _ h => h) (Or.inl ⟨by rfl, ?y3307⟩) (by assumption) ?r3307
                  case y3307 => (intro w hSw; (try dsimp only at hSw); go_simp; (try with_reducible rfl))
                  simp only [Act.put, List.setIfInBounds_toArray, List.set_cons_zero, List.set_cons_succ]
                  refine wpAnyH_at 8 (some 108) (v := ?v3308) (by decide) rfl (by kernel_rfl) (by kernel_rfl) (by kernel_rfl) (fun _ _ _ h => h) (Or.inl ⟨by rfl, ?y3308⟩) (by assumption) ?r3308
                  case y3308 => (intro w hSw; (try dsimp only at hSw); go_simp; (try with_reducible rfl))
                  simp only [Act.put, List.setIfInBounds_toArray, List.set_cons_zero, List.set_cons_succ]
                  refine wpAnyH_at 9 (some 109) (v := ?v3309) (by decide) rfl (by kernel_rfl) (by kernel_rfl) (by kernel_rfl) (fun _ _ _ h => h) (Or.inl ⟨by rfl, ?y3309⟩) (by assumption) ?r3309
                  case y3309 => (intro w hSw; (try dsimp only at hSw); go_simp; (try with_reducible rfl))
                  simp only [Act.put, List.setIfInBounds_toArray, List.set_cons_zero, List.set_cons_succ]
                  refine wpAnyH_at 10 (some 110) (v := ?v3310) (by decide) rfl (by kernel_rfl) (by kernel_rfl) (by kernel_rfl) (fun _ _ _ h => h) (Or.inl ⟨by rfl, ?y3310⟩) (by assumption) ?r3310
                  case y3310 => (intro w hSw; (try dsimp only at hSw); go_simp; (try with_reducible rfl))
                  simp only [Act.put, List.setIfInBounds_toArray, List.set_cons_zero, List.set_cons_succ]
                  refine wpAnyH_at 11 (some 111) (v := ?v3311) (by decide) rfl (by kernel_rfl) (by kernel_rfl) (by kernel_rfl) (fun _ _ _ h => h) (Or.inl ⟨by rfl, ?y3311⟩) (by assumption) ?r3311
                  case y3311 => (intro w hSw; (try dsimp only at hSw); go_simp; (try with_reducible rfl))
                  simp only [Act.put, List.setIfInBounds_toArray, List.set_cons_zero, List.set_cons_succ]
                  refine wpAnyH_at 12 (some 112) (v := ?v3312) (by decide) rfl (by kernel_rfl) (by kernel_rfl) (by kernel_rfl) (fun _ _ _ h => h) (Or.inl ⟨by rfl, ?y3312⟩) (by assumption) ?r3312
                  case y3312 => (intro w hSw; (try dsimp only at hSw); go_simp; (try with_reducible rfl))
                  simp only [Act.put, List.setIfInBounds_toArray, List.set_cons_zero, List.set_cons_succ]
                  refine wpAnyH_at 13 (some 113) (v := ?v3313) (by decide) rfl (by kernel_rfl) (by kernel_rfl) (by kernel_rfl) (fun _ _ _ h => h) (Or.inl ⟨by rfl, ?y3313⟩) (by assumption) ?r3313
                  case y3313 => (intro w hSw; (try dsimp only at hSw); go_simp; (try with_reducible rfl))
                  simp only [Act.put, List.setIfInBounds_toArray, List.set_cons_zero, List.set_cons_succ]
                  refine wpAnyH_at 14 (some 114) (v := ?v3314) (by decide) rfl (by kernel_rfl) (by kernel_rfl) (by kernel_rfl) (fun _ _ _ h => h) (Or.inl ⟨by rfl, ?y3314⟩) (by assumption) ?r3314
                  case y3314 => (intro w hSw; (try dsimp only at hSw); go_simp; (try with_reducible rfl))
                  simp only [Act.put, List.setIfInBounds_toArray, List.set_cons_zero, List.set_cons_succ]
                  refine wpAnyH_at 15 (some 115) (v := ?v3315) (by decide) rfl (by kernel_rfl) (by kernel_rfl) (by kernel_rfl) (fun _ _ _ h => h) (Or.inl ⟨by rfl, ?y3315⟩) (by assumption) ?r3315
                  case y3315 => (intro w hSw; (try dsimp only at hSw); go_simp; (try with_reducible rfl))
                  simp only [Act.put, List.setIfInBounds_toArray, List.set_cons_zero, List.set_cons_succ]
                  refine wpAnyH_at 16 (some 116) (v := ?v3316) (by decide) rfl (by kernel_rfl) (by kernel_rfl) (by kernel_rfl) (fun _ _ _ h => h) (Or.inl ⟨by rfl, ?y3316⟩) (by assumption) ?r3316
                  case y3316 => (intro w hSw; (try dsimp only at hSw); go_simp; (try with_reducible rfl))
                  simp only [Act.put, List.setIfInBounds_toArray, List.set_cons_zero, List.set_cons_succ]
                  refine wpAnyH_at 17 (some 117) (v := ?v3317) (by decide) rfl (by kernel_rfl) (by kernel_rfl) (by kernel_rfl) (fun _ _ _ h => h) (Or.inl ⟨by rfl, ?y3317⟩) (by assumption) ?r3317
                  case y3317 => (intro w hSw; (try dsimp only at hSw); go_simp; (try with_reducible rfl))
                  simp only [Act.put, List.setIfInBounds_toArray, List.set_cons_zero, List.set_cons_succ]
                  refine wpAnyH_at 18 (some 118) (v := ?v3318) (by decide) rfl (by kernel_rfl) (by kernel_rfl) (by kernel_rfl) (fun _ _ _ h => h) (Or.inl ⟨by rfl, ?y3318⟩) (by assumption) ?r3318
                  case y3318 => (intro w hSw; (try dsimp only at hSw); go_simp; (try with_reducible rfl))
                  simp only [Act.put, List.setIfInBounds_toArray, List.set_cons_zero, List.set_cons_succ]
                  refine wpAnyH_at 19 (some 119) (v := ?v3319) (by decide) rfl (by kernel_rfl) (by kernel_rfl) (by kernel_rfl) (fun _ _ _ h => h) (Or.inl ⟨by rfl, ?y3319⟩) (by assumption) ?r3319
                  case y3319 => (intro w hSw; (try dsimp only at hSw); go_simp; (try with_reducible rfl))
                  simp only [Act.put, List.setIfInBounds_toArray, List.set_cons_zero, List.set_cons_succ]
                  refine wpAnyH_at 20 (some 120) (v := ?v3320) (by decide) rfl (by kernel_rfl) (by kernel_rfl) (by kernel_rfl) (fun _ _ _ h => h) (Or.inl ⟨by rfl, ?y3320⟩) (by assumption) ?r3320
                  case y3320 => (intro w hSw; (try dsimp only at hSw); go_simp; (try with_reducible rfl))
                  simp only [Act.put, List.setIfInBounds_toArray, List.set_cons_zero, List.set_cons_succ]
                  refine wpAnyH_at 21 (some 121) (v := ?v3321) (by decide) rfl (by kernel_rfl) (by kernel_rfl) (by kernel_rfl) (fun _ _ _ h => h) (Or.inl ⟨by rfl, ?y3321⟩) (by assumption) ?r3321
                  case y3321 => (intro w hSw; (try dsimp only at hSw); go_simp; (try with_reducible rfl))
                  simp only [Act.put, List.setIfInBounds_toArray, List.set_cons_zero, List.set_cons_succ]
                  refine wpAnyH_done (by kernel_rfl) ?_ _
                  clear hHeld
                  go_wp2_with fail
                  have kx : Kept (fun k => k = xb) W5 (W5.setCell ⟨xb, 0, none⟩ (.int .u32 zp)).drew := ((Kept.refl (fun k => k = xb) W5).setCell (.inl rfl) _).drew
                  have AI1 := (HA5.out.set0 HF.out zp).drew
                  have q1 := (kx.block sb (row_lt G1.out) n1).trans G1.out
                  have q2 := G2.out.kept kx (fun k hk e => by have := HF.out _ (G3.out _ hk); have := HA5.out.n; omega)
                  have Q1 := hid q1; have Q2 := hid q2; have A1 := hid AI1
                  clear kx q1 q2 AI1
                  refine (del_le Q2.out (scells_one _) L0.length L.length (by have := Hm.out; omega) (by have := HCl5.out; omega)).mono ?_
                  rintro e w5 ⟨a2, c2, rfl, ho5, hk5, hb5⟩
                  obtain ⟨r5, hl5, AI6⟩ := A1.out.del (C' := L0 ++ R) HF.out Q1.out Q2.out G3.out L0.length L.length (by have := Hm.out; omega) (by have := HCl5.out; omega) (by rw [HC5.out, List.drop_left' rfl, HL.out, List.append_assoc, List.take_left' rfl]) ho5 hk5 hb5
                  obtain ⟨C6, hC6⟩ : ∃ C6, C6 = L0 ++ R := ⟨_, rfl⟩
                  rw [hl5]
                  rw [← hC6] at AI6 ⊢
                  have c5' : w5.cell? ⟨sb, 0, none⟩ = some (.slice (some ⟨g, 0, none⟩) C5.length cap5) := by have := row_cell r5 0; simpa using this
                  have f5' := row_free r5 0
                  have HC6 := hid hC6
                  have ht : T = L0 ++ [(zp, x2)] ++ R := by rw [HT5.out]; simp [leftL, leftX, HL.out, hz, hx0']
                  have HT6 := hid ht
                  have AI6 := hid AI6
                  clear r5 hl5 ho5 hk5 hb5 hC6 ht c0 cf d0 d1 df n1 n2 y0 y1
                  go_wp2_with fail
                  clear c5' f5' G1 G2 G3 Q1 Q2
                  generalize w5.setCell ⟨sb, 0, none⟩ (.slice a2 C6.length c2) = W6 at AI6 ⊢
                  have hCn5 := AI6.out.s.g.len
                  obtain ⟨ao6, cap6, g1, g2, g3, c0, cf, d0, d1, df, n1, n2, hCn⟩ := AI6.out.facts HF.out
                  have G3 := hid g3
                  have OW := hid (show Own ((W6.alloc (.cells #[.int .u32 (zp), .int .u32 (x2)] 46)).drew) 46 2 _ _ _ from (g2.alloc _).drew)
                  have RW := hid (row_old (w := W6) g1 (.cells #[.int .u32 (zp), .int .u32 (x2)] 46))
                  have XW := hid (row_old (w := W6) AI6.out.x (.cells #[.int .u32 (zp), .int .u32 (x2)] 46))
                  have HIL := hid (show L0.length ≤ C6.length by rw [HC6.out]; simp)
                  have k0 : (W6.alloc (.cells #[.int .u32 (zp), .int .u32 (x2)] 46)).cell? ⟨sb, 0, none⟩ = some (.slice ao6 C6.length cap6) := by have := row_cell RW.out 0; simpa using this
                  obtain ⟨k1, k2, _⟩ := cell2 XW.out
                  clear g1 g2 g3
                  refine wp_region_held_drew (S := fun w' => w'.cell? ⟨xb, 0, none⟩ = some (.int .u32 (zp)) ∧ w'.cell? ⟨xb, 1, none⟩ = some (.int .u32 (x2))) (by kernel_rfl) (by exact ⟨d0, d1⟩) (fun hHeld => ?_)
                  refine wpAnyH_at 0 (some 145) (v := ?v3600) (by decide) rfl (by kernel_rfl) (by kernel_rfl) (by kernel_rfl) (fun _ _ _ h => h) (Or.inl ⟨by rfl, ?y3600⟩) (by assumption) ?r3600
                  case y3600 => (intro w hSw; (try dsimp only at hSw); go_simp; (try with_reducible rfl))
                  simp only [Act.put, List.setIfInBounds_toArray, List.set_cons_zero, List.set_cons_succ]
                  refine wpAnyH_at 1 (some 146) (v := ?v3601) (by decide) rfl (by kernel_rfl) (by kernel_rfl) (by kernel_rfl) (fun _ _ _ h => h) (Or.inl ⟨by rfl, ?y3601⟩) (by assumption) ?r3601
                  case y3601 => (intro w hSw; (try dsimp only at hSw); go_simp; (try with_reducible rfl))
                  simp only [Act.put, List.setIfInBounds_toArray, List.set_cons_zero, List.set_cons_succ]
                  refine wpAnyH_at 2 (some 147) (v := ?v3602) (by decide) rfl (by kernel_rfl) (by kernel_rfl) (by kernel_rfl) (fun _ _ _ h => h) (Or.inl ⟨by rfl, ?y3602⟩) (by assumption) ?r3602
                  case y3602 => (intro w hSw; (try dsimp only at hSw); go_simp; (try with_reducible rfl))
                  simp only [Act.put, List.setIfInBounds_toArray, List.set_cons_zero, List.set_cons_succ]
                  refine wpAnyH_at 3 (some 148) (v := ?v3603) (by decide) rfl (by kernel_rfl) (by kernel_rfl) (by kernel_rfl) (fun _ _ _ h => h) (Or.inl ⟨by rfl, ?y3603⟩) (by assumption) ?r3603
                  case y3603 => (intro w hSw; (try dsimp only at hSw); go_simp; (try with_reducible rfl))
                  simp only [Act.put, List.setIfInBounds_toArray, List.set_cons_zero, List.set_cons_succ]
                  refine wpAnyH_at 5 (some 150) (v := ?v3605) (by decide) rfl (by kernel_rfl) (by kernel_rfl) (by kernel_rfl) (fun _ _ _ h => h) (Or.inl ⟨by rfl, ?y3605⟩) (by assumption) ?r3605
                  case y3605 => (intro w hSw; (try dsimp only at hSw); go_simp; (try with_reducible rfl))
                  simp only [Act.put, List.setIfInBounds_toArray, List.set_cons_zero, List.set_cons_succ]
                  refine wpAnyH_at 6 (some 151) (v := ?v3606) (by decide) rfl (by kernel_rfl) (by kernel_rfl) (by kernel_rfl) (fun _ _ _ h => h) (Or.inl ⟨by rfl, ?y3606⟩) (by assumption) ?r3606
                  case y3606 => (intro w hSw; (try dsimp only at hSw); go_simp; (try with_reducible rfl))
                  simp only [Act.put, List.setIfInBounds_toArray, List.set_cons_zero, List.set_cons_succ]
                  refine wpAnyH_ready (rs := [4, 7]) (by kernel_rfl) (by simp) ?_
                  refine AllReadyH.cons rfl (fun K hK => ?_) (AllReadyH.cons rfl (fun K hK => ?_) AllReadyH.nil)
                  · go_simp
                    try dsimp only []
                    refine hK.out _ _ (by exact ⟨d0, d1⟩) (fun hHeld => ?_)
                    clear hK K
                    try simp only [Act.put, List.setIfInBounds_toArray, List.set_cons_zero, List.set_cons_succ]
                    refine wpAnyH_ready (rs := [7]) (by kernel_rfl) (by simp) ?_
                    refine AllReadyH.cons rfl (fun K hK => ?_) AllReadyH.nil
                    go_simp
                    try dsimp only []
                    refine hK.out _ _ (by exact ⟨k1, k2⟩) (fun hHeld => ?_)
                    clear hK K
                    try simp only [Act.put, List.setIfInBounds_toArray, List.set_cons_zero, List.set_cons_succ]
                    refine wpAnyH_ready (rs := [8]) (by kernel_rfl) (by simp) ?_
                    refine AllReadyH.cons rfl (fun K hK => ?_) AllReadyH.nil
                    go_simp
                    refine (ins_any (by exact OW.out) (scells_one _) (L0.length) (by exact HIL.out) (own_two (w := W6) _ _).drew (by simp [Value.oneCell']) (fun g hg e => by have h1 := HF.out _ (G3.out _ e); have h2 := AI6.out.k.size; simp [Value.ownBlock] at hg; omega) (by omega)).mono ?_
                    rintro e w7 ⟨a7, c7, rfl, ho7, hk7, hf7⟩
                    have r7 := (hk7.block sb (row_lt RW.out) (OW.out.ne_block RW.out (by decide))).trans RW.out
                    have x7 := (hk7.block xb (row_lt XW.out) (fun e => by have h1 := HF.out _ (G3.out _ e); have h2 := AI6.out.n; omega)).trans XW.out
                    obtain ⟨e0, e1, _⟩ := cell2 x7
                    try dsimp only []
                    refine hK.out _ _ (by exact ⟨e0, e1⟩) (fun hHeld => ?_)
                    clear hK K
                    try simp only [Act.put, List.setIfInBounds_toArray, List.set_cons_zero, List.set_cons_succ]
                    refine wpAnyH_at 9 (some 154) (v := ?v36109) (by decide) rfl (by kernel_rfl) (by kernel_rfl) (by kernel_rfl) (fun _ _ _ h => h) (Or.inl ⟨by rfl, ?y36109⟩) (by assumption) ?r36109
                    case y36109 => (intro w hSw; (try dsimp only at hSw); go_simp; (try with_reducible rfl))
                    simp only [Act.put, List.setIfInBounds_toArray, List.set_cons_zero, List.set_cons_succ]
                    refine wpAnyH_at 10 (some 155) (v := ?v36110) (by decide) rfl (by kernel_rfl) (by kernel_rfl) (by kernel_rfl) (fun _ _ _ h => h) (Or.inl ⟨by rfl, ?y36110⟩) (by assumption) ?r36110
                    case y36110 => (intro w hSw; (try dsimp only at hSw); go_simp; (try with_reducible rfl))
                    simp only [Act.put, List.setIfInBounds_toArray, List.set_cons_zero, List.set_cons_succ]
                    have c7' : w7.cell? ⟨sb, 0, none⟩ = some (.slice ao6 C6.length cap6) := by have := row_cell r7 0; simpa using this
                    have f7' := row_free r7 0
                    refine wpAnyH_ready (rs := [11]) (by kernel_rfl) (by simp) ?_
                    refine AllReadyH.cons rfl (fun K hK => ?_) AllReadyH.nil
                    go_simp
                    try dsimp only []
                    refine hK.out _ _ (by exact ⟨(cell2 (((Kept.refl (fun k => k = sb) w7).setCell (.inl rfl) _).block xb (row_lt x7) n2 |>.trans x7)).1, (cell2 (((Kept.refl (fun k => k = sb) w7).setCell (.inl rfl) _).block xb (row_lt x7) n2 |>.trans x7)).2.1⟩) (fun hHeld => ?_)
                    clear hK K
                    try simp only [Act.put, List.setIfInBounds_toArray, List.set_cons_zero, List.set_cons_succ]
                    refine wpAnyH_done (by kernel_rfl) ?_ _
                    have R7 := hid r7; have HO7 := hid ho7; have HK7 := hid hk7; have HF7 := hid hf7
                    clear hHeld c7' f7' r7 ho7 hk7 hf7 x7 e0 e1
                    go_wp2
                    go_ret
                    have ho := HO7.out
                    have hfo := HF7.out
                    have hl : C6.length + 1 = T.length := by rw [HT6.out, HC6.out]; simp; omega
                    have hd : T = C6.take (L0.length) ++ [(zp, x2)] ++ C6.drop (L0.length) := by rw [HC6.out, List.take_left' rfl, List.drop_left' rfl]; exact HT6.out
                    have hsc : (scells C6).take ((L0.length) * 2) ++ [.int .u32 (zp), .int .u32 (x2)] ++ (scells C6).drop ((L0.length) * 2) = scells T := by
                      rw [← scells_take, ← scells_drop, hd, scells_app, scells_app]; rfl
                    rw [hsc] at ho
                    rw [hl] at ho hfo ⊢
                    rw [← HTA.out]
                    refine ⟨by rw [HC.out]; rfl, SetAt.put (F := fun g => F g ∨ w.heap.size ≤ g) (S0 := C6) R7.out (.inl AI6.out.s.m) HGA.out ho (fun g hg => ?_), ?_⟩
                    · rcases hfo g hg with h1 | h1
                      · exact .inl (G3.out g h1)
                      · right; have := AI6.out.k.size; simp at h1; omega
                    · exact Kept.setCell (F := F) (Kept.trans' (F := F) ((AI6.out.k.alloc _).drew) HK7.out (fun i hi => Or.inl (G3.out i hi))) (Or.inl AI6.out.s.m) _
                  · go_simp
                    try dsimp only []
                    refine hK.out _ _ (by exact ⟨k1, k2⟩) (fun hHeld => ?_)
                    clear hK K
                    try simp only [Act.put, List.setIfInBounds_toArray, List.set_cons_zero, List.set_cons_succ]
                    refine wpAnyH_ready (rs := [4]) (by kernel_rfl) (by simp) ?_
                    refine AllReadyH.cons rfl (fun K hK => ?_) AllReadyH.nil
                    go_simp
                    try dsimp only []
                    refine hK.out _ _ (by exact ⟨k1, k2⟩) (fun hHeld => ?_)
                    clear hK K
                    try simp only [Act.put, List.setIfInBounds_toArray, List.set_cons_zero, List.set_cons_succ]
                    refine wpAnyH_ready (rs := [8]) (by kernel_rfl) (by simp) ?_
                    refine AllReadyH.cons rfl (fun K hK => ?_) AllReadyH.nil
                    go_simp
                    refine (ins_any (by exact OW.out) (scells_one _) (L0.length) (by exact HIL.out) (own_two (w := W6) _ _).drew (by simp [Value.oneCell']) (fun g hg e => by have h1 := HF.out _ (G3.out _ e); have h2 := AI6.out.k.size; simp [Value.ownBlock] at hg; omega) (by omega)).mono ?_
                    rintro e w7 ⟨a7, c7, rfl, ho7, hk7, hf7⟩
                    have r7 := (hk7.block sb (row_lt RW.out) (OW.out.ne_block RW.out (by decide))).trans RW.out
                    have x7 := (hk7.block xb (row_lt XW.out) (fun e => by have h1 := HF.out _ (G3.out _ e); have h2 := AI6.out.n; omega)).trans XW.out
                    obtain ⟨e0, e1, _⟩ := cell2 x7
                    try dsimp only []
                    refine hK.out _ _ (by exact ⟨e0, e1⟩) (fun hHeld => ?_)
                    clear hK K
                    try simp only [Act.put, List.setIfInBounds_toArray, List.set_cons_zero, List.set_cons_succ]
                    refine wpAnyH_at 9 (some 154) (v := ?v36209) (by decide) rfl (by kernel_rfl) (by kernel_rfl) (by kernel_rfl) (fun _ _ _ h => h) (Or.inl ⟨by rfl, ?y36209⟩) (by assumption) ?r36209
                    case y36209 => (intro w hSw; (try dsimp only at hSw); go_simp; (try with_reducible rfl))
                    simp only [Act.put, List.setIfInBounds_toArray, List.set_cons_zero, List.set_cons_succ]
                    refine wpAnyH_at 10 (some 155) (v := ?v36210) (by decide) rfl (by kernel_rfl) (by kernel_rfl) (by kernel_rfl) (fun _ _ _ h => h) (Or.inl ⟨by rfl, ?y36210⟩) (by assumption) ?r36210
                    case y36210 => (intro w hSw; (try dsimp only at hSw); go_simp; (try with_reducible rfl))
                    simp only [Act.put, List.setIfInBounds_toArray, List.set_cons_zero, List.set_cons_succ]
                    have c7' : w7.cell? ⟨sb, 0, none⟩ = some (.slice ao6 C6.length cap6) := by have := row_cell r7 0; simpa using this
                    have f7' := row_free r7 0
                    refine wpAnyH_ready (rs := [11]) (by kernel_rfl) (by simp) ?_
                    refine AllReadyH.cons rfl (fun K hK => ?_) AllReadyH.nil
                    go_simp
                    try dsimp only []
                    refine hK.out _ _ (by exact ⟨(cell2 (((Kept.refl (fun k => k = sb) w7).setCell (.inl rfl) _).block xb (row_lt x7) n2 |>.trans x7)).1, (cell2 (((Kept.refl (fun k => k = sb) w7).setCell (.inl rfl) _).block xb (row_lt x7) n2 |>.trans x7)).2.1⟩) (fun hHeld => ?_)
                    clear hK K
                    try simp only [Act.put, List.setIfInBounds_toArray, List.set_cons_zero, List.set_cons_succ]
                    refine wpAnyH_done (by kernel_rfl) ?_ _
                    have R7 := hid r7; have HO7 := hid ho7; have HK7 := hid hk7; have HF7 := hid hf7
                    clear hHeld c7' f7' r7 ho7 hk7 hf7 x7 e0 e1
                    go_wp2
                    go_ret
                    have ho := HO7.out
                    have hfo := HF7.out
                    have hl : C6.length + 1 = T.length := by rw [HT6.out, HC6.out]; simp; omega
                    have hd : T = C6.take (L0.length) ++ [(zp, x2)] ++ C6.drop (L0.length) := by rw [HC6.out, List.take_left' rfl, List.drop_left' rfl]; exact HT6.out
                    have hsc : (scells C6).take ((L0.length) * 2) ++ [.int .u32 (zp), .int .u32 (x2)] ++ (scells C6).drop ((L0.length) * 2) = scells T := by
                      rw [← scells_take, ← scells_drop, hd, scells_app, scells_app]; rfl
                    rw [hsc] at ho
                    rw [hl] at ho hfo ⊢
                    rw [← HTA.out]
                    refine ⟨by rw [HC.out]; rfl, SetAt.put (F := fun g => F g ∨ w.heap.size ≤ g) (S0 := C6) R7.out (.inl AI6.out.s.m) HGA.out ho (fun g hg => ?_), ?_⟩
                    · rcases hfo g hg with h1 | h1
                      · exact .inl (G3.out g h1)
                      · right; have := AI6.out.k.size; simp at h1; omega
                    · exact Kept.setCell (F := F) (Kept.trans' (F := F) ((AI6.out.k.alloc _).drew) HK7.out (fun i hi => Or.inl (G3.out i hi))) (Or.inl AI6.out.s.m) _
                · have hzx1 : (zq == x1 - 1) = false := by simpa using hz
                  have ht : T = L ++ [(x1, x2)] ++ R := by rw [HT5.out]; simp [leftL, leftX, HL.out, hz]
                  have HT6 := hid ht; have HC6 := HC5
                  clear ht
                  refine wp_region_held_drew (S := fun w' => w'.cell? ⟨sb, 0, none⟩ = some (.slice (some ⟨g, 0, none⟩) C5.length cap5) ∧ w'.cell? ⟨xb, 0, none⟩ = some (.int .u32 x1) ∧ w'.cell? ⟨g, L0.length * 2 + 1, none⟩ = some (.int .u32 zq)) (by kernel_rfl) (by exact ⟨c0, d0, y1⟩) (fun hHeld => ?_)
                  refine wpAnyH_at 0 (some 100) (v := ?v3400) (by decide) rfl (by kernel_rfl) (by kernel_rfl) (by kernel_rfl) (fun _ _ _ h => h) (Or.inl ⟨by rfl, ?y3400⟩) (by assumption) ?r3400
                  case y3400 => (intro w hSw; (try dsimp only at hSw); go_simp; (try with_reducible rfl))
                  simp only [Act.put, List.setIfInBounds_toArray, List.set_cons_zero, List.set_cons_succ]
                  refine wpAnyH_at 1 (some 101) (v := ?v3401) (by decide) rfl (by kernel_rfl) (by kernel_rfl) (by kernel_rfl) (fun _ _ _ h => h) (Or.inl ⟨by rfl, ?y3401⟩) (by assumption) ?r3401
                  case y3401 => (intro w hSw; (try dsimp only at hSw); go_simp; (try with_reducible rfl))
                  simp only [Act.put, List.setIfInBounds_toArray, List.set_cons_zero, List.set_cons_succ]
                  refine wpAnyH_at 2 (some 102) (v := ?v3402) (by decide) rfl (by kernel_rfl) (by kernel_rfl) (by kernel_rfl) (fun _ _ _ h => h) (Or.inl ⟨by rfl, ?y3402⟩) (by assumption) ?r3402
                  case y3402 => (intro w hSw; (try dsimp only at hSw); go_simp; (try with_reducible rfl))
                  simp only [Act.put, List.setIfInBounds_toArray, List.set_cons_zero, List.set_cons_succ]
                  refine wpAnyH_at 3 (some 103) (v := ?v3403) (by decide) rfl (by kernel_rfl) (by kernel_rfl) (by kernel_rfl) (fun _ _ _ h => h) (Or.inl ⟨by rfl, ?y3403⟩) (by assumption) ?r3403
                  case y3403 => (intro w hSw; (try dsimp only at hSw); go_simp; (try with_reducible rfl))
                  simp only [Act.put, List.setIfInBounds_toArray, List.set_cons_zero, List.set_cons_succ]
                  refine wpAnyH_at 4 (some 104) (v := ?v3404) (by decide) rfl (by kernel_rfl) (by kernel_rfl) (by kernel_rfl) (fun _ _ _ h => h) (Or.inl ⟨by rfl, ?y3404⟩) (by assumption) ?r3404
                  case y3404 => (intro w hSw; (try dsimp only at hSw); go_simp; (try with_reducible rfl))
                  simp only [Act.put, List.setIfInBounds_toArray, List.set_cons_zero, List.set_cons_succ]
                  refine wpAnyH_at 5 (some 105) (v := ?v3405) (by decide) rfl (by kernel_rfl) (by kernel_rfl) (by kernel_rfl) (fun _ _ _ h => h) (Or.inl ⟨by rfl, ?y3405⟩) (by assumption) ?r3405
                  case y3405 => (intro w hSw; (try dsimp only at hSw); go_simp; (try with_reducible rfl))
                  simp only [Act.put, List.setIfInBounds_toArray, List.set_cons_zero, List.set_cons_succ]
                  refine wpAnyH_at 6 (some 106) (v := ?v3406) (by decide) rfl (by kernel_rfl) (by kernel_rfl) (by kernel_rfl) (fun _ _ _ h => h) (Or.inl ⟨by rfl, ?y3406⟩) (by assumption) ?r3406
                  case y3406 => (intro w hSw; (try dsimp only at hSw); go_simp; (try with_reducible rfl))
                  simp only [Act.put, List.setIfInBounds_toArray, List.set_cons_zero, List.set_cons_succ]
                  refine wpAnyH_at 7 (some 107) (v := ?v3407) (by decide) rfl (by kernel_rfl) (by kernel_rfl) (by kernel_rfl) (fun _ _ _ h => h) (Or.inl ⟨by rfl, ?y3407⟩) (by assumption) ?r3407
                  case y3407 => (intro w hSw; (try dsimp only at hSw); go_simp; (try with_reducible rfl))
                  simp only [Act.put, List.setIfInBounds_toArray, List.set_cons_zero, List.set_cons_succ]
                  refine wpAnyH_at 8 (some 108) (v := ?v3408) (by decide) rfl (by kernel_rfl) (by kernel_rfl) (by kernel_rfl) (fun _ _ _ h => h) (Or.inl ⟨by rfl, ?y3408⟩) (by assumption) ?r3408
                  case y3408 => (intro w hSw; (try dsimp only at hSw); go_simp; (try with_reducible rfl))
                  simp only [Act.put, List.setIfInBounds_toArray, List.set_cons_zero, List.set_cons_succ]
                  refine wpAnyH_at 9 (some 109) (v := ?v3409) (by decide) rfl (by kernel_rfl) (by kernel_rfl) (by kernel_rfl) (fun _ _ _ h => h) (Or.inl ⟨by rfl, ?y3409⟩) (by assumption) ?r3409
                  case y3409 => (intro w hSw; (try dsimp only at hSw); go_simp; (try with_reducible rfl))
                  simp only [Act.put, List.setIfInBounds_toArray, List.set_cons_zero, List.set_cons_succ]
                  refine wpAnyH_at 10 (some 110) (v := ?v3410) (by decide) rfl (by kernel_rfl) (by kernel_rfl) (by kernel_rfl) (fun _ _ _ h => h) (Or.inl ⟨by rfl, ?y3410⟩) (by assumption) ?r3410
                  case y3410 => (intro w hSw; (try dsimp only at hSw); go_simp; (try with_reducible rfl))
                  simp only [Act.put, List.setIfInBounds_toArray, List.set_cons_zero, List.set_cons_succ]
                  refine wpAnyH_at 11 (some 111) (v := ?v3411) (by decide) rfl (by kernel_rfl) (by kernel_rfl) (by kernel_rfl) (fun _ _ _ h => h) (Or.inl ⟨by rfl, ?y3411⟩) (by assumption) ?r3411
                  case y3411 => (intro w hSw; (try dsimp only at hSw); go_simp; (try with_reducible rfl))
                  simp only [Act.put, List.setIfInBounds_toArray, List.set_cons_zero, List.set_cons_succ]
                  refine wpAnyH_at 12 (some 112) (v := ?v3412) (by decide) rfl (by kernel_rfl) (by kernel_rfl) (by kernel_rfl) (fun _ _ _ h => h) (Or.inl ⟨by rfl, ?y3412⟩) (by assumption) ?r3412
                  case y3412 => (intro w hSw; (try dsimp only at hSw); go_simp; (try with_reducible rfl))
                  simp only [Act.put, List.setIfInBounds_toArray, List.set_cons_zero, List.set_cons_succ]
                  refine wpAnyH_at 13 (some 113) (v := ?v3413) (by decide) rfl (by kernel_rfl) (by kernel_rfl) (by kernel_rfl) (fun _ _ _ h => h) (Or.inl ⟨by rfl, ?y3413⟩) (by assumption) ?r3413
                  case y3413 => (intro w hSw; (try dsimp only at hSw); go_simp; (try with_reducible rfl))
                  simp only [Act.put, List.setIfInBounds_toArray, List.set_cons_zero, List.set_cons_succ]
                  refine wpAnyH_at 14 (some 114) (v := ?v3414) (by decide) rfl (by kernel_rfl) (by kernel_rfl) (by kernel_rfl) (fun _ _ _ h => h) (Or.inl ⟨by rfl, ?y3414⟩) (by assumption) ?r3414
                  case y3414 => (intro w hSw; (try dsimp only at hSw); go_simp; (try with_reducible rfl))
                  simp only [Act.put, List.setIfInBounds_toArray, List.set_cons_zero, List.set_cons_succ]
                  refine wpAnyH_at 15 (some 115) (v := ?v3415) (by decide) rfl (by kernel_rfl) (by kernel_rfl) (by kernel_rfl) (fun _ _ _ h => h) (Or.inl ⟨by rfl, ?y3415⟩) (by assumption) ?r3415
                  case y3415 => (intro w hSw; (try dsimp only at hSw); go_simp; (try with_reducible rfl))
                  simp only [Act.put, List.setIfInBounds_toArray, List.set_cons_zero, List.set_cons_succ]
                  refine wpAnyH_at 16 (some 116) (v := ?v3416) (by decide) rfl (by kernel_rfl) (by kernel_rfl) (by kernel_rfl) (fun _ _ _ h => h) (Or.inl ⟨by rfl, ?y3416⟩) (by assumption) ?r3416
                  case y3416 => (intro w hSw; (try dsimp only at hSw); go_simp; (try with_reducible rfl))
                  simp only [Act.put, List.setIfInBounds_toArray, List.set_cons_zero, List.set_cons_succ]
                  refine wpAnyH_at 17 (some 117) (v := ?v3417) (by decide) rfl (by kernel_rfl) (by kernel_rfl) (by kernel_rfl) (fun _ _ _ h => h) (Or.inl ⟨by rfl, ?y3417⟩) (by assumption) ?r3417
                  case y3417 => (intro w hSw; (try dsimp only at hSw); go_simp; (try with_reducible rfl))
                  simp only [Act.put, List.setIfInBounds_toArray, List.set_cons_zero, List.set_cons_succ]
                  refine wpAnyH_at 18 (some 118) (v := ?v3418) (by decide) rfl (by kernel_rfl) (by kernel_rfl) (by kernel_rfl) (fun _ _ _ h => h) (Or.inl ⟨by rfl, ?y3418⟩) (by assumption) ?r3418
                  case y3418 => (intro w hSw; (try dsimp only at hSw); go_simp; (try with_reducible rfl))
                  simp only [Act.put, List.setIfInBounds_toArray, List.set_cons_zero, List.set_cons_succ]
                  refine wpAnyH_at 19 (some 119) (v := ?v3419) (by decide) rfl (by kernel_rfl) (by kernel_rfl) (by kernel_rfl) (fun _ _ _ h => h) (Or.inl ⟨by rfl, ?y3419⟩) (by assumption) ?r3419
                  case y3419 => (intro w hSw; (try dsimp only at hSw); go_simp; (try with_reducible rfl))
                  simp only [Act.put, List.setIfInBounds_toArray, List.set_cons_zero, List.set_cons_succ]
                  refine wpAnyH_at 20 (some 120) (v := ?v3420) (by decide) rfl (by kernel_rfl) (by kernel_rfl) (by kernel_rfl) (fun _ _ _ h => h) (Or.inl ⟨by rfl, ?y3420⟩) (by assumption) ?r3420
                  case y3420 => (intro w hSw; (try dsimp only at hSw); go_simp; (try with_reducible rfl))
                  simp only [Act.put, List.setIfInBounds_toArray, List.set_cons_zero, List.set_cons_succ]
                  refine wpAnyH_at 21 (some 121) (v := ?v3421) (by decide) rfl (by kernel_rfl) (by kernel_rfl) (by kernel_rfl) (fun _ _ _ h => h) (Or.inl ⟨by rfl, ?y3421⟩) (by assumption) ?r3421
                  case y3421 => (intro w hSw; (try dsimp only at hSw); go_simp; (try with_reducible rfl))
                  simp only [Act.put, List.setIfInBounds_toArray, List.set_cons_zero, List.set_cons_succ]
                  refine wpAnyH_done (by kernel_rfl) ?_ _
                  clear hHeld
                  have AI6 := hid HA5.out.drew
                  go_wp2_with fail
                  clear c0 cf d0 d1 df n1 n2 y0 y1 G1 G2 G3
                  generalize W5.drew = W6 at AI6 ⊢
                  obtain ⟨ao6, cap6, g1, g2, g3, c0, cf, d0, d1, df, n1, n2, hCn⟩ := AI6.out.facts HF.out
                  have G3 := hid g3
                  have OW := hid (show Own ((W6.alloc (.cells #[.int .u32 (x1), .int .u32 (x2)] 46)).drew) 46 2 _ _ _ from (g2.alloc _).drew)
                  have RW := hid (row_old (w := W6) g1 (.cells #[.int .u32 (x1), .int .u32 (x2)] 46))
                  have XW := hid (row_old (w := W6) AI6.out.x (.cells #[.int .u32 (x1), .int .u32 (x2)] 46))
                  have HIL := hid (show L.length ≤ C5.length by rw [HC6.out]; simp)
                  have k0 : (W6.alloc (.cells #[.int .u32 (x1), .int .u32 (x2)] 46)).cell? ⟨sb, 0, none⟩ = some (.slice ao6 C5.length cap6) := by have := row_cell RW.out 0; simpa using this
                  obtain ⟨k1, k2, _⟩ := cell2 XW.out
                  clear g1 g2 g3
                  refine wp_region_held_drew (S := fun w' => w'.cell? ⟨xb, 0, none⟩ = some (.int .u32 (x1)) ∧ w'.cell? ⟨xb, 1, none⟩ = some (.int .u32 (x2))) (by kernel_rfl) (by exact ⟨d0, d1⟩) (fun hHeld => ?_)
                  refine wpAnyH_at 0 (some 145) (v := ?v3500) (by decide) rfl (by kernel_rfl) (by kernel_rfl) (by kernel_rfl) (fun _ _ _ h => h) (Or.inl ⟨by rfl, ?y3500⟩) (by assumption) ?r3500
                  case y3500 => (intro w hSw; (try dsimp only at hSw); go_simp; (try with_reducible rfl))
                  simp only [Act.put, List.setIfInBounds_toArray, List.set_cons_zero, List.set_cons_succ]
                  refine wpAnyH_at 1 (some 146) (v := ?v3501) (by decide) rfl (by kernel_rfl) (by kernel_rfl) (by kernel_rfl) (fun _ _ _ h => h) (Or.inl ⟨by rfl, ?y3501⟩) (by assumption) ?r3501
                  case y3501 => (intro w hSw; (try dsimp only at hSw); go_simp; (try with_reducible rfl))
                  simp only [Act.put, List.setIfInBounds_toArray, List.set_cons_zero, List.set_cons_succ]
                  refine wpAnyH_at 2 (some 147) (v := ?v3502) (by decide) rfl (by kernel_rfl) (by kernel_rfl) (by kernel_rfl) (fun _ _ _ h => h) (Or.inl ⟨by rfl, ?y3502⟩) (by assumption) ?r3502
                  case y3502 => (intro w hSw; (try dsimp only at hSw); go_simp; (try with_reducible rfl))
                  simp only [Act.put, List.setIfInBounds_toArray, List.set_cons_zero, List.set_cons_succ]
                  refine wpAnyH_at 3 (some 148) (v := ?v3503) (by decide) rfl (by kernel_rfl) (by kernel_rfl) (by kernel_rfl) (fun _ _ _ h => h) (Or.inl ⟨by rfl, ?y3503⟩) (by assumption) ?r3503
                  case y3503 => (intro w hSw; (try dsimp only at hSw); go_simp; (try with_reducible rfl))
                  simp only [Act.put, List.setIfInBounds_toArray, List.set_cons_zero, List.set_cons_succ]
                  refine wpAnyH_at 5 (some 150) (v := ?v3505) (by decide) rfl (by kernel_rfl) (by kernel_rfl) (by kernel_rfl) (fun _ _ _ h => h) (Or.inl ⟨by rfl, ?y3505⟩) (by assumption) ?r3505
                  case y3505 => (intro w hSw; (try dsimp only at hSw); go_simp; (try with_reducible rfl))
                  simp only [Act.put, List.setIfInBounds_toArray, List.set_cons_zero, List.set_cons_succ]
                  refine wpAnyH_at 6 (some 151) (v := ?v3506) (by decide) rfl (by kernel_rfl) (by kernel_rfl) (by kernel_rfl) (fun _ _ _ h => h) (Or.inl ⟨by rfl, ?y3506⟩) (by assumption) ?r3506
                  case y3506 => (intro w hSw; (try dsimp only at hSw); go_simp; (try with_reducible rfl))
                  simp only [Act.put, List.setIfInBounds_toArray, List.set_cons_zero, List.set_cons_succ]
                  refine wpAnyH_ready (rs := [4, 7]) (by kernel_rfl) (by simp) ?_
                  refine AllReadyH.cons rfl (fun K hK => ?_) (AllReadyH.cons rfl (fun K hK => ?_) AllReadyH.nil)
                  · go_simp
                    try dsimp only []
                    refine hK.out _ _ (by exact ⟨d0, d1⟩) (fun hHeld => ?_)
                    clear hK K
                    try simp only [Act.put, List.setIfInBounds_toArray, List.set_cons_zero, List.set_cons_succ]
                    refine wpAnyH_ready (rs := [7]) (by kernel_rfl) (by simp) ?_
                    refine AllReadyH.cons rfl (fun K hK => ?_) AllReadyH.nil
                    go_simp
                    try dsimp only []
                    refine hK.out _ _ (by exact ⟨k1, k2⟩) (fun hHeld => ?_)
                    clear hK K
                    try simp only [Act.put, List.setIfInBounds_toArray, List.set_cons_zero, List.set_cons_succ]
                    refine wpAnyH_ready (rs := [8]) (by kernel_rfl) (by simp) ?_
                    refine AllReadyH.cons rfl (fun K hK => ?_) AllReadyH.nil
                    go_simp
                    refine (ins_any (by exact OW.out) (scells_one _) (L.length) (by exact HIL.out) (own_two (w := W6) _ _).drew (by simp [Value.oneCell']) (fun g hg e => by have h1 := HF.out _ (G3.out _ e); have h2 := AI6.out.k.size; simp [Value.ownBlock] at hg; omega) (by omega)).mono ?_
                    rintro e w7 ⟨a7, c7, rfl, ho7, hk7, hf7⟩
                    have r7 := (hk7.block sb (row_lt RW.out) (OW.out.ne_block RW.out (by decide))).trans RW.out
                    have x7 := (hk7.block xb (row_lt XW.out) (fun e => by have h1 := HF.out _ (G3.out _ e); have h2 := AI6.out.n; omega)).trans XW.out
                    obtain ⟨e0, e1, _⟩ := cell2 x7
                    try dsimp only []
                    refine hK.out _ _ (by exact ⟨e0, e1⟩) (fun hHeld => ?_)
                    clear hK K
                    try simp only [Act.put, List.setIfInBounds_toArray, List.set_cons_zero, List.set_cons_succ]
                    refine wpAnyH_at 9 (some 154) (v := ?v35109) (by decide) rfl (by kernel_rfl) (by kernel_rfl) (by kernel_rfl) (fun _ _ _ h => h) (Or.inl ⟨by rfl, ?y35109⟩) (by assumption) ?r35109
                    case y35109 => (intro w hSw; (try dsimp only at hSw); go_simp; (try with_reducible rfl))
                    simp only [Act.put, List.setIfInBounds_toArray, List.set_cons_zero, List.set_cons_succ]
                    refine wpAnyH_at 10 (some 155) (v := ?v35110) (by decide) rfl (by kernel_rfl) (by kernel_rfl) (by kernel_rfl) (fun _ _ _ h => h) (Or.inl ⟨by rfl, ?y35110⟩) (by assumption) ?r35110
                    case y35110 => (intro w hSw; (try dsimp only at hSw); go_simp; (try with_reducible rfl))
                    simp only [Act.put, List.setIfInBounds_toArray, List.set_cons_zero, List.set_cons_succ]
                    have c7' : w7.cell? ⟨sb, 0, none⟩ = some (.slice ao6 C5.length cap6) := by have := row_cell r7 0; simpa using this
                    have f7' := row_free r7 0
                    refine wpAnyH_ready (rs := [11]) (by kernel_rfl) (by simp) ?_
                    refine AllReadyH.cons rfl (fun K hK => ?_) AllReadyH.nil
                    go_simp
                    try dsimp only []
                    refine hK.out _ _ (by exact ⟨(cell2 (((Kept.refl (fun k => k = sb) w7).setCell (.inl rfl) _).block xb (row_lt x7) n2 |>.trans x7)).1, (cell2 (((Kept.refl (fun k => k = sb) w7).setCell (.inl rfl) _).block xb (row_lt x7) n2 |>.trans x7)).2.1⟩) (fun hHeld => ?_)
                    clear hK K
                    try simp only [Act.put, List.setIfInBounds_toArray, List.set_cons_zero, List.set_cons_succ]
                    refine wpAnyH_done (by kernel_rfl) ?_ _
                    have R7 := hid r7; have HO7 := hid ho7; have HK7 := hid hk7; have HF7 := hid hf7
                    clear hHeld c7' f7' r7 ho7 hk7 hf7 x7 e0 e1
                    go_wp2
                    go_ret
                    have ho := HO7.out
                    have hfo := HF7.out
                    have hl : C5.length + 1 = T.length := by rw [HT6.out, HC6.out]; simp; omega
                    have hd : T = C5.take (L.length) ++ [(x1, x2)] ++ C5.drop (L.length) := by rw [HC6.out, List.take_left' rfl, List.drop_left' rfl]; exact HT6.out
                    have hsc : (scells C5).take ((L.length) * 2) ++ [.int .u32 (x1), .int .u32 (x2)] ++ (scells C5).drop ((L.length) * 2) = scells T := by
                      rw [← scells_take, ← scells_drop, hd, scells_app, scells_app]; rfl
                    rw [hsc] at ho
                    rw [hl] at ho hfo ⊢
                    rw [← HTA.out]
                    refine ⟨by rw [HC.out]; rfl, SetAt.put (F := fun g => F g ∨ w.heap.size ≤ g) (S0 := C5) R7.out (.inl AI6.out.s.m) HGA.out ho (fun g hg => ?_), ?_⟩
                    · rcases hfo g hg with h1 | h1
                      · exact .inl (G3.out g h1)
                      · right; have := AI6.out.k.size; simp at h1; omega
                    · exact Kept.setCell (F := F) (Kept.trans' (F := F) ((AI6.out.k.alloc _).drew) HK7.out (fun i hi => Or.inl (G3.out i hi))) (Or.inl AI6.out.s.m) _
                  · go_simp
                    try dsimp only []
                    refine hK.out _ _ (by exact ⟨k1, k2⟩) (fun hHeld => ?_)
                    clear hK K
                    try simp only [Act.put, List.setIfInBounds_toArray, List.set_cons_zero, List.set_cons_succ]
                    refine wpAnyH_ready (rs := [4]) (by kernel_rfl) (by simp) ?_
                    refine AllReadyH.cons rfl (fun K hK => ?_) AllReadyH.nil
                    go_simp
                    try dsimp only []
                    refine hK.out _ _ (by exact ⟨k1, k2⟩) (fun hHeld => ?_)
                    clear hK K
                    try simp only [Act.put, List.setIfInBounds_toArray, List.set_cons_zero, List.set_cons_succ]
                    refine wpAnyH_ready (rs := [8]) (by kernel_rfl) (by simp) ?_
                    refine AllReadyH.cons rfl (fun K hK => ?_) AllReadyH.nil
                    go_simp
                    refine (ins_any (by exact OW.out) (scells_one _) (L.length) (by exact HIL.out) (own_two (w := W6) _ _).drew (by simp [Value.oneCell']) (fun g hg e => by have h1 := HF.out _ (G3.out _ e); have h2 := AI6.out.k.size; simp [Value.ownBlock] at hg; omega) (by omega)).mono ?_
                    rintro e w7 ⟨a7, c7, rfl, ho7, hk7, hf7⟩
                    have r7 := (hk7.block sb (row_lt RW.out) (OW.out.ne_block RW.out (by decide))).trans RW.out
                    have x7 := (hk7.block xb (row_lt XW.out) (fun e => by have h1 := HF.out _ (G3.out _ e); have h2 := AI6.out.n; omega)).trans XW.out
                    obtain ⟨e0, e1, _⟩ := cell2 x7
                    try dsimp only []
                    refine hK.out _ _ (by exact ⟨e0, e1⟩) (fun hHeld => ?_)
                    clear hK K
                    try simp only [Act.put, List.setIfInBounds_toArray, List.set_cons_zero, List.set_cons_succ]
                    refine wpAnyH_at 9 (some 154) (v := ?v35209) (by decide) rfl (by kernel_rfl) (by kernel_rfl) (by kernel_rfl) (fun _ _ _ h => h) (Or.inl ⟨by rfl, ?y35209⟩) (by assumption) ?r35209
                    case y35209 => (intro w hSw; (try dsimp only at hSw); go_simp; (try with_reducible rfl))
                    simp only [Act.put, List.setIfInBounds_toArray, List.set_cons_zero, List.set_cons_succ]
                    refine wpAnyH_at 10 (some 155) (v := ?v35210) (by decide) rfl (by kernel_rfl) (by kernel_rfl) (by kernel_rfl) (fun _ _ _ h => h) (Or.inl ⟨by rfl, ?y35210⟩) (by assumption) ?r35210
                    case y35210 => (intro w hSw; (try dsimp only at hSw); go_simp; (try with_reducible rfl))
                    simp only [Act.put, List.setIfInBounds_toArray, List.set_cons_zero, List.set_cons_succ]
                    have c7' : w7.cell? ⟨sb, 0, none⟩ = some (.slice ao6 C5.length cap6) := by have := row_cell r7 0; simpa using this
                    have f7' := row_free r7 0
                    refine wpAnyH_ready (rs := [11]) (by kernel_rfl) (by simp) ?_
                    refine AllReadyH.cons rfl (fun K hK => ?_) AllReadyH.nil
                    go_simp
                    try dsimp only []
                    refine hK.out _ _ (by exact ⟨(cell2 (((Kept.refl (fun k => k = sb) w7).setCell (.inl rfl) _).block xb (row_lt x7) n2 |>.trans x7)).1, (cell2 (((Kept.refl (fun k => k = sb) w7).setCell (.inl rfl) _).block xb (row_lt x7) n2 |>.trans x7)).2.1⟩) (fun hHeld => ?_)
                    clear hK K
                    try simp only [Act.put, List.setIfInBounds_toArray, List.set_cons_zero, List.set_cons_succ]
                    refine wpAnyH_done (by kernel_rfl) ?_ _
                    have R7 := hid r7; have HO7 := hid ho7; have HK7 := hid hk7; have HF7 := hid hf7
                    clear hHeld c7' f7' r7 ho7 hk7 hf7 x7 e0 e1
                    go_wp2
                    go_ret
                    have ho := HO7.out
                    have hfo := HF7.out
                    have hl : C5.length + 1 = T.length := by rw [HT6.out, HC6.out]; simp; omega
                    have hd : T = C5.take (L.length) ++ [(x1, x2)] ++ C5.drop (L.length) := by rw [HC6.out, List.take_left' rfl, List.drop_left' rfl]; exact HT6.out
                    have hsc : (scells C5).take ((L.length) * 2) ++ [.int .u32 (x1), .int .u32 (x2)] ++ (scells C5).drop ((L.length) * 2) = scells T := by
                      rw [← scells_take, ← scells_drop, hd, scells_app, scells_app]; rfl
                    rw [hsc] at ho
                    rw [hl] at ho hfo ⊢
                    rw [← HTA.out]
                    refine ⟨by rw [HC.out]; rfl, SetAt.put (F := fun g => F g ∨ w.heap.size ≤ g) (S0 := C5) R7.out (.inl AI6.out.s.m) HGA.out ho (fun g hg => ?_), ?_⟩
                    · rcases hfo g hg with h1 | h1
                      · exact .inl (G3.out g h1)
                      · right; have := AI6.out.k.size; simp at h1; omega
                    · exact Kept.setCell (F := F) (Kept.trans' (F := F) ((AI6.out.k.alloc _).drew) HK7.out (fun i hi => Or.inl (G3.out i hi))) (Or.inl AI6.out.s.m) _
end Go.Proofs.Ytglcpiokmieppaa
