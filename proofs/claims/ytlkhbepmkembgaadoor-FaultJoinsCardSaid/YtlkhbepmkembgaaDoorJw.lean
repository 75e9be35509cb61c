/- Faults: FaultJoins' walk. -/
import Derived.Test.YtlkhbepmkembgaaDoorZ
import Derived.Test.YtlkhbepmkembgaaDoorReg
import Derived.Deep.CutBlock
namespace Go.Proofs.YtlkhbepmkembgaaDoor
open Go.RowKit
theorem step_join2 {ops : Array Oper} {o : Oper} {a : Act} {w : World} {K : Act → World → Prop} {Q : Exit → Act → World → Prop} {E : Prop} {tm : Array Value} (d : Option Tmp) (hd : o.dst = d) (hw : Region.wanted o (yielded ops tm) = true) (s x : Operand)
    (ho : o.op = .call { callee := .builtin .append, args := #[s, x], argTypes := #[22, 22] }) {w9 : World} (l : FL) (M : List FL) (v : Value) (hs : a.eval s = v) (hOL : OwnLit w9.heap.size w v l) (kc : Kept (fun _ => False) w9 w)
    (xv : Value) (hxv : a.eval x = xv) (hM : LL w xv M) (hb : M.length ≤ 1000)
    (h : ∀ a' c' w', Own w' 42 2 (.slice a' (M.length + 1) c') (M.length + 1) (lcells (l :: M)) → Kept (fun g => v.ownBlock = some g) w w' → Kept (fun _ => False) w9 w' → K (a.put d (.slice a' (M.length + 1) c')) w') :
    if Region.wanted o (yielded ops tm) = true then Oper.wp Tryd.prog o a w K Q else E := by
  subst hd
  rw [if_pos hw]
  obtain ⟨i, hi1, hi2, hi3, hi4⟩ := info_parts linkInfoR
  obtain ⟨v', w', hr, h1, h2, h3, h4⟩ := run_append_grows (P := Tryd.prog) w 22 o.type 42 i _ 2 16 Tryd.underlying22 hi1 hi2 hi3 hi4 rfl (by decide) v 1 (lcell l) hOL.1 xv M.length (lcells M) hM.src (by unfold maxLen; omega) (by omega)
  obtain ⟨a', c', rfl⟩ := h1.isSlice
  rw [Nat.add_comm 1 M.length] at hr h1 h3 h4
  unfold Oper.wp
  simp only [execOp, ho, resolve, invoke, builtin, Sem.run_bind, Sem.run_pure, Result.andThen_ok, List.map_toArray, List.map_cons, List.map_nil, hs, hxv, hr]
  exact h a' c' w' h1 h2 (kc.trans' h2 (fun i hi => .inr (hOL.2 i hi)))
abbrev o16 : Obj := .cells #[.slice none 0 0, .int .i64 0] 24
theorem wide_old {w8 x5 : World} {tb n c' : Nat} {a' : Option Addr} {fr : Int} {L : List FL} (hown : Own x5 42 2 (.slice a' n c') n (lcells L)) (hL : L.length = n) (hr : x5.heap[tb]? = some o16) (k : Kept (fun _ => False) w8 x5) (htb : w8.heap.size ≤ tb) :
    ∃ (tb' : Nat) (wv : Option Addr) (wq : Nat), Value.pointer (some ⟨tb, 0, none⟩) = .pointer (some ⟨tb', 0, none⟩) ∧ ((x5.setCell ⟨tb, 0, none⟩ (.slice a' n c')).setCell ⟨tb, 1, none⟩ (.int .i64 fr)).heap[tb']? = some (.cells #[.slice wv n wq, .int .i64 fr] 24 (0, 0)) ∧
      LL ((x5.setCell ⟨tb, 0, none⟩ (.slice a' n c')).setCell ⟨tb, 1, none⟩ (.int .i64 fr)) (.slice wv n wq) L ∧ Kept (fun _ => False) w8 ((x5.setCell ⟨tb, 0, none⟩ (.slice a' n c')).setCell ⟨tb, 1, none⟩ (.int .i64 fr)) := by
  subst hL
  have hne := hown.ne_block hr (by decide)
  have hks : Kept (fun g => g = tb) x5 ((x5.setCell ⟨tb, 0, none⟩ (.slice a' L.length c')).setCell ⟨tb, 1, none⟩ (.int .i64 fr)) := Kept.setCell (F := fun g => g = tb) (Kept.setCell (F := fun g => g = tb) (Kept.refl _ _) (p := ⟨tb, 0, none⟩) (.inl rfl) _) (p := ⟨tb, 1, none⟩) (.inl rfl) _
  refine ⟨tb, a', c', rfl, ?_, ?_, k.trans' hks (fun i hi => .inr (by rw [hi]; exact htb))⟩
  · have h1 := row_set (row_set hr 0 (.slice a' L.length c')) 1 (.int .i64 fr)
    simpa using h1
  · exact (hown.kept hks (fun g hg e => hne (by rw [hg, e]))).lies (lcells_one _) (fun _ _ => id)
theorem ownLit_alloc {B : Nat} {w : World} {v : Value} {l : FL} (h : OwnLit B w v l) (o : Obj) : OwnLit B (w.alloc o) v l := h.kept ((Kept.refl _ _).alloc _)
set_option maxHeartbeats 4000000 in
set_option maxRecDepth 100000 in
theorem joins_walk {laid : List (String × DataW Unit)} (h1 : (laid.filter fun x => x.1 == "internal/strconv.uint64pow10") = [("internal/strconv.uint64pow10", Lib.tabData .u64 Lib.pow10Tab)])
    (h2 : (laid.filter fun x => x.1 == "errors.errorType") = [("errors.errorType", .iface "internal/reflectlite.rtype" (.agg [.ptr (.lit (.string [101, 114, 114, 111, 114]))]))]) (W : World) (args : Array Value) (hL : laidMetH Tryd.prog laid W) (h : RdAll Tryd.prog W Tryd.f6.params.toList args.toList) :
    Calls Tryd.prog 6 args W fun e W' => e = .returned (.bool true) ∧ Below W.heap.size W W' := by
  have HEnv := hid (env_of hL h1 h2)
  clear hL h1 h2
  rw [Tryd.params6] at h
  obtain ⟨v0, v1, v2, rfl⟩ : ∃ v0 v1 v2, args = #[v0, v1, v2] := by
    rcases args with ⟨_ | ⟨v0, _ | ⟨v1, _ | ⟨v2, _ | ⟨v3, l⟩⟩⟩⟩⟩ <;> simp [RdAll] at h
    exact ⟨v0, v1, v2, rfl⟩
  obtain ⟨r0, r1, r2, hrest⟩ := h
  obtain ⟨ao, ac, Cs, AA, rfl, hCs, hQ⟩ := chs_arg r0
  obtain ⟨⟨lo, lq⟩, rfl, hwl⟩ := link_arg r1
  obtain ⟨code, rfl, hcw⟩ := r2.int Tryd.underlying3
  simp only
  clear r0 r1 r2 hrest hcw
  have HCs := hid hCs; have HQ := hid hQ; have HWL := hid hwl
  have hmx : Cs.length ≤ 9223372036854775807 := by obtain ⟨_, _, _, h1, h2, _⟩ := hCs; unfold maxLen at h2; omega
  obtain ⟨N, hN⟩ : ∃ N : Nat, min Cs.length 10 = N := ⟨_, rfl⟩
  have HNI := hid (show (if (10 : Int) < (Cs.length : Int) then (10 : Int) else Cs.length) = (N : Int) by split <;> omega)
  have hNc : (N : Int) ≤ (ac : Int) := by obtain ⟨_, _, e, h1, _⟩ := hCs; simp only [Value.slice.injEq] at e; obtain ⟨_, _, rfl⟩ := e; omega
  have HN := hid (show N ≤ Cs.length ∧ N ≤ 10 by omega)
  -- the place
  obtain ⟨w1, hw1⟩ : ∃ w1, W.alloc (.cells #[.int .i64 lo, .int .u32 lq] 42) = w1 := ⟨_, rfl⟩
  have hk1 : Kept (fun _ => False) W w1 := hw1 ▸ (Kept.refl _ _).alloc _
  have hra : w1.heap[W.heap.size]? = some (.cells #[.int .i64 lo, .int .u32 lq] 42 (0, 0)) := by rw [← hw1]; exact row_new _ _
  obtain ⟨ab, hab⟩ : ∃ cb, W.heap.size = cb := ⟨_, rfl⟩
  rw [hab] at hra
  have K1 := hid hk1; have RA := hid hra
  have HAW := hid (awake_any w1 (HEnv.out.kept hk1))
  clear hCs hQ hwl hN hk1 hra hmx
  go_enter Tryd.func6, Tryd.ntmps6
  go_wp2_with fail
  clear hw1 hab
  refine HAW.out.mono ?_; rintro e w2 ⟨rfl, hk2⟩
  have K2 := hid (K1.out.trans hk2)
  have RA2 := hid ((hk2.block ab (row_lt RA.out) id).trans RA.out)
  clear hk2 HAW RA K1
  go_wp2_with (refine wpList_min rfl (.tmp 21) (.const (.int .i64 10)) _ rfl (Cs.length : Int) 10 N rfl rfl HNI.out ?_)
  obtain ⟨w3, hw3⟩ : ∃ w3, w2.alloc (.cells #[.slice none 0 0, .int .i64 0] 24) = w3 := ⟨_, rfl⟩
  have hk3 : Kept (fun _ => False) w2 w3 := hw3 ▸ (Kept.refl _ _).alloc _
  have hrf : w3.heap[w2.heap.size]? = some (.cells #[.slice none 0 0, .int .i64 0] 24 (0, 0)) := by rw [← hw3]; exact row_new _ _
  rw [hw3]
  obtain ⟨fb, hfb⟩ : ∃ fb, w2.heap.size = fb := ⟨_, rfl⟩
  rw [hfb] at hrf ⊢
  have K3 := hid (K2.out.trans hk3)
  have RF3 := hid hrf
  have RA3 := hid ((hk3.block ab (row_lt RA2.out) id).trans RA2.out)
  have HFB := hid (show W.heap.size ≤ fb by rw [← hfb]; exact K2.out.size)
  clear hw3 hfb hk3 hrf RA2 K2
  go_loopw [7, 9, 27] (fun out hv i wr => ∃ (k : Nat) (a : Option Addr) (c : Nat) (P : EL) (fv : Value) (fr : Int) (b : Bool), k ≤ N ∧ i = .int .i64 k ∧ out = .slice a k c ∧ hv = .bool b ∧ P.map (·.2) = (Cs.take k).map (fun x => (cut (AA x), x.2)) ∧ Own wr 27 1 (.slice a k c) k (evs P) ∧ (∀ g, (Value.slice a k c).ownBlock = some g → W.heap.size ≤ g) ∧ PAt wr P ∧ wr.heap[fb]? = some (.cells #[fv, .int .i64 fr] 24 (0, 0)) ∧ FirstIs W.heap.size wr fv fr (jsOf P) ∧ b = (jsOf P).any (fun m => m.2 == code) ∧ wr.heap[ab]? = some (.cells #[.int .i64 lo, .int .u32 lq] 42 (0, 0)) ∧ Kept (fun _ => False) W wr) (fun _ _ i _ => N - (RowKit.intOf i).toNat)
  case atStart => exact ⟨0, none, 0, [], _, 0, false, Nat.zero_le _, rfl, rfl, rfl, by simp, Own.nil _ _ _, fun g hg => by simp [Value.ownBlock] at hg, fun p hp => by simp at hp, RF3.out, .inl ⟨rfl, rfl⟩, rfl, RA3.out, K3.out⟩
  case round =>
    rename World => wr
    obtain ⟨k, a, c, P, fv, fr, b, hk, rfl, rfl, rfl, hpm, ho, hb, hp, hrf, hfi, hbb, hrab, hkw⟩ := hrel
    have HPM := hid hpm; have HO := hid ho; have HB := hid hb; have HP := hid hp; have RF := hid hrf; have HFI := hid hfi; have HBB := hid hbb; have KW := hid hkw; have RAW := hid hrab
    clear hpm ho hb hp hrf hfi hbb hkw hrab
    by_cases hlt : k < N
    · obtain ⟨⟨⟨xa, xn, xc⟩, r⟩, hx⟩ : ∃ x, Cs[k]? = some x := ⟨_, List.getElem?_eq_getElem (by have := HN.out.1; omega)⟩
      obtain ⟨g, off, cc, hs, _, _, _, _, hc⟩ := HCs.out.cell (by have := HN.out.1; omega)
      simp only [Value.slice.injEq] at hs
      obtain ⟨rfl, hlen, rfl⟩ := hs
      obtain ⟨d0, d1⟩ := ccells_at Cs k _ hx
      have d0 := KW.out.cell (hc _ _ d0) id
      have d1 := KW.out.cell (hc _ _ d1) id
      simp only [slV] at d0 d1
      rw [← Nat.add_assoc] at d1
      obtain ⟨hA, hAw, hr0, hr1⟩ := HQ.out _ (List.mem_of_getElem? hx)
      simp only [slV] at hA hr0 hr1
      have HRR := hid (And.intro hr0 hr1); have HAW := hid hAw
      have HTK := hid (show Cs.take (k + 1) = Cs.take k ++ [((xa, xn, xc), r)] by rw [List.take_add_one, hx]; rfl)
      have hkI : (k : Int) < (N : Int) := by omega
      have HLT := hid hlt
      -- c's block
      obtain ⟨wx, hwx⟩ : ∃ wx, wr.alloc (.cells #[.slice xa xn xc, .int .i64 r] 24) = wx := ⟨_, rfl⟩
      have hkx : Kept (fun _ => False) wr wx := hwx ▸ (Kept.refl _ _).alloc _
      have hrx : wx.heap[wr.heap.size]? = some (.cells #[.slice xa xn xc, .int .i64 r] 24 (0, 0)) := by rw [← hwx]; exact row_new _ _
      obtain ⟨xb, hxb⟩ : ∃ xb, wr.heap.size = xb := ⟨_, rfl⟩
      rw [hxb] at hrx
      have HXF := hid (show xb ≠ fb by rw [← hxb]; have := row_lt RF.out; omega)
      have x0 := row_cell hrx 0
      have x1 := row_cell hrx 1
      simp at x0 x1
      have HAX := hid ((lt_arg hA).kept (KW.out.trans hkx) (Fok.none _ _))
      have HBD := hid (build_more r HAX.out.ll)
      have KX := hid (KW.out.trans hkx); have RX := hid hrx; have KRX := hid hkx
      clear hc hx hlen hA hAw hr0 hr1 hrx hkx
      go_wp2_with fail
      clear hwx hxb d0 d1
      refine HBD.out.mono ?_; rintro e w4 ⟨e4, d4, rfl, hE, hd, hk4, hfrom⟩
      have HD4 := hid (lt_from HAX.out hk4 hfrom)
      have KW4 := hid (KX.out.trans hk4)
      have HE4 := hid hE
      have HP4 := hid (HP.out.kept (KRX.out.trans hk4))
      have HO4 := hid (HO.out.kept (KRX.out.trans hk4) (fun _ _ => id))
      have RA4 := hid (((KRX.out.trans hk4).block ab (row_lt RAW.out) id).trans RAW.out)
      have HNAB := hid (show ¬ ((Value.slice a k c).ownBlock = some ab ∨ ab = fb) from fun h => by
        rcases h with h | rfl
        · exact HO4.out.ne_block RA4.out (by decide) h
        · have h2 := RF.out; rw [RAW.out] at h2; simp at h2)
      have RF4 := hid (((KRX.out.trans hk4).block fb (row_lt RF.out) id).trans RF.out)
      have RX4 := hid ((hk4.block xb (row_lt RX.out) id).trans RX.out)
      have HFI4 := hid (HFI.out.ok (KRX.out.trans hk4) (Fok.none _ _))
      have HOK := hid (show Fok (fun g => (Value.slice a k c).ownBlock = some g ∨ g = fb) W.heap.size w4 from fun g hg => by
        rcases hg with hg | rfl
        · obtain ⟨cur, hcur⟩ := HO4.out.block hg
          exact ⟨HB.out g hg, cur, _, hcur, .inr rfl⟩
        · exact ⟨HFB.out, _, _, RF4.out, .inl rfl⟩)
      have HCN := hid (show cut (AA ((xa, xn, xc), r)) ≠ [] from fun h => by have := (cut_len (AA ((xa, xn, xc), r))).1; rw [h] at this; simp at this)
      -- d's block
      obtain ⟨wy, hwy⟩ : ∃ wy, w4.alloc (.cells #[d4, .int .i64 r] 24) = wy := ⟨_, rfl⟩
      have hky : Kept (fun _ => False) w4 wy := hwy ▸ (Kept.refl _ _).alloc _
      have hry : wy.heap[w4.heap.size]? = some (.cells #[d4, .int .i64 r] 24 (0, 0)) := by rw [← hwy]; exact row_new _ _
      obtain ⟨yb, hyb⟩ : ∃ yb, w4.heap.size = yb := ⟨_, rfl⟩
      rw [hyb] at hry
      have KY := hid hky; have RY := hid hry
      have RXY := hid ((hky.block xb (row_lt RX4.out) id).trans RX4.out)
      have RFY := hid ((hky.block fb (row_lt RF4.out) id).trans RF4.out)
      have HOY := hid (HO4.out.kept hky (fun _ _ => id))
      have HNX := hid (HOY.out.ne_block RXY.out (by decide)); have HNY := hid (HOY.out.ne_block RY.out (by decide)); have HNF := hid (HOY.out.ne_block RFY.out (by decide))
      obtain ⟨dO, dC, rfl⟩ := hd.isSlice
      obtain ⟨dn, hdn⟩ : ∃ dn, (cut (AA ((xa, xn, xc), r))).length = dn := ⟨_, rfl⟩
      rw [hdn] at HD4 hry hwy RY ⊢
      clear hd hk4 hfrom hky hry x0 x1 hdn
      rcases hE.shape with ⟨hr, rfl⟩ | ⟨hr, ⟨te, pe, rfl⟩, _⟩
      · have hrz : (r == 0) = true := by simpa using hr
        have hrn : (r != 0) = false := by simp [hr]
        have HRZ := hid hr
        clear hr hE
        cases b with
        | true =>
          have HSR := hid (src_one (w := wy) (E := 27) (.nilIface) rfl)
          have hk10 : k ≤ 10 := by have := HN.out.2; omega
          have hxf : xb ≠ fb := HXF.out
          have hfx : fb ≠ xb := fun e => HXF.out e.symm
          go_wp2_with (at_builtin; refine wpList_app rfl _ _ 48 rfl 27 _ 1 16 Tryd.underlying48 errInfo rfl (by decide) _ k (evs P) rfl (HOY.out.alloc _) _ rfl 1 _ HSR.out (by unfold maxLen; omega) (by omega) ?_; intro a' c' w5 ho5 hk5 hf5 _; have HA5 := hid ho5; have HF5 := hid hf5; have KF5 := hid (show Kept (fun g => (Value.slice a k c).ownBlock = some g ∨ g = fb) w4 w5 from ((KY.out.mono (fun _ _ h => h.elim)).alloc _).trans' hk5 (fun i hi => .inl (.inl hi))); have RX5 := hid ((hk5.block xb (row_lt (row_old RXY.out _)) HNX.out).trans (row_old RXY.out _)); have RY5 := hid ((hk5.block yb (row_lt (row_old RY.out _)) HNY.out).trans (row_old RY.out _)); have RF5 := hid ((hk5.block fb (row_lt (row_old RFY.out _)) HNF.out).trans (row_old RFY.out _)); have x1 := row_cell RX5.out 1; have y0 := row_cell RY5.out 0; have y1 := row_cell RY5.out 1; have f0 := row_cell RF5.out 0; have f1 := row_cell RF5.out 1; have g0 := row_free RF5.out 0; have g1 := row_free RF5.out 1; simp at x1 y0 y1 f0 f1 g0 g1; clear ho5 hk5 hf5)
          clear hwy hyb
          go_roundw
          case rel =>
            refine ⟨k + 1, a', c', P ++ [(.nilIface, (cut (AA ((xa, xn, xc), r)), r))], fv, fr, true, by omega, by go_num, rfl, rfl, ?_, ?_, ?_, ?_, ?_, ?_, ?_, ?_, ?_⟩
            · rw [List.map_append, HPM.out, HTK.out]; simp
            · rw [show evs (P ++ [(.nilIface, (cut (AA ((xa, xn, xc), r)), r))]) = evs P ++ [.nilIface] by simp [evs]]; exact HA5.out
            · intro g hg
              rcases HF5.out g hg with h | h
              · exact HB.out g h
              · simp at h; have h2 := KW4.out.size; have h3 := KY.out.size; omega
            · intro p hp
              rcases List.mem_append.1 hp with hp | hp
              · exact ((HP4.out.ok KF5.out HOK.out) p hp)
              · rw [List.mem_singleton] at hp; subst hp
                exact (PAt.ok (P := [(.nilIface, (cut (AA ((xa, xn, xc), r)), r))]) (fun p hp => by rw [List.mem_singleton] at hp; subst hp; exact ⟨HE4.out, HCN.out⟩) KF5.out HOK.out) _ (List.mem_singleton.2 rfl)
            · exact RF5.out
            · exact (by rw [jsOf_no HRZ.out]; exact HFI4.out.ok KF5.out HOK.out)
            · exact (by rw [jsOf_no HRZ.out]; exact HBB.out)
            · exact (KF5.out.block ab (row_lt RA4.out) HNAB.out).trans RA4.out
            · exact KW4.out.trans' KF5.out (fun i hi => .inr (HOK.out i hi).1)
          case measure => (simp only [RowKit.intOf]; omega)
        | false =>
          have HSR := hid (src_one (w := wy) (E := 27) (.nilIface) rfl)
          have hk10 : k ≤ 10 := by have := HN.out.2; omega
          have hxf : xb ≠ fb := HXF.out
          have hfx : fb ≠ xb := fun e => HXF.out e.symm
          go_wp2_with (at_builtin; refine wpList_app rfl _ _ 48 rfl 27 _ 1 16 Tryd.underlying48 errInfo rfl (by decide) _ k (evs P) rfl (HOY.out.alloc _) _ rfl 1 _ HSR.out (by unfold maxLen; omega) (by omega) ?_; intro a' c' w5 ho5 hk5 hf5 _; have HA5 := hid ho5; have HF5 := hid hf5; have KF5 := hid (show Kept (fun g => (Value.slice a k c).ownBlock = some g ∨ g = fb) w4 w5 from ((KY.out.mono (fun _ _ h => h.elim)).alloc _).trans' hk5 (fun i hi => .inl (.inl hi))); have RX5 := hid ((hk5.block xb (row_lt (row_old RXY.out _)) HNX.out).trans (row_old RXY.out _)); have RY5 := hid ((hk5.block yb (row_lt (row_old RY.out _)) HNY.out).trans (row_old RY.out _)); have RF5 := hid ((hk5.block fb (row_lt (row_old RFY.out _)) HNF.out).trans (row_old RFY.out _)); have x1 := row_cell RX5.out 1; have y0 := row_cell RY5.out 0; have y1 := row_cell RY5.out 1; have f0 := row_cell RF5.out 0; have f1 := row_cell RF5.out 1; have g0 := row_free RF5.out 0; have g1 := row_free RF5.out 1; simp at x1 y0 y1 f0 f1 g0 g1; clear ho5 hk5 hf5)
          clear hwy hyb
          go_roundw
          case rel =>
            refine ⟨k + 1, a', c', P ++ [(.nilIface, (cut (AA ((xa, xn, xc), r)), r))], fv, fr, false, by omega, by go_num, rfl, rfl, ?_, ?_, ?_, ?_, ?_, ?_, ?_, ?_, ?_⟩
            · rw [List.map_append, HPM.out, HTK.out]; simp
            · rw [show evs (P ++ [(.nilIface, (cut (AA ((xa, xn, xc), r)), r))]) = evs P ++ [.nilIface] by simp [evs]]; exact HA5.out
            · intro g hg
              rcases HF5.out g hg with h | h
              · exact HB.out g h
              · simp at h; have h2 := KW4.out.size; have h3 := KY.out.size; omega
            · intro p hp
              rcases List.mem_append.1 hp with hp | hp
              · exact ((HP4.out.ok KF5.out HOK.out) p hp)
              · rw [List.mem_singleton] at hp; subst hp
                exact (PAt.ok (P := [(.nilIface, (cut (AA ((xa, xn, xc), r)), r))]) (fun p hp => by rw [List.mem_singleton] at hp; subst hp; exact ⟨HE4.out, HCN.out⟩) KF5.out HOK.out) _ (List.mem_singleton.2 rfl)
            · exact RF5.out
            · exact (by rw [jsOf_no HRZ.out]; exact HFI4.out.ok KF5.out HOK.out)
            · exact (by rw [jsOf_no HRZ.out]; exact HBB.out)
            · exact (KF5.out.block ab (row_lt RA4.out) HNAB.out).trans RA4.out
            · exact KW4.out.trans' KF5.out (fun i hi => .inr (HOK.out i hi).1)
          case measure => (simp only [RowKit.intOf]; omega)
      · have hrz : (r == 0) = false := by simpa using hr
        have hrn : (r != 0) = true := by simpa using hr
        have HRZ := hid hr
        obtain ⟨b2, hb2⟩ : ∃ b2, (r == code) = b2 := ⟨_, rfl⟩
        have HB2 := hid hb2
        clear hr hE
        rcases HFI4.out with ⟨hj, hf0⟩ | ⟨l0, _, hf0, _⟩
        · have hfz : (fr == 0) = true := by simpa using hf0
          have HJE := hid hj
          clear hj hf0
          cases b with
          | true =>
            have HSR := hid (src_one (w := wy) (E := 27) (.iface te pe) rfl)
            have hk10 : k ≤ 10 := by have := HN.out.2; omega
            have hxf : xb ≠ fb := HXF.out
            have hfx : fb ≠ xb := fun e => HXF.out e.symm
            go_wp2_with (at_builtin; refine wpList_app rfl _ _ 48 rfl 27 _ 1 16 Tryd.underlying48 errInfo rfl (by decide) _ k (evs P) rfl (HOY.out.alloc _) _ rfl 1 _ HSR.out (by unfold maxLen; omega) (by omega) ?_; intro a' c' w5 ho5 hk5 hf5 _; have HA5 := hid ho5; have HF5 := hid hf5; have KF5 := hid (show Kept (fun g => (Value.slice a k c).ownBlock = some g ∨ g = fb) w4 w5 from ((KY.out.mono (fun _ _ h => h.elim)).alloc _).trans' hk5 (fun i hi => .inl (.inl hi))); have RX5 := hid ((hk5.block xb (row_lt (row_old RXY.out _)) HNX.out).trans (row_old RXY.out _)); have RY5 := hid ((hk5.block yb (row_lt (row_old RY.out _)) HNY.out).trans (row_old RY.out _)); have RF5 := hid ((hk5.block fb (row_lt (row_old RFY.out _)) HNF.out).trans (row_old RFY.out _)); have x1 := row_cell RX5.out 1; have y0 := row_cell RY5.out 0; have y1 := row_cell RY5.out 1; have f0 := row_cell RF5.out 0; have f1 := row_cell RF5.out 1; have g0 := row_free RF5.out 0; have g1 := row_free RF5.out 1; simp at x1 y0 y1 f0 f1 g0 g1; clear ho5 hk5 hf5)
            clear hwy hyb
            have hne5 : (Value.slice a' (k + 1) c').ownBlock ≠ some fb := HA5.out.ne_block RF5.out (by decide)
            have hks : Kept (fun g => g = fb) w5 ((w5.setCell ⟨fb, 0, none⟩ (.slice dO dn dC)).setCell ⟨fb, 1, none⟩ (.int .i64 r)) := Kept.setCell (F := fun g => g = fb) (Kept.setCell (F := fun g => g = fb) (Kept.refl _ _) (p := ⟨fb, 0, none⟩) (.inl rfl) _) (p := ⟨fb, 1, none⟩) (.inl rfl) _
            have HAZ := hid (HA5.out.kept hks (fun g hg e => hne5 (by rw [hg, e])))
            have KFZ := hid (KF5.out.trans' hks (fun i hi => .inl (.inr hi)))
            have RFZ := hid (show ((w5.setCell ⟨fb, 0, none⟩ (.slice dO dn dC)).setCell ⟨fb, 1, none⟩ (.int .i64 r)).heap[fb]? = some (.cells #[.slice dO dn dC, .int .i64 r] 24 (0, 0)) by have h1 := row_set (row_set RF5.out 0 (.slice dO dn dC)) 1 (.int .i64 r); simpa using h1)
            have HFZ := hid (show FirstIs W.heap.size ((w5.setCell ⟨fb, 0, none⟩ (.slice dO dn dC)).setCell ⟨fb, 1, none⟩ (.int .i64 r)) (.slice dO dn dC) r ([] ++ [(cut (AA ((xa, xn, xc), r)), r)]) from .inr ⟨_, rfl, HRZ.out, HD4.out.kept KFZ.out HOK.out, cut_wl HAW.out, (cut_len _).2, HRR.out⟩)
            go_roundw
            case rel =>
              refine ⟨k + 1, a', c', P ++ [(.iface te pe, (cut (AA ((xa, xn, xc), r)), r))], .slice dO dn dC, r, true, by omega, by go_num, rfl, rfl, ?_, ?_, ?_, ?_, ?_, ?_, ?_, ?_, ?_⟩
              · rw [List.map_append, HPM.out, HTK.out]; simp
              · rw [show evs (P ++ [(.iface te pe, (cut (AA ((xa, xn, xc), r)), r))]) = evs P ++ [.iface te pe] by simp [evs]]; exact HAZ.out
              · intro g hg
                rcases HF5.out g hg with h | h
                · exact HB.out g h
                · simp at h; have h2 := KW4.out.size; have h3 := KY.out.size; omega
              · intro p hp
                rcases List.mem_append.1 hp with hp | hp
                · exact ((HP4.out.ok KFZ.out HOK.out) p hp)
                · rw [List.mem_singleton] at hp; subst hp
                  exact (PAt.ok (P := [(.iface te pe, (cut (AA ((xa, xn, xc), r)), r))]) (fun p hp => by rw [List.mem_singleton] at hp; subst hp; exact ⟨HE4.out, HCN.out⟩) KFZ.out HOK.out) _ (List.mem_singleton.2 rfl)
              · exact RFZ.out
              · exact (by rw [jsOf_yes HRZ.out, HJE.out]; exact HFZ.out)
              · exact (by rw [jsOf_yes HRZ.out]; have h := any_yes (l := cut (AA ((xa, xn, xc), r))) (r := r) HBB.out; simpa using h)
              · exact (KFZ.out.block ab (row_lt RA4.out) HNAB.out).trans RA4.out
              · exact KW4.out.trans' KFZ.out (fun i hi => .inr (HOK.out i hi).1)
            case measure => (simp only [RowKit.intOf]; omega)
          | false =>
            have HSR := hid (src_one (w := wy) (E := 27) (.iface te pe) rfl)
            have hk10 : k ≤ 10 := by have := HN.out.2; omega
            have hxf : xb ≠ fb := HXF.out
            have hfx : fb ≠ xb := fun e => HXF.out e.symm
            go_wp2_with (at_builtin; refine wpList_app rfl _ _ 48 rfl 27 _ 1 16 Tryd.underlying48 errInfo rfl (by decide) _ k (evs P) rfl (HOY.out.alloc _) _ rfl 1 _ HSR.out (by unfold maxLen; omega) (by omega) ?_; intro a' c' w5 ho5 hk5 hf5 _; have HA5 := hid ho5; have HF5 := hid hf5; have KF5 := hid (show Kept (fun g => (Value.slice a k c).ownBlock = some g ∨ g = fb) w4 w5 from ((KY.out.mono (fun _ _ h => h.elim)).alloc _).trans' hk5 (fun i hi => .inl (.inl hi))); have RX5 := hid ((hk5.block xb (row_lt (row_old RXY.out _)) HNX.out).trans (row_old RXY.out _)); have RY5 := hid ((hk5.block yb (row_lt (row_old RY.out _)) HNY.out).trans (row_old RY.out _)); have RF5 := hid ((hk5.block fb (row_lt (row_old RFY.out _)) HNF.out).trans (row_old RFY.out _)); have x1 := row_cell RX5.out 1; have y0 := row_cell RY5.out 0; have y1 := row_cell RY5.out 1; have f0 := row_cell RF5.out 0; have f1 := row_cell RF5.out 1; have g0 := row_free RF5.out 0; have g1 := row_free RF5.out 1; simp at x1 y0 y1 f0 f1 g0 g1; clear ho5 hk5 hf5)
            clear hwy hyb
            have hne5 : (Value.slice a' (k + 1) c').ownBlock ≠ some fb := HA5.out.ne_block RF5.out (by decide)
            have hks : Kept (fun g => g = fb) w5 ((w5.setCell ⟨fb, 0, none⟩ (.slice dO dn dC)).setCell ⟨fb, 1, none⟩ (.int .i64 r)) := Kept.setCell (F := fun g => g = fb) (Kept.setCell (F := fun g => g = fb) (Kept.refl _ _) (p := ⟨fb, 0, none⟩) (.inl rfl) _) (p := ⟨fb, 1, none⟩) (.inl rfl) _
            have HAZ := hid (HA5.out.kept hks (fun g hg e => hne5 (by rw [hg, e])))
            have KFZ := hid (KF5.out.trans' hks (fun i hi => .inl (.inr hi)))
            have RFZ := hid (show ((w5.setCell ⟨fb, 0, none⟩ (.slice dO dn dC)).setCell ⟨fb, 1, none⟩ (.int .i64 r)).heap[fb]? = some (.cells #[.slice dO dn dC, .int .i64 r] 24 (0, 0)) by have h1 := row_set (row_set RF5.out 0 (.slice dO dn dC)) 1 (.int .i64 r); simpa using h1)
            have HFZ := hid (show FirstIs W.heap.size ((w5.setCell ⟨fb, 0, none⟩ (.slice dO dn dC)).setCell ⟨fb, 1, none⟩ (.int .i64 r)) (.slice dO dn dC) r ([] ++ [(cut (AA ((xa, xn, xc), r)), r)]) from .inr ⟨_, rfl, HRZ.out, HD4.out.kept KFZ.out HOK.out, cut_wl HAW.out, (cut_len _).2, HRR.out⟩)
            go_roundw
            case rel =>
              refine ⟨k + 1, a', c', P ++ [(.iface te pe, (cut (AA ((xa, xn, xc), r)), r))], .slice dO dn dC, r, b2, by omega, by go_num, rfl, rfl, ?_, ?_, ?_, ?_, ?_, ?_, ?_, ?_, ?_⟩
              · rw [List.map_append, HPM.out, HTK.out]; simp
              · rw [show evs (P ++ [(.iface te pe, (cut (AA ((xa, xn, xc), r)), r))]) = evs P ++ [.iface te pe] by simp [evs]]; exact HAZ.out
              · intro g hg
                rcases HF5.out g hg with h | h
                · exact HB.out g h
                · simp at h; have h2 := KW4.out.size; have h3 := KY.out.size; omega
              · intro p hp
                rcases List.mem_append.1 hp with hp | hp
                · exact ((HP4.out.ok KFZ.out HOK.out) p hp)
                · rw [List.mem_singleton] at hp; subst hp
                  exact (PAt.ok (P := [(.iface te pe, (cut (AA ((xa, xn, xc), r)), r))]) (fun p hp => by rw [List.mem_singleton] at hp; subst hp; exact ⟨HE4.out, HCN.out⟩) KFZ.out HOK.out) _ (List.mem_singleton.2 rfl)
              · exact RFZ.out
              · exact (by rw [jsOf_yes HRZ.out, HJE.out]; exact HFZ.out)
              · exact (by rw [jsOf_yes HRZ.out]; have h := any_yes (l := cut (AA ((xa, xn, xc), r))) (r := r) HBB.out; rw [HB2.out] at h; simpa using h)
              · exact (KFZ.out.block ab (row_lt RA4.out) HNAB.out).trans RA4.out
              · exact KW4.out.trans' KFZ.out (fun i hi => .inr (HOK.out i hi).1)
            case measure => (simp only [RowKit.intOf]; omega)
        · have hfz : (fr == 0) = false := by simpa using hf0
          have HFZ := hid hf0
          clear hf0
          cases b with
          | true =>
            have HSR := hid (src_one (w := wy) (E := 27) (.iface te pe) rfl)
            have hk10 : k ≤ 10 := by have := HN.out.2; omega
            have hxf : xb ≠ fb := HXF.out
            have hfx : fb ≠ xb := fun e => HXF.out e.symm
            go_wp2_with (at_builtin; refine wpList_app rfl _ _ 48 rfl 27 _ 1 16 Tryd.underlying48 errInfo rfl (by decide) _ k (evs P) rfl (HOY.out.alloc _) _ rfl 1 _ HSR.out (by unfold maxLen; omega) (by omega) ?_; intro a' c' w5 ho5 hk5 hf5 _; have HA5 := hid ho5; have HF5 := hid hf5; have KF5 := hid (show Kept (fun g => (Value.slice a k c).ownBlock = some g ∨ g = fb) w4 w5 from ((KY.out.mono (fun _ _ h => h.elim)).alloc _).trans' hk5 (fun i hi => .inl (.inl hi))); have RX5 := hid ((hk5.block xb (row_lt (row_old RXY.out _)) HNX.out).trans (row_old RXY.out _)); have RY5 := hid ((hk5.block yb (row_lt (row_old RY.out _)) HNY.out).trans (row_old RY.out _)); have RF5 := hid ((hk5.block fb (row_lt (row_old RFY.out _)) HNF.out).trans (row_old RFY.out _)); have x1 := row_cell RX5.out 1; have y0 := row_cell RY5.out 0; have y1 := row_cell RY5.out 1; have f0 := row_cell RF5.out 0; have f1 := row_cell RF5.out 1; have g0 := row_free RF5.out 0; have g1 := row_free RF5.out 1; simp at x1 y0 y1 f0 f1 g0 g1; clear ho5 hk5 hf5)
            clear hwy hyb
            go_roundw
            case rel =>
              refine ⟨k + 1, a', c', P ++ [(.iface te pe, (cut (AA ((xa, xn, xc), r)), r))], fv, fr, true, by omega, by go_num, rfl, rfl, ?_, ?_, ?_, ?_, ?_, ?_, ?_, ?_, ?_⟩
              · rw [List.map_append, HPM.out, HTK.out]; simp
              · rw [show evs (P ++ [(.iface te pe, (cut (AA ((xa, xn, xc), r)), r))]) = evs P ++ [.iface te pe] by simp [evs]]; exact HA5.out
              · intro g hg
                rcases HF5.out g hg with h | h
                · exact HB.out g h
                · simp at h; have h2 := KW4.out.size; have h3 := KY.out.size; omega
              · intro p hp
                rcases List.mem_append.1 hp with hp | hp
                · exact ((HP4.out.ok KF5.out HOK.out) p hp)
                · rw [List.mem_singleton] at hp; subst hp
                  exact (PAt.ok (P := [(.iface te pe, (cut (AA ((xa, xn, xc), r)), r))]) (fun p hp => by rw [List.mem_singleton] at hp; subst hp; exact ⟨HE4.out, HCN.out⟩) KF5.out HOK.out) _ (List.mem_singleton.2 rfl)
              · exact RF5.out
              · exact (by rw [jsOf_yes HRZ.out]; exact (HFI4.out.ok KF5.out HOK.out).app HFZ.out _)
              · exact (by rw [jsOf_yes HRZ.out]; have h := any_yes (l := cut (AA ((xa, xn, xc), r))) (r := r) HBB.out; simpa using h)
              · exact (KF5.out.block ab (row_lt RA4.out) HNAB.out).trans RA4.out
              · exact KW4.out.trans' KF5.out (fun i hi => .inr (HOK.out i hi).1)
            case measure => (simp only [RowKit.intOf]; omega)
          | false =>
            have HSR := hid (src_one (w := wy) (E := 27) (.iface te pe) rfl)
            have hk10 : k ≤ 10 := by have := HN.out.2; omega
            have hxf : xb ≠ fb := HXF.out
            have hfx : fb ≠ xb := fun e => HXF.out e.symm
            go_wp2_with (at_builtin; refine wpList_app rfl _ _ 48 rfl 27 _ 1 16 Tryd.underlying48 errInfo rfl (by decide) _ k (evs P) rfl (HOY.out.alloc _) _ rfl 1 _ HSR.out (by unfold maxLen; omega) (by omega) ?_; intro a' c' w5 ho5 hk5 hf5 _; have HA5 := hid ho5; have HF5 := hid hf5; have KF5 := hid (show Kept (fun g => (Value.slice a k c).ownBlock = some g ∨ g = fb) w4 w5 from ((KY.out.mono (fun _ _ h => h.elim)).alloc _).trans' hk5 (fun i hi => .inl (.inl hi))); have RX5 := hid ((hk5.block xb (row_lt (row_old RXY.out _)) HNX.out).trans (row_old RXY.out _)); have RY5 := hid ((hk5.block yb (row_lt (row_old RY.out _)) HNY.out).trans (row_old RY.out _)); have RF5 := hid ((hk5.block fb (row_lt (row_old RFY.out _)) HNF.out).trans (row_old RFY.out _)); have x1 := row_cell RX5.out 1; have y0 := row_cell RY5.out 0; have y1 := row_cell RY5.out 1; have f0 := row_cell RF5.out 0; have f1 := row_cell RF5.out 1; have g0 := row_free RF5.out 0; have g1 := row_free RF5.out 1; simp at x1 y0 y1 f0 f1 g0 g1; clear ho5 hk5 hf5)
            clear hwy hyb
            go_roundw
            case rel =>
              refine ⟨k + 1, a', c', P ++ [(.iface te pe, (cut (AA ((xa, xn, xc), r)), r))], fv, fr, b2, by omega, by go_num, rfl, rfl, ?_, ?_, ?_, ?_, ?_, ?_, ?_, ?_, ?_⟩
              · rw [List.map_append, HPM.out, HTK.out]; simp
              · rw [show evs (P ++ [(.iface te pe, (cut (AA ((xa, xn, xc), r)), r))]) = evs P ++ [.iface te pe] by simp [evs]]; exact HA5.out
              · intro g hg
                rcases HF5.out g hg with h | h
                · exact HB.out g h
                · simp at h; have h2 := KW4.out.size; have h3 := KY.out.size; omega
              · intro p hp
                rcases List.mem_append.1 hp with hp | hp
                · exact ((HP4.out.ok KF5.out HOK.out) p hp)
                · rw [List.mem_singleton] at hp; subst hp
                  exact (PAt.ok (P := [(.iface te pe, (cut (AA ((xa, xn, xc), r)), r))]) (fun p hp => by rw [List.mem_singleton] at hp; subst hp; exact ⟨HE4.out, HCN.out⟩) KF5.out HOK.out) _ (List.mem_singleton.2 rfl)
              · exact RF5.out
              · exact (by rw [jsOf_yes HRZ.out]; exact (HFI4.out.ok KF5.out HOK.out).app HFZ.out _)
              · exact (by rw [jsOf_yes HRZ.out]; have h := any_yes (l := cut (AA ((xa, xn, xc), r))) (r := r) HBB.out; rw [HB2.out] at h; simpa using h)
              · exact (KF5.out.block ab (row_lt RA4.out) HNAB.out).trans RA4.out
              · exact KW4.out.trans' KF5.out (fun i hi => .inr (HOK.out i hi).1)
            case measure => (simp only [RowKit.intOf]; omega)
    · obtain rfl : k = N := by omega
      have hPl : P.length = k := by
        have h := congrArg List.length HPM.out
        rw [List.length_map, List.length_map, List.length_take] at h
        have := HN.out.1
        omega
      have hlie := HO.out.lies (F := fun _ => False) (evs_one P (fun p hp => by rcases (HP.out p hp).1.shape with ⟨_, e⟩ | ⟨_, ⟨t, q, e⟩, _⟩ <;> rw [e] <;> rfl)) (fun _ _ => id)
      have HJN := hid (join_any (W := wr) (v := .slice a k c) (P := P) (by rw [hPl]; exact hlie) HP.out (by rw [hPl]; exact HN.out.2))
      have HWN := hid (fun w => wrap_nil ((lo, lq) : FL) w)
      simp only at HWN
      clear hlie hPl
      go_wp2_with fail
      refine HJN.out.mono ?_; rintro e w6 ⟨bv, rfl, hk6, hbv⟩
      have KW6 := hid (KW.out.trans hk6)
      have RF6 := hid ((hk6.block fb (row_lt RF.out) id).trans RF.out)
      have RA6 := hid ((hk6.block ab (row_lt RAW.out) id).trans RAW.out)
      have f0 := row_cell RF6.out 0
      have f1 := row_cell RF6.out 1
      have a0 := row_cell RA6.out 0
      have a1 := row_cell RA6.out 1
      simp at f0 f1 a0 a1
      have HFI6 := hid (HFI.out.ok hk6 (Fok.none _ _))
      rcases hbv with ⟨hj, rfl⟩ | ⟨hj, hJ⟩
      · have hfz : (fr == 0) = true := by
          rcases HFI6.out with ⟨_, h⟩ | ⟨l0, h, _⟩
          · simpa using h
          · rw [hj] at h; simp at h
        clear hj hk6
        go_wp2_with fail
        refine (HWN.out _).mono ?_; rintro e w' ⟨rfl, rfl⟩
        go_wp2_with fail
        refine (code_nil _).mono ?_; rintro e w' ⟨rfl, rfl⟩
        go_wp2_with fail
        go_ret
        exact ⟨rfl, KW6.out.below (Nat.le_refl _) (fun _ h => h.elim)⟩
      · obtain ⟨l0, h0, hf0, hlt0, hw0, h30, hr0, hr1⟩ : ∃ l0, (jsOf P)[0]? = some (l0, fr) ∧ fr ≠ 0 ∧ LT W.heap.size w6 fv l0 ∧ (∀ l ∈ l0, Wl l) ∧ l0.length ≤ 30 ∧ -9223372036854775808 ≤ fr ∧ fr ≤ 9223372036854775807 := by
          rcases HFI6.out with ⟨h, _⟩ | h
          · exact absurd h hj
          · exact h
        have hfz : (fr == 0) = false := by simpa using hf0
        obtain ⟨has, hhas⟩ : ∃ has : Int → Bool, has = fun c => (jsOf P).any (fun m => m.2 == c) := ⟨_, rfl⟩
        have HER := hid (show ErrAt w6 bv l0 fr has from ⟨bv, [], l0, .inr ⟨jsOf P, hJ, h0, fun c => by rw [hhas]⟩, rfl, rfl⟩)
        have HCC := hid (show code ≠ 0 → (if code = 0 then false else has code) = b from fun h => by rw [if_neg h, hhas]; exact HBB.out.symm)
        obtain ⟨te, pe, rfl⟩ := HER.out.iface
        obtain ⟨fO, fC, rfl⟩ := hlt0.ll.isSlice
        have HLF := hid hlt0; have HW0 := hid hw0; have H30 := hid (Nat.le_trans h30 (by decide : 30 ≤ 1000)); have HR := hid (And.intro hr0 hr1); have H31 := hid h30
        have HEV := hid (HEnv.out.kept KW6.out)
        have HS := hid (show ∀ w', Kept (fun _ => False) w6 w' → w'.cell? ⟨fb, 0, none⟩ = some (.slice fO l0.length fC) ∧ w'.cell? ⟨fb, 1, none⟩ = some (.int .i64 fr) ∧ w'.cell? ⟨ab, 0, none⟩ = some (.int .i64 lo) ∧ w'.cell? ⟨ab, 1, none⟩ = some (.int .u32 lq) from fun w' kk => ⟨kk.cell f0 id, kk.cell f1 id, kk.cell a0 id, kk.cell a1 id⟩)
        have kc : Kept (fun _ => False) w6 w6.drew := (Kept.refl _ _).drew
        have HIS := hid (fun w k => fis_any (HER.out.kept (w' := w) (F := fun _ => False) k (fun _ _ => id)) code)
        have HCODE := hid (fun w k => code_any (HER.out.kept (w' := w) (F := fun _ => False) k (fun _ _ => id)) (HEV.out.kept k).et)
        have HLINKS := hid (fun w k => flinks_any (HER.out.kept (w' := w) (F := fun _ => False) k (fun _ _ => id)) (HEV.out.kept k).et H30.out)
        have HTEXT := hid (fun w k => text_any (HER.out.kept (w' := w) (F := fun _ => False) k (fun _ _ => id)) (HEV.out.kept k).et (HEV.out.kept k).tab H30.out HW0.out HR.out.1 HR.out.2)
        have HDTEXT := hid (fun w k => doctext_any (HLF.out.ll.same (w' := w) k) H30.out HW0.out HR.out.1 HR.out.2)
        have HWR := hid (fun w' k => wrap_some (HER.out.kept (w' := w') (F := fun _ => False) k (fun _ _ => id)) ((lo, lq) : FL))
        simp only at HWR
        clear hj hJ h0 hf0 hlt0 hw0 h30 hr0 hr1 hhas hk6 a0 a1
        by_cases hc : code = 0
        · have hce : (code == 0) = true := by simpa using hc
          have hcn : (code != 0) = false := by simp [hc]
          clear hc
          go_wp2_with fail
          clear f0 f1
          refine wp_region_held_drew (S := fun w' => w'.cell? ⟨fb, 0, none⟩ = some (.slice fO l0.length fC) ∧ w'.cell? ⟨fb, 1, none⟩ = some (.int .i64 fr) ∧ w'.cell? ⟨ab, 0, none⟩ = some (.int .i64 lo) ∧ w'.cell? ⟨ab, 1, none⟩ = some (.int .u32 lq)) (by kernel_rfl) (by exact HS.out _ kc) (fun hHeld => ?_)
          refine wpAnyH_at 0 (some 83) (v := ?v501) (by decide) rfl (by kernel_rfl) (by kernel_rfl) (by kernel_rfl) (fun _ _ _ h => h) (Or.inl ⟨by rfl, ?y501⟩) (by assumption) ?r501
          case y501 => (intro w hSw; (try dsimp only at hSw); go_simp; (try with_reducible rfl))
          simp only [Act.put, List.setIfInBounds_toArray, List.set_cons_zero, List.set_cons_succ]
          refine wpAnyH_at 1 (some 84) (v := ?v502) (by decide) rfl (by kernel_rfl) (by kernel_rfl) (by kernel_rfl) (fun _ _ _ h => h) (Or.inl ⟨by rfl, ?y502⟩) (by assumption) ?r502
          case y502 => (intro w hSw; (try dsimp only at hSw); go_simp; (try with_reducible rfl))
          simp only [Act.put, List.setIfInBounds_toArray, List.set_cons_zero, List.set_cons_succ]
          refine wpAnyH_at 2 (some 85) (v := ?v503) (by decide) rfl (by kernel_rfl) (by kernel_rfl) (by kernel_rfl) (fun _ _ _ h => h) (Or.inl ⟨by rfl, ?y503⟩) (by assumption) ?r503
          case y503 => (intro w hSw; (try dsimp only at hSw); go_simp; (try with_reducible rfl))
          simp only [Act.put, List.setIfInBounds_toArray, List.set_cons_zero, List.set_cons_succ]
          refine wpAnyH_at 3 (some 86) (v := undef) (by decide) rfl (by kernel_rfl) (by kernel_rfl) (by kernel_rfl) (fun _ _ _ h => h) (Or.inr ⟨by rfl, rfl⟩) (by assumption) ?_
          simp only [Act.put, List.setIfInBounds_toArray, List.set_cons_zero, List.set_cons_succ]
          refine wpAnyH_at 4 (some 87) (v := undef) (by decide) rfl (by kernel_rfl) (by kernel_rfl) (by kernel_rfl) (fun _ _ _ h => h) (Or.inr ⟨by rfl, rfl⟩) (by assumption) ?_
          simp only [Act.put, List.setIfInBounds_toArray, List.set_cons_zero, List.set_cons_succ]
          refine wpAnyH_at 5 (some 88) (v := undef) (by decide) rfl (by kernel_rfl) (by kernel_rfl) (by kernel_rfl) (fun _ _ _ h => h) (Or.inr ⟨by rfl, rfl⟩) (by assumption) ?_
          simp only [Act.put, List.setIfInBounds_toArray, List.set_cons_zero, List.set_cons_succ]
          refine wpAnyH_at 6 (some 89) (v := undef) (by decide) rfl (by kernel_rfl) (by kernel_rfl) (by kernel_rfl) (fun _ _ _ h => h) (Or.inr ⟨by rfl, rfl⟩) (by assumption) ?_
          simp only [Act.put, List.setIfInBounds_toArray, List.set_cons_zero, List.set_cons_succ]
          refine wpAnyH_at 7 (some 90) (v := undef) (by decide) rfl (by kernel_rfl) (by kernel_rfl) (by kernel_rfl) (fun _ _ _ h => h) (Or.inr ⟨by rfl, rfl⟩) (by assumption) ?_
          simp only [Act.put, List.setIfInBounds_toArray, List.set_cons_zero, List.set_cons_succ]
          refine wpAnyH_at 8 (some 91) (v := ?v504) (by decide) rfl (by kernel_rfl) (by kernel_rfl) (by kernel_rfl) (fun _ _ _ h => h) (Or.inl ⟨by rfl, ?y504⟩) (by assumption) ?r504
          case y504 => (intro w hSw; (try dsimp only at hSw); go_simp; (try with_reducible rfl))
          simp only [Act.put, List.setIfInBounds_toArray, List.set_cons_zero, List.set_cons_succ]
          refine wpAnyH_at 9 (some 92) (v := ?v505) (by decide) rfl (by kernel_rfl) (by kernel_rfl) (by kernel_rfl) (fun _ _ _ h => h) (Or.inl ⟨by rfl, ?y505⟩) (by assumption) ?r505
          case y505 => (intro w hSw; (try dsimp only at hSw); go_simp; (try with_reducible rfl))
          simp only [Act.put, List.setIfInBounds_toArray, List.set_cons_zero, List.set_cons_succ]
          refine wpAnyH_at 10 (some 93) (v := ?v506) (by decide) rfl (by kernel_rfl) (by kernel_rfl) (by kernel_rfl) (fun _ _ _ h => h) (Or.inl ⟨by rfl, ?y506⟩) (by assumption) ?r506
          case y506 => (intro w hSw; (try dsimp only at hSw); go_simp; (try with_reducible rfl))
          simp only [Act.put, List.setIfInBounds_toArray, List.set_cons_zero, List.set_cons_succ]
          refine wpAnyH_at 12 (some 95) (v := ?v507) (by decide) rfl (by kernel_rfl) (by kernel_rfl) (by kernel_rfl) (fun _ _ _ h => h) (Or.inl ⟨by rfl, ?y507⟩) (by assumption) ?r507
          case y507 => (intro w hSw; (try dsimp only at hSw); go_simp; (try with_reducible rfl))
          simp only [Act.put, List.setIfInBounds_toArray, List.set_cons_zero, List.set_cons_succ]
          refine wpAnyH_at 13 (some 96) (v := ?v508) (by decide) rfl (by kernel_rfl) (by kernel_rfl) (by kernel_rfl) (fun _ _ _ h => h) (Or.inl ⟨by rfl, ?y508⟩) (by assumption) ?r508
          case y508 => (intro w hSw; (try dsimp only at hSw); go_simp; (try with_reducible rfl))
          simp only [Act.put, List.setIfInBounds_toArray, List.set_cons_zero, List.set_cons_succ]
          refine wpAnyH_ready (rs := [11]) (by kernel_rfl) (by simp) ?_
          refine AllReadyH.cons rfl (fun K hK => ?_) AllReadyH.nil
          go_simp
          refine (HCODE.out _ kc).mono ?_
          rintro e x1 ⟨rfl, hk⟩
          have kd := kc.trans hk
          clear kc
          have kc := kd
          clear kd hk
          try dsimp only []
          refine hK.out _ _ (by exact HS.out _ kc) (fun hHeld => ?_)
          clear hK K
          try simp only [Act.put, List.setIfInBounds_toArray, List.set_cons_zero, List.set_cons_succ]
          refine wpAnyH_at 14 (some 97) (v := ?v509) (by decide) rfl (by kernel_rfl) (by kernel_rfl) (by kernel_rfl) (fun _ _ _ h => h) (Or.inl ⟨by rfl, ?y509⟩) (by assumption) ?r509
          case y509 => (intro w hSw; (try dsimp only at hSw); go_simp; (try with_reducible rfl))
          simp only [Act.put, List.setIfInBounds_toArray, List.set_cons_zero, List.set_cons_succ]
          refine wpAnyH_at 15 (some 98) (v := ?v510) (by decide) rfl (by kernel_rfl) (by kernel_rfl) (by kernel_rfl) (fun _ _ _ h => h) (Or.inl ⟨by rfl, ?y510⟩) (by assumption) ?r510
          case y510 => (intro w hSw; (try dsimp only at hSw); go_simp; (try with_reducible rfl))
          simp only [Act.put, List.setIfInBounds_toArray, List.set_cons_zero, List.set_cons_succ]
          refine wpAnyH_at 16 (some 99) (v := ?v511) (by decide) rfl (by kernel_rfl) (by kernel_rfl) (by kernel_rfl) (fun _ _ _ h => h) (Or.inl ⟨by rfl, ?y511⟩) (by assumption) ?r511
          case y511 => (intro w hSw; (try dsimp only at hSw); go_simp; (try with_reducible rfl))
          simp only [Act.put, List.setIfInBounds_toArray, List.set_cons_zero, List.set_cons_succ]
          refine wpAnyH_at 17 (some 100) (v := ?v512) (by decide) rfl (by kernel_rfl) (by kernel_rfl) (by kernel_rfl) (fun _ _ _ h => h) (Or.inl ⟨by rfl, ?y512⟩) (by assumption) ?r512
          case y512 => (intro w hSw; (try dsimp only at hSw); go_simp; (try with_reducible rfl))
          simp only [Act.put, List.setIfInBounds_toArray, List.set_cons_zero, List.set_cons_succ]
          refine wpAnyH_at 20 (some 103) (v := ?v513) (by decide) rfl (by kernel_rfl) (by kernel_rfl) (by kernel_rfl) (fun _ _ _ h => h) (Or.inl ⟨by rfl, ?y513⟩) (by assumption) ?r513
          case y513 => (intro w hSw; (try dsimp only at hSw); go_simp; (try with_reducible rfl))
          simp only [Act.put, List.setIfInBounds_toArray, List.set_cons_zero, List.set_cons_succ]
          refine wpAnyH_at 21 (some 104) (v := ?v514) (by decide) rfl (by kernel_rfl) (by kernel_rfl) (by kernel_rfl) (fun _ _ _ h => h) (Or.inl ⟨by rfl, ?y514⟩) (by assumption) ?r514
          case y514 => (intro w hSw; (try dsimp only at hSw); go_simp; (try with_reducible rfl))
          simp only [Act.put, List.setIfInBounds_toArray, List.set_cons_zero, List.set_cons_succ]
          refine wpAnyH_ready (rs := [18]) (by kernel_rfl) (by simp) ?_
          refine AllReadyH.cons rfl (fun K hK => ?_) AllReadyH.nil
          go_simp
          refine (HLINKS.out _ kc).mono ?_
          rintro e x2 ⟨l1, rfl, hl, hk⟩
          have kd := kc.trans hk
          clear kc
          have kc := kd
          have HL2 := hid hl
          clear kd hk hl
          try dsimp only []
          refine hK.out _ _ (by exact HS.out _ kc) (fun hHeld => ?_)
          clear hK K
          try simp only [Act.put, List.setIfInBounds_toArray, List.set_cons_zero, List.set_cons_succ]
          refine wpAnyH_ready (rs := [19]) (by kernel_rfl) (by simp) ?_
          refine AllReadyH.cons rfl (fun K hK => ?_) AllReadyH.nil
          go_simp
          refine (lawlinks_any HL2.out H30.out).mono ?_
          rintro e x3 ⟨l2, rfl, hl, hk⟩
          have kd := kc.trans hk
          clear kc
          have kc := kd
          have HL3 := hid hl
          clear kd hk hl
          try dsimp only []
          refine hK.out _ _ (by exact HS.out _ kc) (fun hHeld => ?_)
          clear hK K
          try simp only [Act.put, List.setIfInBounds_toArray, List.set_cons_zero, List.set_cons_succ]
          refine wpAnyH_ready (rs := [22]) (by kernel_rfl) (by simp) ?_
          refine AllReadyH.cons rfl (fun K hK => ?_) AllReadyH.nil
          go_simp
          refine (samelinks_any HL3.out (HLF.out.ll.same kc)).mono ?_
          rintro e x4 ⟨he, hk⟩
          rw [decide_eq_true rfl] at he
          subst he
          have kd := kc.trans hk
          clear kc
          have kc := kd
          clear kd hk
          try dsimp only []
          refine hK.out _ _ (by exact HS.out _ kc) (fun hHeld => ?_)
          clear hK K
          try simp only [Act.put, List.setIfInBounds_toArray, List.set_cons_zero, List.set_cons_succ]
          refine wpAnyH_at 23 (some 106) (v := ?v515) (by decide) rfl (by kernel_rfl) (by kernel_rfl) (by kernel_rfl) (fun _ _ _ h => h) (Or.inl ⟨by rfl, ?y515⟩) (by assumption) ?r515
          case y515 => (intro w hSw; (try dsimp only at hSw); go_simp; (try with_reducible rfl))
          simp only [Act.put, List.setIfInBounds_toArray, List.set_cons_zero, List.set_cons_succ]
          refine wpAnyH_at 24 (some 107) (v := ?v516) (by decide) rfl (by kernel_rfl) (by kernel_rfl) (by kernel_rfl) (fun _ _ _ h => h) (Or.inl ⟨by rfl, ?y516⟩) (by assumption) ?r516
          case y516 => (intro w hSw; (try dsimp only at hSw); go_simp; (try with_reducible rfl))
          simp only [Act.put, List.setIfInBounds_toArray, List.set_cons_zero, List.set_cons_succ]
          refine wpAnyH_at 25 (some 108) (v := ?v517) (by decide) rfl (by kernel_rfl) (by kernel_rfl) (by kernel_rfl) (fun _ _ _ h => h) (Or.inl ⟨by rfl, ?y517⟩) (by assumption) ?r517
          case y517 => (intro w hSw; (try dsimp only at hSw); go_simp; (try with_reducible rfl))
          simp only [Act.put, List.setIfInBounds_toArray, List.set_cons_zero, List.set_cons_succ]
          refine wpAnyH_at 26 (some 109) (v := ?v518) (by decide) rfl (by kernel_rfl) (by kernel_rfl) (by kernel_rfl) (fun _ _ _ h => h) (Or.inl ⟨by rfl, ?y518⟩) (by assumption) ?r518
          case y518 => (intro w hSw; (try dsimp only at hSw); go_simp; (try with_reducible rfl))
          simp only [Act.put, List.setIfInBounds_toArray, List.set_cons_zero, List.set_cons_succ]
          refine wpAnyH_at 28 (some 111) (v := ?v519) (by decide) rfl (by kernel_rfl) (by kernel_rfl) (by kernel_rfl) (fun _ _ _ h => h) (Or.inl ⟨by rfl, ?y519⟩) (by assumption) ?r519
          case y519 => (intro w hSw; (try dsimp only at hSw); go_simp; (try with_reducible rfl))
          simp only [Act.put, List.setIfInBounds_toArray, List.set_cons_zero, List.set_cons_succ]
          refine wpAnyH_ready (rs := [27]) (by kernel_rfl) (by simp) ?_
          refine AllReadyH.cons rfl (fun K hK => ?_) AllReadyH.nil
          go_simp
          refine (HTEXT.out _ kc).mono ?_
          rintro e x5 ⟨rfl, hk⟩
          have kd := kc.trans hk
          clear kc
          have kc := kd
          clear kd hk
          try dsimp only []
          refine hK.out _ _ (by exact HS.out _ kc) (fun hHeld => ?_)
          clear hK K
          try simp only [Act.put, List.setIfInBounds_toArray, List.set_cons_zero, List.set_cons_succ]
          refine wpAnyH_ready (rs := [29]) (by kernel_rfl) (by simp) ?_
          refine AllReadyH.cons rfl (fun K hK => ?_) AllReadyH.nil
          go_simp
          refine (HDTEXT.out _ kc).mono ?_
          rintro e x6 ⟨rfl, hk⟩
          have kd := kc.trans hk
          clear kc
          have kc := kd
          clear kd hk
          try dsimp only []
          refine hK.out _ _ (by exact HS.out _ kc) (fun hHeld => ?_)
          clear hK K
          try simp only [Act.put, List.setIfInBounds_toArray, List.set_cons_zero, List.set_cons_succ]
          refine wpAnyH_at 30 (some 113) (v := ?v520) (by decide) rfl (by kernel_rfl) (by kernel_rfl) (by kernel_rfl) (fun _ _ _ h => h) (Or.inl ⟨by rfl, ?y520⟩) (by assumption) ?r520
          case y520 => (intro w hSw; (try dsimp only at hSw); go_simp; (try with_reducible rfl))
          simp only [Act.put, List.setIfInBounds_toArray, List.set_cons_zero, List.set_cons_succ]
          refine wpAnyH_at 31 (some 114) (v := ?v521) (by decide) rfl (by kernel_rfl) (by kernel_rfl) (by kernel_rfl) (fun _ _ _ h => h) (Or.inl ⟨by rfl, ?y521⟩) (by assumption) ?r521
          case y521 => (intro w hSw; (try dsimp only at hSw); go_simp; (try with_reducible rfl))
          simp only [Act.put, List.setIfInBounds_toArray, List.set_cons_zero, List.set_cons_succ]
          refine wpAnyH_done (by kernel_rfl) ?_ _
          go_wp2_with fail
          refine (HWR.out _ kc).mono ?_; rintro e w8 ⟨y8, rfl, hy, hk8⟩
          have K8 := hid (kc.trans hk8)
          obtain ⟨ty8, py8, rfl⟩ := hy.iface
          have HY8 := hid hy
          have HLF8 := hid (HLF.out.ll.same K8.out)
          have HS8 := hid (show ∀ w', Kept (fun _ => False) w8 w' → w'.cell? ⟨fb, 0, none⟩ = some (.slice fO l0.length fC) ∧ w'.cell? ⟨fb, 1, none⟩ = some (.int .i64 fr) ∧ w'.cell? ⟨ab, 0, none⟩ = some (.int .i64 lo) ∧ w'.cell? ⟨ab, 1, none⟩ = some (.int .u32 lq) from fun w' k => HS.out w' (K8.out.trans k))
          obtain ⟨s8, hs8⟩ : ∃ s8, w8.heap.size = s8 := ⟨_, rfl⟩
          have hsd : w8.drew.heap.size = s8 := hs8
          have HSD := hid hs8
          have hz1 : (w8.drew.alloc (.cells #[.int .i64 lo, .int .u32 lq] 42)).heap.size = s8 + 1 := (show (w8.drew.alloc (.cells #[.int .i64 lo, .int .u32 lq] 42)).heap.size = w8.drew.heap.size + 1 by simp).trans (by rw [hsd])
          have hz2 : (w8.drew.alloc o16).heap.size = s8 + 1 := (show (w8.drew.alloc o16).heap.size = w8.drew.heap.size + 1 by simp).trans (by rw [hsd])
          have HO1 := hid (show OwnLit w8.heap.size (w8.drew.alloc (.cells #[.int .i64 lo, .int .u32 lq] 42)) (.slice (some ⟨s8, 0, none⟩) 1 1) (lo, lq) from hsd ▸ ownLit_new ((Kept.refl (fun _ => False) w8).drew) ((lo, lq) : FL))
          have HO2 := hid (ownLit_alloc HO1.out o16)
          have HO3 := hid (show OwnLit w8.heap.size ((w8.drew.alloc o16).alloc (.cells #[.int .i64 lo, .int .u32 lq] 42)) (.slice (some ⟨s8 + 1, 0, none⟩) 1 1) (lo, lq) from hz2 ▸ ownLit_new (((Kept.refl (fun _ => False) w8).drew).alloc o16) ((lo, lq) : FL))
          have HR2 := hid (show ((w8.drew.alloc (.cells #[.int .i64 lo, .int .u32 lq] 42)).alloc o16).heap[s8 + 1]? = some o16 from hz1 ▸ row_new (w8.drew.alloc (.cells #[.int .i64 lo, .int .u32 lq] 42)) o16)
          have HR3 := hid (show ((w8.drew.alloc o16).alloc (.cells #[.int .i64 lo, .int .u32 lq] 42)).heap[s8]? = some o16 from row_old (hsd ▸ row_new w8.drew o16) _)
          clear hz1 hz2
          have kc8 : Kept (fun _ => False) w8 w8.drew := (Kept.refl _ _).drew
          clear hy hk8 kc
          go_upto_region 21 with fail
          go_cut [16] from 121 to 128 (fun t16 wx => ∃ (tb : Nat) (wv : Option Addr) (wq : Nat), t16 = .pointer (some ⟨tb, 0, none⟩) ∧ wx.heap[tb]? = some (.cells #[.slice wv (l0.length + 1) wq, .int .i64 fr] 24 (0, 0)) ∧ LL wx (.slice wv (l0.length + 1) wq) ((lo, lq) :: l0) ∧ Kept (fun _ => False) w8 wx)
          case first =>
            go_region_held3 (fun w' => w'.cell? ⟨fb, 0, none⟩ = some (.slice fO l0.length fC) ∧ w'.cell? ⟨fb, 1, none⟩ = some (.int .i64 fr) ∧ w'.cell? ⟨ab, 0, none⟩ = some (.int .i64 lo) ∧ w'.cell? ⟨ab, 1, none⟩ = some (.int .u32 lq)) (first | exact HS8.out _ kc8 | exact HS8.out _ (kc8.alloc _) | exact HS8.out _ ((kc8.alloc _).alloc _) | exact HS8.out _ kcx | exact HS8.out _ (kcx.alloc _) | exact HS8.out _ ((kcx.setCell (.inr (by have := HSD.out; simp only; omega)) _).setCell (.inr (by have := HSD.out; simp only; omega)) _))
              (first
                | (refine step_join2 (some 125) rfl (by rfl) (.tmp 122) (.tmp 124) rfl (w9 := w8) ((lo, lq) : FL) l0 (.slice (some ⟨s8, 0, none⟩) 1 1) rfl HO1.out (kc8.alloc _) _ rfl (HLF8.out.same (kc8.alloc _)) H30.out ?_; intro a' c' x5 hown hk5 hk; have kcx := hk; have OWN5 := hid hown; clear hown hk hk5)
                | (refine step_join2 (some 125) rfl (by rfl) (.tmp 122) (.tmp 124) rfl (w9 := w8) ((lo, lq) : FL) l0 (.slice (some ⟨s8, 0, none⟩) 1 1) rfl HO2.out ((kc8.alloc _).alloc _) _ rfl (HLF8.out.same ((kc8.alloc _).alloc _)) H30.out ?_; intro a' c' x5 hown hk5 hk; have kcx := hk; have OWN5 := hid hown; have R16 := hid (show x5.heap[s8 + 1]? = some o16 from (hk5.block (s8 + 1) (row_lt HR2.out) (by simp [Value.ownBlock])).trans HR2.out); have t0 := row_cell R16.out 0; have t1 := row_cell R16.out 1; have u0 := row_free R16.out 0; have u1 := row_free R16.out 1; simp at t0 t1 u0 u1; clear hown hk hk5)
                | (refine step_join2 (some 125) rfl (by rfl) (.tmp 122) (.tmp 124) rfl (w9 := w8) ((lo, lq) : FL) l0 (.slice (some ⟨s8 + 1, 0, none⟩) 1 1) rfl HO3.out ((kc8.alloc _).alloc _) _ rfl (HLF8.out.same ((kc8.alloc _).alloc _)) H30.out ?_; intro a' c' x5 hown hk5 hk; have kcx := hk; have OWN5 := hid hown; have R16 := hid (show x5.heap[s8]? = some o16 from (hk5.block s8 (row_lt HR3.out) (by simp [Value.ownBlock])).trans HR3.out); have t0 := row_cell R16.out 0; have t1 := row_cell R16.out 1; have u0 := row_free R16.out 0; have u1 := row_free R16.out 1; simp at t0 t1 u0 u1; clear hown hk hk5))
            all_goals
              go_wp2_with fail
              go_meet
              first
                | exact ⟨_, _, _, rfl, row_new _ _, (OWN5.out.lies (F := fun _ => False) (lcells_one _) (fun _ _ => id)).same ((Kept.refl _ _).alloc _), kcx.alloc _⟩
                | exact wide_old OWN5.out rfl R16.out kcx (by have := HSD.out; omega)
          case rest =>
            obtain ⟨tb, wv, wq, rfl, hrow, hll, hkc⟩ := hcut
            rename World => w9
            have R9 := hid hrow; have HLL9 := hid hll; have K9 := hid hkc
            have HLENW := hid (show ((lo, lq) :: l0).length ≤ 1000 by have := H31.out; simp only [List.length_cons]; omega)
            have HWLW := hid (show ∀ l ∈ (lo, lq) :: l0, Wl l from fun l hl => by
              rcases List.mem_cons.1 hl with rfl | hl
              · exact HWL.out
              · exact HW0.out l hl)
            have HY9 := hid (HY8.out.kept (F := fun _ => False) hkc (fun _ _ => id))
            have HEV9 := hid (HEV.out.kept (K8.out.trans hkc))
            have KALL := hid ((KW6.out.trans K8.out).trans hkc)
            have hfb9 := HS.out w9 (K8.out.trans hkc)
            have HS9 := hid (show ∀ w', Kept (fun _ => False) w9 w' → w'.cell? ⟨fb, 1, none⟩ = some (.int .i64 fr) ∧ w'.cell? ⟨tb, 0, none⟩ = some (.slice wv (l0.length + 1) wq) ∧ w'.cell? ⟨tb, 1, none⟩ = some (.int .i64 fr) from fun w' k => ⟨k.cell hfb9.2.1 id, k.cell (row_cell R9.out 0) id, k.cell (row_cell R9.out 1) id⟩)
            have kc9 : Kept (fun _ => False) w9 w9.drew := (Kept.refl _ _).drew
            have HIS2 := hid (fun w k => fis_any (HY9.out.kept (w' := w) (F := fun _ => False) k (fun _ _ => id)) code)
            have HCODE2 := hid (fun w k => code_any (HY9.out.kept (w' := w) (F := fun _ => False) k (fun _ _ => id)) (HEV9.out.kept k).et)
            have HLINKS2 := hid (fun w k => flinks_any (HY9.out.kept (w' := w) (F := fun _ => False) k (fun _ _ => id)) (HEV9.out.kept k).et HLENW.out)
            have HTEXT2 := hid (fun w k => text_any (HY9.out.kept (w' := w) (F := fun _ => False) k (fun _ _ => id)) (HEV9.out.kept k).et (HEV9.out.kept k).tab HLENW.out HWLW.out HR.out.1 HR.out.2)
            have HDTEXT2 := hid (fun w k => doctext_any (HLL9.out.same (w' := w) k) HLENW.out HWLW.out HR.out.1 HR.out.2)
            clear hrow hll hkc hfb9
            go_wp2_with fail
            refine wp_region_held_drew (S := fun w' => w'.cell? ⟨fb, 1, none⟩ = some (.int .i64 fr) ∧ w'.cell? ⟨tb, 0, none⟩ = some (.slice wv (l0.length + 1) wq) ∧ w'.cell? ⟨tb, 1, none⟩ = some (.int .i64 fr)) (by kernel_rfl) (by exact HS9.out _ kc9) (fun hHeld => ?_)
            refine wpAnyH_at 0 (some 129) (v := ?v701) (by decide) rfl (by kernel_rfl) (by kernel_rfl) (by kernel_rfl) (fun _ _ _ h => h) (Or.inl ⟨by rfl, ?y701⟩) (by assumption) ?r701
            case y701 => (intro w hSw; (try dsimp only at hSw); go_simp; (try with_reducible rfl))
            simp only [Act.put, List.setIfInBounds_toArray, List.set_cons_zero, List.set_cons_succ]
            refine wpAnyH_at 1 (some 130) (v := ?v702) (by decide) rfl (by kernel_rfl) (by kernel_rfl) (by kernel_rfl) (fun _ _ _ h => h) (Or.inl ⟨by rfl, ?y702⟩) (by assumption) ?r702
            case y702 => (intro w hSw; (try dsimp only at hSw); go_simp; (try with_reducible rfl))
            simp only [Act.put, List.setIfInBounds_toArray, List.set_cons_zero, List.set_cons_succ]
            refine wpAnyH_at 2 (some 131) (v := ?v703) (by decide) rfl (by kernel_rfl) (by kernel_rfl) (by kernel_rfl) (fun _ _ _ h => h) (Or.inl ⟨by rfl, ?y703⟩) (by assumption) ?r703
            case y703 => (intro w hSw; (try dsimp only at hSw); go_simp; (try with_reducible rfl))
            simp only [Act.put, List.setIfInBounds_toArray, List.set_cons_zero, List.set_cons_succ]
            refine wpAnyH_at 3 (some 132) (v := undef) (by decide) rfl (by kernel_rfl) (by kernel_rfl) (by kernel_rfl) (fun _ _ _ h => h) (Or.inr ⟨by rfl, rfl⟩) (by assumption) ?_
            simp only [Act.put, List.setIfInBounds_toArray, List.set_cons_zero, List.set_cons_succ]
            refine wpAnyH_at 4 (some 133) (v := undef) (by decide) rfl (by kernel_rfl) (by kernel_rfl) (by kernel_rfl) (fun _ _ _ h => h) (Or.inr ⟨by rfl, rfl⟩) (by assumption) ?_
            simp only [Act.put, List.setIfInBounds_toArray, List.set_cons_zero, List.set_cons_succ]
            refine wpAnyH_at 5 (some 134) (v := undef) (by decide) rfl (by kernel_rfl) (by kernel_rfl) (by kernel_rfl) (fun _ _ _ h => h) (Or.inr ⟨by rfl, rfl⟩) (by assumption) ?_
            simp only [Act.put, List.setIfInBounds_toArray, List.set_cons_zero, List.set_cons_succ]
            refine wpAnyH_at 6 (some 135) (v := undef) (by decide) rfl (by kernel_rfl) (by kernel_rfl) (by kernel_rfl) (fun _ _ _ h => h) (Or.inr ⟨by rfl, rfl⟩) (by assumption) ?_
            simp only [Act.put, List.setIfInBounds_toArray, List.set_cons_zero, List.set_cons_succ]
            refine wpAnyH_at 7 (some 136) (v := undef) (by decide) rfl (by kernel_rfl) (by kernel_rfl) (by kernel_rfl) (fun _ _ _ h => h) (Or.inr ⟨by rfl, rfl⟩) (by assumption) ?_
            simp only [Act.put, List.setIfInBounds_toArray, List.set_cons_zero, List.set_cons_succ]
            refine wpAnyH_at 8 (some 137) (v := ?v704) (by decide) rfl (by kernel_rfl) (by kernel_rfl) (by kernel_rfl) (fun _ _ _ h => h) (Or.inl ⟨by rfl, ?y704⟩) (by assumption) ?r704
            case y704 => (intro w hSw; (try dsimp only at hSw); go_simp; (try with_reducible rfl))
            simp only [Act.put, List.setIfInBounds_toArray, List.set_cons_zero, List.set_cons_succ]
            refine wpAnyH_at 9 (some 138) (v := ?v705) (by decide) rfl (by kernel_rfl) (by kernel_rfl) (by kernel_rfl) (fun _ _ _ h => h) (Or.inl ⟨by rfl, ?y705⟩) (by assumption) ?r705
            case y705 => (intro w hSw; (try dsimp only at hSw); go_simp; (try with_reducible rfl))
            simp only [Act.put, List.setIfInBounds_toArray, List.set_cons_zero, List.set_cons_succ]
            refine wpAnyH_at 10 (some 139) (v := ?v706) (by decide) rfl (by kernel_rfl) (by kernel_rfl) (by kernel_rfl) (fun _ _ _ h => h) (Or.inl ⟨by rfl, ?y706⟩) (by assumption) ?r706
            case y706 => (intro w hSw; (try dsimp only at hSw); go_simp; (try with_reducible rfl))
            simp only [Act.put, List.setIfInBounds_toArray, List.set_cons_zero, List.set_cons_succ]
            refine wpAnyH_at 12 (some 141) (v := ?v707) (by decide) rfl (by kernel_rfl) (by kernel_rfl) (by kernel_rfl) (fun _ _ _ h => h) (Or.inl ⟨by rfl, ?y707⟩) (by assumption) ?r707
            case y707 => (intro w hSw; (try dsimp only at hSw); go_simp; (try with_reducible rfl))
            simp only [Act.put, List.setIfInBounds_toArray, List.set_cons_zero, List.set_cons_succ]
            refine wpAnyH_at 13 (some 142) (v := ?v708) (by decide) rfl (by kernel_rfl) (by kernel_rfl) (by kernel_rfl) (fun _ _ _ h => h) (Or.inl ⟨by rfl, ?y708⟩) (by assumption) ?r708
            case y708 => (intro w hSw; (try dsimp only at hSw); go_simp; (try with_reducible rfl))
            simp only [Act.put, List.setIfInBounds_toArray, List.set_cons_zero, List.set_cons_succ]
            refine wpAnyH_ready (rs := [11]) (by kernel_rfl) (by simp) ?_
            refine AllReadyH.cons rfl (fun K hK => ?_) AllReadyH.nil
            go_simp
            refine (HCODE2.out _ kc9).mono ?_
            rintro e x708 ⟨rfl, hk⟩
            have kd := kc9.trans hk
            clear kc9
            have kc9 := kd
            clear kd hk
            try dsimp only []
            refine hK.out _ _ (by exact HS9.out _ kc9) (fun hHeld => ?_)
            clear hK K
            try simp only [Act.put, List.setIfInBounds_toArray, List.set_cons_zero, List.set_cons_succ]
            refine wpAnyH_at 14 (some 143) (v := ?v709) (by decide) rfl (by kernel_rfl) (by kernel_rfl) (by kernel_rfl) (fun _ _ _ h => h) (Or.inl ⟨by rfl, ?y709⟩) (by assumption) ?r709
            case y709 => (intro w hSw; (try dsimp only at hSw); go_simp; (try with_reducible rfl))
            simp only [Act.put, List.setIfInBounds_toArray, List.set_cons_zero, List.set_cons_succ]
            refine wpAnyH_at 15 (some 144) (v := ?v710) (by decide) rfl (by kernel_rfl) (by kernel_rfl) (by kernel_rfl) (fun _ _ _ h => h) (Or.inl ⟨by rfl, ?y710⟩) (by assumption) ?r710
            case y710 => (intro w hSw; (try dsimp only at hSw); go_simp; (try with_reducible rfl))
            simp only [Act.put, List.setIfInBounds_toArray, List.set_cons_zero, List.set_cons_succ]
            refine wpAnyH_at 16 (some 145) (v := ?v711) (by decide) rfl (by kernel_rfl) (by kernel_rfl) (by kernel_rfl) (fun _ _ _ h => h) (Or.inl ⟨by rfl, ?y711⟩) (by assumption) ?r711
            case y711 => (intro w hSw; (try dsimp only at hSw); go_simp; (try with_reducible rfl))
            simp only [Act.put, List.setIfInBounds_toArray, List.set_cons_zero, List.set_cons_succ]
            refine wpAnyH_at 17 (some 146) (v := ?v712) (by decide) rfl (by kernel_rfl) (by kernel_rfl) (by kernel_rfl) (fun _ _ _ h => h) (Or.inl ⟨by rfl, ?y712⟩) (by assumption) ?r712
            case y712 => (intro w hSw; (try dsimp only at hSw); go_simp; (try with_reducible rfl))
            simp only [Act.put, List.setIfInBounds_toArray, List.set_cons_zero, List.set_cons_succ]
            refine wpAnyH_at 20 (some 149) (v := ?v713) (by decide) rfl (by kernel_rfl) (by kernel_rfl) (by kernel_rfl) (fun _ _ _ h => h) (Or.inl ⟨by rfl, ?y713⟩) (by assumption) ?r713
            case y713 => (intro w hSw; (try dsimp only at hSw); go_simp; (try with_reducible rfl))
            simp only [Act.put, List.setIfInBounds_toArray, List.set_cons_zero, List.set_cons_succ]
            refine wpAnyH_at 21 (some 150) (v := ?v714) (by decide) rfl (by kernel_rfl) (by kernel_rfl) (by kernel_rfl) (fun _ _ _ h => h) (Or.inl ⟨by rfl, ?y714⟩) (by assumption) ?r714
            case y714 => (intro w hSw; (try dsimp only at hSw); go_simp; (try with_reducible rfl))
            simp only [Act.put, List.setIfInBounds_toArray, List.set_cons_zero, List.set_cons_succ]
            refine wpAnyH_ready (rs := [18]) (by kernel_rfl) (by simp) ?_
            refine AllReadyH.cons rfl (fun K hK => ?_) AllReadyH.nil
            go_simp
            refine (HLINKS2.out _ kc9).mono ?_
            rintro e x714 ⟨l1, rfl, hl, hk⟩
            have HL2 := hid hl
            clear hl
            have kd := kc9.trans hk
            clear kc9
            have kc9 := kd
            clear kd hk
            try dsimp only []
            refine hK.out _ _ (by exact HS9.out _ kc9) (fun hHeld => ?_)
            clear hK K
            try simp only [Act.put, List.setIfInBounds_toArray, List.set_cons_zero, List.set_cons_succ]
            refine wpAnyH_ready (rs := [19]) (by kernel_rfl) (by simp) ?_
            refine AllReadyH.cons rfl (fun K hK => ?_) AllReadyH.nil
            go_simp
            refine (lawlinks_any HL2.out HLENW.out).mono ?_
            rintro e x714 ⟨l2, rfl, hl, hk⟩
            have HL3 := hid hl
            clear hl
            have kd := kc9.trans hk
            clear kc9
            have kc9 := kd
            clear kd hk
            try dsimp only []
            refine hK.out _ _ (by exact HS9.out _ kc9) (fun hHeld => ?_)
            clear hK K
            try simp only [Act.put, List.setIfInBounds_toArray, List.set_cons_zero, List.set_cons_succ]
            refine wpAnyH_ready (rs := [22]) (by kernel_rfl) (by simp) ?_
            refine AllReadyH.cons rfl (fun K hK => ?_) AllReadyH.nil
            go_simp
            refine (samelinks_any HL3.out (HLL9.out.same kc9)).mono ?_
            rintro e x714 ⟨he, hk⟩
            rw [decide_eq_true rfl] at he
            subst he
            have kd := kc9.trans hk
            clear kc9
            have kc9 := kd
            clear kd hk
            try dsimp only []
            refine hK.out _ _ (by exact HS9.out _ kc9) (fun hHeld => ?_)
            clear hK K
            try simp only [Act.put, List.setIfInBounds_toArray, List.set_cons_zero, List.set_cons_succ]
            refine wpAnyH_at 23 (some 152) (v := ?v715) (by decide) rfl (by kernel_rfl) (by kernel_rfl) (by kernel_rfl) (fun _ _ _ h => h) (Or.inl ⟨by rfl, ?y715⟩) (by assumption) ?r715
            case y715 => (intro w hSw; (try dsimp only at hSw); go_simp; (try with_reducible rfl))
            simp only [Act.put, List.setIfInBounds_toArray, List.set_cons_zero, List.set_cons_succ]
            refine wpAnyH_at 24 (some 153) (v := ?v716) (by decide) rfl (by kernel_rfl) (by kernel_rfl) (by kernel_rfl) (fun _ _ _ h => h) (Or.inl ⟨by rfl, ?y716⟩) (by assumption) ?r716
            case y716 => (intro w hSw; (try dsimp only at hSw); go_simp; (try with_reducible rfl))
            simp only [Act.put, List.setIfInBounds_toArray, List.set_cons_zero, List.set_cons_succ]
            refine wpAnyH_at 25 (some 154) (v := ?v717) (by decide) rfl (by kernel_rfl) (by kernel_rfl) (by kernel_rfl) (fun _ _ _ h => h) (Or.inl ⟨by rfl, ?y717⟩) (by assumption) ?r717
            case y717 => (intro w hSw; (try dsimp only at hSw); go_simp; (try with_reducible rfl))
            simp only [Act.put, List.setIfInBounds_toArray, List.set_cons_zero, List.set_cons_succ]
            refine wpAnyH_at 27 (some 156) (v := ?v718) (by decide) rfl (by kernel_rfl) (by kernel_rfl) (by kernel_rfl) (fun _ _ _ h => h) (Or.inl ⟨by rfl, ?y718⟩) (by assumption) ?r718
            case y718 => (intro w hSw; (try dsimp only at hSw); go_simp; (try with_reducible rfl))
            simp only [Act.put, List.setIfInBounds_toArray, List.set_cons_zero, List.set_cons_succ]
            refine wpAnyH_ready (rs := [26]) (by kernel_rfl) (by simp) ?_
            refine AllReadyH.cons rfl (fun K hK => ?_) AllReadyH.nil
            go_simp
            refine (HTEXT2.out _ kc9).mono ?_
            rintro e x718 ⟨rfl, hk⟩
            have kd := kc9.trans hk
            clear kc9
            have kc9 := kd
            clear kd hk
            try dsimp only []
            refine hK.out _ _ (by exact HS9.out _ kc9) (fun hHeld => ?_)
            clear hK K
            try simp only [Act.put, List.setIfInBounds_toArray, List.set_cons_zero, List.set_cons_succ]
            refine wpAnyH_ready (rs := [28]) (by kernel_rfl) (by simp) ?_
            refine AllReadyH.cons rfl (fun K hK => ?_) AllReadyH.nil
            go_simp
            refine (HDTEXT2.out _ kc9).mono ?_
            rintro e x718 ⟨rfl, hk⟩
            have kd := kc9.trans hk
            clear kc9
            have kc9 := kd
            clear kd hk
            try dsimp only []
            refine hK.out _ _ (by exact HS9.out _ kc9) (fun hHeld => ?_)
            clear hK K
            try simp only [Act.put, List.setIfInBounds_toArray, List.set_cons_zero, List.set_cons_succ]
            refine wpAnyH_at 29 (some 158) (v := ?v719) (by decide) rfl (by kernel_rfl) (by kernel_rfl) (by kernel_rfl) (fun _ _ _ h => h) (Or.inl ⟨by rfl, ?y719⟩) (by assumption) ?r719
            case y719 => (intro w hSw; (try dsimp only at hSw); go_simp; (try with_reducible rfl))
            simp only [Act.put, List.setIfInBounds_toArray, List.set_cons_zero, List.set_cons_succ]
            refine wpAnyH_at 30 (some 159) (v := ?v720) (by decide) rfl (by kernel_rfl) (by kernel_rfl) (by kernel_rfl) (fun _ _ _ h => h) (Or.inl ⟨by rfl, ?y720⟩) (by assumption) ?r720
            case y720 => (intro w hSw; (try dsimp only at hSw); go_simp; (try with_reducible rfl))
            simp only [Act.put, List.setIfInBounds_toArray, List.set_cons_zero, List.set_cons_succ]
            refine wpAnyH_at 31 (some 6) (v := ?v721) (by decide) rfl (by kernel_rfl) (by kernel_rfl) (by kernel_rfl) (fun _ _ _ h => h) (Or.inl ⟨by rfl, ?y721⟩) (by assumption) ?r721
            case y721 => (intro w hSw; (try dsimp only at hSw); go_simp; (try with_reducible rfl))
            simp only [Act.put, List.setIfInBounds_toArray, List.set_cons_zero, List.set_cons_succ]
            refine wpAnyH_done (by kernel_rfl) ?_ _
            go_wp2_with fail
            go_ret
            exact ⟨rfl, (KALL.out.trans kc9).below (Nat.le_refl _) (fun _ h => h.elim)⟩
        · have hce : (code == 0) = false := by simpa using hc
          have hcn : (code != 0) = true := by simpa using hc
          have HCX := hid (HCC.out hc)
          clear hc
          have HCC := HCX
          go_wp2_with fail
          clear f0 f1
          go_region_held3 (fun w' => w'.cell? ⟨fb, 0, none⟩ = some (.slice fO l0.length fC) ∧ w'.cell? ⟨fb, 1, none⟩ = some (.int .i64 fr) ∧ w'.cell? ⟨ab, 0, none⟩ = some (.int .i64 lo) ∧ w'.cell? ⟨ab, 1, none⟩ = some (.int .u32 lq)) (first | exact HS.out _ kc)
            (first
              | (go_at_call 10; refine (HIS.out _ kc).mono ?_; rintro e x0 ⟨he, rfl⟩; rw [HCC.out] at he; subst he; clear HIS)
              | (go_at_call 9; refine (HCODE.out _ kc).mono ?_; rintro e x1 ⟨rfl, hk⟩; have kd := kc.trans hk; clear kc; have kc := kd; clear kd; clear hk HCODE)
              | (go_at_call 11; refine (HLINKS.out _ kc).mono ?_; rintro e x2 ⟨l1, rfl, hl, hk⟩; have kd := kc.trans hk; clear kc; have kc := kd; clear kd; have HL2 := hid hl; clear hk hl HLINKS)
              | (go_at_call 14; refine (lawlinks_any HL2.out H30.out).mono ?_; rintro e x3 ⟨l2, rfl, hl, hk⟩; have kd := kc.trans hk; clear kc; have kc := kd; clear kd; have HL3 := hid hl; clear hk hl HL2)
              | (go_at_call 13; refine (samelinks_any HL3.out (HLF.out.ll.same kc)).mono ?_; rintro e x4 ⟨he, hk⟩; rw [decide_eq_true rfl] at he; subst he; have kd := kc.trans hk; clear kc; have kc := kd; clear kd; clear hk HL3)
              | (go_at_call 12; refine (HTEXT.out _ kc).mono ?_; rintro e x5 ⟨rfl, hk⟩; have kd := kc.trans hk; clear kc; have kc := kd; clear kd; clear hk HTEXT)
              | (go_at_call 15; refine (HDTEXT.out _ kc).mono ?_; rintro e x6 ⟨rfl, hk⟩; have kd := kc.trans hk; clear kc; have kc := kd; clear kd; clear hk HDTEXT))
          go_wp2_with fail
          refine (HWR.out _ kc).mono ?_; rintro e w8 ⟨y8, rfl, hy, hk8⟩
          have K8 := hid (kc.trans hk8)
          obtain ⟨ty8, py8, rfl⟩ := hy.iface
          have HY8 := hid hy
          have HLF8 := hid (HLF.out.ll.same K8.out)
          have HS8 := hid (show ∀ w', Kept (fun _ => False) w8 w' → w'.cell? ⟨fb, 0, none⟩ = some (.slice fO l0.length fC) ∧ w'.cell? ⟨fb, 1, none⟩ = some (.int .i64 fr) ∧ w'.cell? ⟨ab, 0, none⟩ = some (.int .i64 lo) ∧ w'.cell? ⟨ab, 1, none⟩ = some (.int .u32 lq) from fun w' k => HS.out w' (K8.out.trans k))
          obtain ⟨s8, hs8⟩ : ∃ s8, w8.heap.size = s8 := ⟨_, rfl⟩
          have hsd : w8.drew.heap.size = s8 := hs8
          have HSD := hid hs8
          have hz1 : (w8.drew.alloc (.cells #[.int .i64 lo, .int .u32 lq] 42)).heap.size = s8 + 1 := (show (w8.drew.alloc (.cells #[.int .i64 lo, .int .u32 lq] 42)).heap.size = w8.drew.heap.size + 1 by simp).trans (by rw [hsd])
          have hz2 : (w8.drew.alloc o16).heap.size = s8 + 1 := (show (w8.drew.alloc o16).heap.size = w8.drew.heap.size + 1 by simp).trans (by rw [hsd])
          have HO1 := hid (show OwnLit w8.heap.size (w8.drew.alloc (.cells #[.int .i64 lo, .int .u32 lq] 42)) (.slice (some ⟨s8, 0, none⟩) 1 1) (lo, lq) from hsd ▸ ownLit_new ((Kept.refl (fun _ => False) w8).drew) ((lo, lq) : FL))
          have HO2 := hid (ownLit_alloc HO1.out o16)
          have HO3 := hid (show OwnLit w8.heap.size ((w8.drew.alloc o16).alloc (.cells #[.int .i64 lo, .int .u32 lq] 42)) (.slice (some ⟨s8 + 1, 0, none⟩) 1 1) (lo, lq) from hz2 ▸ ownLit_new (((Kept.refl (fun _ => False) w8).drew).alloc o16) ((lo, lq) : FL))
          have HR2 := hid (show ((w8.drew.alloc (.cells #[.int .i64 lo, .int .u32 lq] 42)).alloc o16).heap[s8 + 1]? = some o16 from hz1 ▸ row_new (w8.drew.alloc (.cells #[.int .i64 lo, .int .u32 lq] 42)) o16)
          have HR3 := hid (show ((w8.drew.alloc o16).alloc (.cells #[.int .i64 lo, .int .u32 lq] 42)).heap[s8]? = some o16 from row_old (hsd ▸ row_new w8.drew o16) _)
          clear hz1 hz2
          have kc8 : Kept (fun _ => False) w8 w8.drew := (Kept.refl _ _).drew
          clear hy hk8 kc
          go_upto_region 21 with fail
          go_cut [16] from 121 to 128 (fun t16 wx => ∃ (tb : Nat) (wv : Option Addr) (wq : Nat), t16 = .pointer (some ⟨tb, 0, none⟩) ∧ wx.heap[tb]? = some (.cells #[.slice wv (l0.length + 1) wq, .int .i64 fr] 24 (0, 0)) ∧ LL wx (.slice wv (l0.length + 1) wq) ((lo, lq) :: l0) ∧ Kept (fun _ => False) w8 wx)
          case first =>
            go_region_held3 (fun w' => w'.cell? ⟨fb, 0, none⟩ = some (.slice fO l0.length fC) ∧ w'.cell? ⟨fb, 1, none⟩ = some (.int .i64 fr) ∧ w'.cell? ⟨ab, 0, none⟩ = some (.int .i64 lo) ∧ w'.cell? ⟨ab, 1, none⟩ = some (.int .u32 lq)) (first | exact HS8.out _ kc8 | exact HS8.out _ (kc8.alloc _) | exact HS8.out _ ((kc8.alloc _).alloc _) | exact HS8.out _ kcx | exact HS8.out _ (kcx.alloc _) | exact HS8.out _ ((kcx.setCell (.inr (by have := HSD.out; simp only; omega)) _).setCell (.inr (by have := HSD.out; simp only; omega)) _))
              (first
                | (refine step_join2 (some 125) rfl (by rfl) (.tmp 122) (.tmp 124) rfl (w9 := w8) ((lo, lq) : FL) l0 (.slice (some ⟨s8, 0, none⟩) 1 1) rfl HO1.out (kc8.alloc _) _ rfl (HLF8.out.same (kc8.alloc _)) H30.out ?_; intro a' c' x5 hown hk5 hk; have kcx := hk; have OWN5 := hid hown; clear hown hk hk5)
                | (refine step_join2 (some 125) rfl (by rfl) (.tmp 122) (.tmp 124) rfl (w9 := w8) ((lo, lq) : FL) l0 (.slice (some ⟨s8, 0, none⟩) 1 1) rfl HO2.out ((kc8.alloc _).alloc _) _ rfl (HLF8.out.same ((kc8.alloc _).alloc _)) H30.out ?_; intro a' c' x5 hown hk5 hk; have kcx := hk; have OWN5 := hid hown; have R16 := hid (show x5.heap[s8 + 1]? = some o16 from (hk5.block (s8 + 1) (row_lt HR2.out) (by simp [Value.ownBlock])).trans HR2.out); have t0 := row_cell R16.out 0; have t1 := row_cell R16.out 1; have u0 := row_free R16.out 0; have u1 := row_free R16.out 1; simp at t0 t1 u0 u1; clear hown hk hk5)
                | (refine step_join2 (some 125) rfl (by rfl) (.tmp 122) (.tmp 124) rfl (w9 := w8) ((lo, lq) : FL) l0 (.slice (some ⟨s8 + 1, 0, none⟩) 1 1) rfl HO3.out ((kc8.alloc _).alloc _) _ rfl (HLF8.out.same ((kc8.alloc _).alloc _)) H30.out ?_; intro a' c' x5 hown hk5 hk; have kcx := hk; have OWN5 := hid hown; have R16 := hid (show x5.heap[s8]? = some o16 from (hk5.block s8 (row_lt HR3.out) (by simp [Value.ownBlock])).trans HR3.out); have t0 := row_cell R16.out 0; have t1 := row_cell R16.out 1; have u0 := row_free R16.out 0; have u1 := row_free R16.out 1; simp at t0 t1 u0 u1; clear hown hk hk5))
            all_goals
              go_wp2_with fail
              go_meet
              first
                | exact ⟨_, _, _, rfl, row_new _ _, (OWN5.out.lies (F := fun _ => False) (lcells_one _) (fun _ _ => id)).same ((Kept.refl _ _).alloc _), kcx.alloc _⟩
                | exact wide_old OWN5.out rfl R16.out kcx (by have := HSD.out; omega)
          case rest =>
            obtain ⟨tb, wv, wq, rfl, hrow, hll, hkc⟩ := hcut
            rename World => w9
            have R9 := hid hrow; have HLL9 := hid hll; have K9 := hid hkc
            have HLENW := hid (show ((lo, lq) :: l0).length ≤ 1000 by have := H31.out; simp only [List.length_cons]; omega)
            have HWLW := hid (show ∀ l ∈ (lo, lq) :: l0, Wl l from fun l hl => by
              rcases List.mem_cons.1 hl with rfl | hl
              · exact HWL.out
              · exact HW0.out l hl)
            have HY9 := hid (HY8.out.kept (F := fun _ => False) hkc (fun _ _ => id))
            have HEV9 := hid (HEV.out.kept (K8.out.trans hkc))
            have KALL := hid ((KW6.out.trans K8.out).trans hkc)
            have hfb9 := HS.out w9 (K8.out.trans hkc)
            have HS9 := hid (show ∀ w', Kept (fun _ => False) w9 w' → w'.cell? ⟨fb, 1, none⟩ = some (.int .i64 fr) ∧ w'.cell? ⟨tb, 0, none⟩ = some (.slice wv (l0.length + 1) wq) ∧ w'.cell? ⟨tb, 1, none⟩ = some (.int .i64 fr) from fun w' k => ⟨k.cell hfb9.2.1 id, k.cell (row_cell R9.out 0) id, k.cell (row_cell R9.out 1) id⟩)
            have kc9 : Kept (fun _ => False) w9 w9.drew := (Kept.refl _ _).drew
            have HIS2 := hid (fun w k => fis_any (HY9.out.kept (w' := w) (F := fun _ => False) k (fun _ _ => id)) code)
            have HCODE2 := hid (fun w k => code_any (HY9.out.kept (w' := w) (F := fun _ => False) k (fun _ _ => id)) (HEV9.out.kept k).et)
            have HLINKS2 := hid (fun w k => flinks_any (HY9.out.kept (w' := w) (F := fun _ => False) k (fun _ _ => id)) (HEV9.out.kept k).et HLENW.out)
            have HTEXT2 := hid (fun w k => text_any (HY9.out.kept (w' := w) (F := fun _ => False) k (fun _ _ => id)) (HEV9.out.kept k).et (HEV9.out.kept k).tab HLENW.out HWLW.out HR.out.1 HR.out.2)
            have HDTEXT2 := hid (fun w k => doctext_any (HLL9.out.same (w' := w) k) HLENW.out HWLW.out HR.out.1 HR.out.2)
            clear hrow hll hkc hfb9
            go_wp2_with fail
            go_region_held3 (fun w' => w'.cell? ⟨fb, 1, none⟩ = some (.int .i64 fr) ∧ w'.cell? ⟨tb, 0, none⟩ = some (.slice wv (l0.length + 1) wq) ∧ w'.cell? ⟨tb, 1, none⟩ = some (.int .i64 fr)) (first | exact HS9.out _ kc9)
              (first
                | (go_at_call 10; refine (HIS2.out _ kc9).mono ?_; rintro e x0 ⟨he, rfl⟩; rw [HCX.out] at he; subst he; clear HIS2)
                | (go_at_call 9; refine (HCODE2.out _ kc9).mono ?_; rintro e x1 ⟨rfl, hk⟩; have kd := kc9.trans hk; clear kc9; have kc9 := kd; clear kd; clear hk HCODE2)
                | (go_at_call 11; refine (HLINKS2.out _ kc9).mono ?_; rintro e x2 ⟨l1, rfl, hl, hk⟩; have kd := kc9.trans hk; clear kc9; have kc9 := kd; clear kd; have HL2 := hid hl; clear hk hl HLINKS2)
                | (go_at_call 14; refine (lawlinks_any HL2.out HLENW.out).mono ?_; rintro e x3 ⟨l2, rfl, hl, hk⟩; have kd := kc9.trans hk; clear kc9; have kc9 := kd; clear kd; have HL3 := hid hl; clear hk hl HL2)
                | (go_at_call 13; refine (samelinks_any HL3.out (HLL9.out.same kc9)).mono ?_; rintro e x4 ⟨he, hk⟩; rw [decide_eq_true rfl] at he; subst he; have kd := kc9.trans hk; clear kc9; have kc9 := kd; clear kd; clear hk HL3)
                | (go_at_call 12; refine (HTEXT2.out _ kc9).mono ?_; rintro e x5 ⟨rfl, hk⟩; have kd := kc9.trans hk; clear kc9; have kc9 := kd; clear kd; clear hk HTEXT2)
                | (go_at_call 15; refine (HDTEXT2.out _ kc9).mono ?_; rintro e x6 ⟨rfl, hk⟩; have kd := kc9.trans hk; clear kc9; have kc9 := kd; clear kd; clear hk HDTEXT2))
            go_wp2_with fail
            go_ret
            exact ⟨rfl, (KALL.out.trans kc9).below (Nat.le_refl _) (fun _ h => h.elim)⟩
end Go.Proofs.YtlkhbepmkembgaaDoor
