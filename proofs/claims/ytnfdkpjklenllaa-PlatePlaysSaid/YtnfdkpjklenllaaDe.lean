/- The document's plate: DocWrite. -/
import Derived.Test.YtnfdkpjklenllaaDc
namespace Go.Proofs.Ytnfdkpjklenllaa
open Go.RowKit
theorem cell_lt {w : World} {g j : Nat} {v : Value} (h : w.cell? ⟨g, j, none⟩ = some v) : g < w.heap.size := by
  unfold World.cell? at h
  cases hh : w.heap[g]? with
  | none => simp [hh] at h
  | some o => exact (Array.getElem?_eq_some_iff.1 hh).1
theorem DPost.before {F H : Nat → Prop} {w w1 w' : World} {b : Nat} {D' : Dpl} (k : Kept (fun _ => False) w w1) (h : DPost F H w1 b D' w') : DPost F H w b D' w' := by
  obtain ⟨F', h1, h2, h3⟩ := h
  exact ⟨F', h1, fun g hg => (h2 g hg).imp id (fun h => Nat.le_trans k.size h), (k.mono (fun _ _ h => h.elim)).trans h3⟩
set_option maxHeartbeats 1000000 in
theorem dwrite_arg {w : World} {p : Option Addr} (i : Int) (hi : i < 0) (v : Value) : Calls Try.prog 30 #[.pointer p, .int .i64 i, v] w fun e w' => e = .returned (.int .i64 1) ∧ w = w' := by
  go_enter Try.func30, Try.ntmps30
  go_wp2
  go_ret
  exact ⟨rfl, rfl⟩
set_option maxHeartbeats 1000000 in
theorem dwrite_big {F H : Nat → Prop} {w : World} {b : Nat} {D : Dpl} (h : DAt F H w b D) (i : Int) (hi : 0 ≤ i) (hn : D.n ≤ i) (v : Value) : Calls Try.prog 30 #[.pointer (some ⟨b, 0, none⟩), .int .i64 i, v] w fun e w' => e = .returned (.int .i64 1) ∧ w = w' := by
  obtain ⟨lo, lc, so, sc, h⟩ := h
  obtain ⟨c0, c1, c2, c3, c4, c5⟩ := cells6 h.r
  clear h c1 c2 c3 c4 c5
  have hn' : ¬ i < 0 := by omega
  go_enter Try.func30, Try.ntmps30
  go_wp2
  go_ret
  exact ⟨rfl, rfl⟩
set_option maxHeartbeats 1000000 in
theorem dwrite_long {F H : Nat → Prop} {w : World} {b : Nat} {D : Dpl} (h : DAt F H w b D) (i : Int) (hi : 0 ≤ i) (hn : i < D.n) {a : Option Addr} {N c : Nat} (hN : 64 < N) : Calls Try.prog 30 #[.pointer (some ⟨b, 0, none⟩), .int .i64 i, .slice a N c] w fun e w' => e = .returned (.int .i64 2) ∧ w = w' := by
  obtain ⟨lo, lc, so, sc, h⟩ := h
  obtain ⟨c0, c1, c2, c3, c4, c5⟩ := cells6 h.r
  clear h c1 c2 c3 c4 c5
  have hn1 : ¬ i < 0 := by omega
  have hn2 : ¬ D.n ≤ i := by omega
  have hN' : (64 : Int) < (N : Int) := by omega
  go_enter Try.func30, Try.ntmps30
  go_wp2
  go_ret
  exact ⟨rfl, rfl⟩
set_option maxHeartbeats 1000000 in
theorem dwrite_nil {w : World} (i : Int) (hi : 0 ≤ i) {a : Option Addr} {N c : Nat} : Calls Try.prog 30 #[.pointer none, .int .i64 i, .slice a N c] w fun e w' => e = .returned (.int .i64 (if 64 < N then 2 else 6)) ∧ w = w' := by
  have hn1 : ¬ i < 0 := by omega
  by_cases hN : 64 < N
  · have hN' : (64 : Int) < (N : Int) := by omega
    rw [if_pos hN]
    go_enter Try.func30, Try.ntmps30
    go_wp2
    go_ret
    exact ⟨rfl, rfl⟩
  · have hN' : ¬ (64 : Int) < (N : Int) := by omega
    rw [if_neg hN]
    go_enter Try.func30, Try.ntmps30
    go_wp2_with fail
    refine (state_nil _).mono ?_
    rintro e w' ⟨rfl, rfl⟩
    go_wp2
    go_ret
    exact ⟨rfl, rfl⟩
set_option maxHeartbeats 1000000 in
theorem dwrite_off {F H : Nat → Prop} {w : World} {b : Nat} {D : Dpl} (h : DAt F H w b D) (hoff : D.off = true) (i : Int) (hi : 0 ≤ i) (hn : i < D.n) {a : Option Addr} {N c : Nat} (hN : N ≤ 64) : Calls Try.prog 30 #[.pointer (some ⟨b, 0, none⟩), .int .i64 i, .slice a N c] w fun e w' => e = .returned (.int .i64 11) ∧ w = w' := by
  have HA := hid h
  obtain ⟨lo, lc, so, sc, h⟩ := h
  obtain ⟨c0, c1, c2, c3, c4, c5⟩ := cells6 h.r
  clear h c1 c2 c3 c4 c5
  have hn1 : ¬ i < 0 := by omega
  have hn2 : ¬ D.n ≤ i := by omega
  have hN' : ¬ (64 : Int) < (N : Int) := by omega
  go_enter Try.func30, Try.ntmps30
  go_wp2_with fail
  refine (state_any HA.out).mono ?_
  rintro e w' ⟨rfl, rfl⟩
  have he : D.err = 11 := by simp [Dpl.err, hoff]
  rw [he]
  go_wp2
  go_ret
  exact ⟨rfl, rfl⟩
def Dpl.goE (D : Dpl) : Int := if (dtick D).off then 11 else 0
def Dpl.add (D : Dpl) (i : Int) (l : List Int) (v : Value) : Dpl := { D with since := D.since ++ [⟨i, 0, pad l, v⟩] }
/-- pad, half way -/
def padk (l : List Int) (k : Nat) : List Int := l.take k ++ List.replicate (64 - k) 0
theorem padk_all {l : List Int} : padk l l.length = pad l := by simp [padk, pad]
theorem padk_len {l : List Int} {k : Nat} (hk : k ≤ l.length) (hl : l.length ≤ 64) : (padk l k).length = 64 := by simp [padk]; omega
theorem padk_succ {l : List Int} {k : Nat} {u : Int} (hk : l[k]? = some u) (hl : l.length ≤ 64) : (padk l k).set k u = padk l (k + 1) := by
  have hk' := (List.getElem?_eq_some_iff.1 hk).1
  have e : l.take (k + 1) = l.take k ++ [u] := by rw [List.take_add_one, hk]; rfl
  unfold padk
  rw [e, List.set_append_right _ _ (by simp; omega)]
  have e2 : 64 - k = (64 - (k + 1)) + 1 := by omega
  have e3 : k - (l.take k).length = 0 := by simp; omega
  rw [e3, e2, List.replicate_succ, List.set_cons_zero]
  simp
set_option maxRecDepth 100000 in
set_option maxHeartbeats 4000000 in
theorem dwrite_ok {F H : Nat → Prop} {w : World} {b : Nat} {D : Dpl} (h : DAt F H w b D) (hs : DSmall D) (hoff : D.off = false) (hN : D.last.length ≤ 100000 ∧ D.since.length ≤ 100000) (hH : ∀ g, H g → g < w.heap.size) (i : Int) (hi : 0 ≤ i) (hn : i < D.n) {v : Value} {l : List Int} (hv : Byt w v l) (hl : l.length ≤ 64) :
    Calls Try.prog 30 #[.pointer (some ⟨b, 0, none⟩), .int .i64 i, v] w fun e w' => e = .returned (.int .i64 D.goE) ∧ ∃ v', DPost F H w b (dtick (D.add i l v')) w' := by
  obtain ⟨a, c, rfl, hc1, hc2, hc3⟩ := hv
  have HC3 := hid hc3
  have HA := hid h
  obtain ⟨lo, lc, so, sc, h⟩ := h
  have HI := hid h
  obtain ⟨c0, c1, c2, c3, c4, c5⟩ := cells6 h.r
  clear h c1 c2 c3 c4 c5 hc3 hc2 hc1
  have hn1 : ¬ i < 0 := by omega
  have hn2 : ¬ D.n ≤ i := by omega
  have hN' : ¬ (64 : Int) < (l.length : Int) := by omega
  have HH := hid hH; have HNN := hid hN; have HOFF := hid hoff; have HSM := hid hs
  clear hH hN hs hoff
  have hmk := mk64
  have P0 := hid (row_new w (.cells (u8s zpg).toArray 5))
  have K0 := hid ((Kept.refl (fun _ => False) w).alloc (.cells (u8s zpg).toArray 5))
  obtain ⟨w1, hw1⟩ : ∃ w1, w.alloc (.cells (u8s zpg).toArray 5) = w1 := ⟨_, rfl⟩
  rw [hw1] at P0 K0
  obtain ⟨pb, hpb⟩ : ∃ pb, w.heap.size = pb := ⟨_, rfl⟩
  rw [hpb] at P0
  have HW1 := hid hw1; have HPB := hid hpb
  clear hw1 hpb
  go_enter Try.func30, Try.ntmps30
  go_wp2_with fail
  refine (state_any HA.out).mono ?_
  rintro e w' ⟨rfl, rfl⟩
  have he : D.err = 0 := by simp [Dpl.err, HOFF.out]
  rw [he]
  have hw1 := HW1.out
  have hpb := HPB.out
  go_wp2_with fail
  clear hmk hw1 he c0
  go_loopw [36] (fun j wr => ∃ k : Nat, k ≤ l.length ∧ j = .int .i64 k ∧ wr.heap[pb]? = some (.cells (u8s (padk l k)).toArray 5 (0, 0)) ∧ Kept (fun g => g = pb) w1 wr) (fun j _ => l.length - (intOf j).toNat)
  case atStart => exact ⟨0, Nat.zero_le _, rfl, by simpa [padk, zpg] using P0.out, Kept.refl _ _⟩
  case round =>
    rename World => wr
    obtain ⟨k, hk, rfl, hb, hkp⟩ := hrel
    have HB := hid hb; have KR := hid hkp
    clear hb hkp
    by_cases hlt : k < l.length
    · have hltI : (k : Int) < (l.length : Int) := by omega
      have hk64 : (k : Int) < 64 := by omega
      obtain ⟨u, hu⟩ : ∃ u, l[k]? = some u := ⟨_, List.getElem?_eq_getElem hlt⟩
      obtain ⟨gb, ob, rfl, hcell⟩ := HC3.out k u hu
      have hgl : gb < w.heap.size := cell_lt hcell
      have hcell' : wr.cell? ⟨gb, ob + k, none⟩ = some (.int .u8 u) := KR.out.cell (K0.out.cell hcell (fun h => h)) (fun e => by have e' : gb = pb := e; omega)
      obtain ⟨od, hod⟩ : ∃ od, (padk l k)[k]? = some od := ⟨_, List.getElem?_eq_getElem (by rw [padk_len hk hl]; omega)⟩
      have hpc : wr.cell? ⟨pb, k, none⟩ = some (.int .u8 od) := by rw [row_cell HB.out]; simp [u8s, hod]
      have hfr := row_free HB.out k
      have HU := hid hu
      have HSET := hid (row_set HB.out k (.int .u8 u))
      clear hod hu hcell
      go_wp2
      go_roundw
      case rel => exact ⟨k + 1, by omega, by go_num, by rw [HSET.out, ← u8s_set, padk_succ HU.out hl], KR.out.setCell (.inl rfl) _⟩
      case measure => (simp only [intOf]; omega)
    · obtain rfl : k = l.length := by omega
      have K1R := hid (K0.out.trans' KR.out (fun g e => .inr (by omega)))
      have IR := hid (HI.out.same K1R.out)
      rw [padk_all] at HB
      obtain ⟨c0, c1, c2, c3, c4, c5⟩ := cells6 IR.out.r
      clear c0 c1 c3 c4 c5
      have lpb := row_lt HB.out
      go_wp2_with (first
        | (at_builtin; refine wpList_app rfl (.tmp 50) (.tmp 54) 59 rfl 85 (.agg #[.int .i64 0, .int .i64 0, .slice none 0 0]) 3 40 Try.underlying59 infoPut rfl (by decide) (.slice so D.since.length sc) D.since.length (dcells D.since) rfl (IR.out.os.alloc _) _ rfl 1 (dcell ⟨i, 0, pad l, .slice (some ⟨pb, 0, none⟩) 64 64⟩) (src_row (by simp [dcell]) (fun j u hu => by rw [Nat.zero_add, row_cell (row_new wr _)]; simpa [dcell] using hu) (by simp [dcell, Value.oneCell'])) (by have := HNN.out; simp only [maxLen]; omega) (by have := HNN.out; omega) ?_; intro a' c' w4 ho hk4 hf _; have HO4 := hid ho; have HK4 := hid hk4; have HF4 := hid hf; have HR4 := hid ((hk4.block b (Nat.lt_of_lt_of_le (row_lt IR.out.r) (by simp)) (fun e => IR.out.neb.2 b e rfl)).trans (row_old IR.out.r _)); have hbe := row_cell HR4.out 2; clear ho hk4 hf)
        | (refine wpList_store_cell rfl 59 (.tmp 57) (.tmp 55) rfl (by kernel_rfl) b 2 rfl (.slice a' (D.since.length + 1) c') rfl rfl HR4.out (by simp) ?_; intro w5 hr hk; have HR5 := hid hr.out; have HK5 := hid hk.out; clear hr hk))
      have hnb := IR.out.neb.2
      have KA := hid ((Kept.refl (fun _ => False) wr).alloc (.cells #[.int .i64 i, .int .i64 0, .slice (some ⟨pb, 0, none⟩) 64 64] 85))
      have K5 : Kept (fun g => g = b ∨ (Value.slice so D.since.length sc).ownBlock = some g) wr w5 := ((KA.out.mono (fun _ _ h => h.elim)).trans (HK4.out.mono (fun g _ e => .inr e))).trans (HK5.out.mono (fun g _ e => .inl e))
      have hx : DEok (fun g => H g ∨ wr.heap.size ≤ g) wr ⟨i, 0, pad l, .slice (some ⟨pb, 0, none⟩) 64 64⟩ := by
        have hpl : (pad l).length = 64 := pad_len hl
        refine ⟨⟨some ⟨pb, 0, none⟩, 64, by simp [hpl], by simp [hpl], by simp [maxLen], by simp [u8s_len, hpl], (fun h => nomatch h), fun _ => ⟨pb, 0, rfl, ?_, lpb, fun j u hu => by rw [Nat.zero_add, row_cell HB.out]; simpa using hu⟩, u8s_one _⟩, .inl ⟨rfl, hpl⟩⟩
        rintro (h | h)
        · have := HH.out _ h; omega
        · omega
      have hpost : DPost F H wr b (D.add i l (.slice (some ⟨pb, 0, none⟩) 64 64)) w5 := by
        have hh : ∀ g, g < wr.heap.size → (H g ∨ wr.heap.size ≤ g) → H g := fun g hg h => h.elim id (fun h => by omega)
        refine IR.out.lists (lo' := lo) (lc' := lc) (so' := a') (sc' := c') K5 (fun g _ e => by rcases e with e | e; rw [e]; exact IR.out.m; exact IR.out.gs g e) ?_ ?_ ?_ (fun g hg => .inl (IR.out.gl g hg)) ?_ ?_ (fun x hx => (IR.out.el x hx).mono hh) ?_ ?_
        · have hr5 := HR5.out
          simp only [List.setIfInBounds_toArray, List.set_cons_zero, List.set_cons_succ] at hr5
          rw [hr5]
          simp only [dlRow, Dpl.add, List.length_append, List.length_singleton]
        · exact IR.out.ol.kept K5 (fun g hg e => by
            rcases e with e | e
            · exact IR.out.neb.1 g hg e
            · exact IR.out.ne g hg e)
        · have e1 : (D.add i l (.slice (some ⟨pb, 0, none⟩) 64 64)).since = D.since ++ [⟨i, 0, pad l, .slice (some ⟨pb, 0, none⟩) 64 64⟩] := rfl
          rw [e1, List.length_append, List.length_singleton]
          have e2 : dcells (D.since ++ [⟨i, 0, pad l, .slice (some ⟨pb, 0, none⟩) 64 64⟩]) = dcells D.since ++ dcell ⟨i, 0, pad l, .slice (some ⟨pb, 0, none⟩) 64 64⟩ := by simp [dcells]
          rw [e2]
          refine HO4.out.kept HK5.out (fun g hg e => ?_)
          subst e
          rcases HF4.out g hg with h | h
          · exact hnb g h rfl
          · have := row_lt IR.out.r; have h' : (wr.alloc (.cells #[.int .i64 i, .int .i64 0, .slice (some ⟨pb, 0, none⟩) 64 64] 85)).heap.size ≤ g := h; simp at h'; omega
        · intro g hg
          have hg' : (Value.slice a' (D.since.length + 1) c').ownBlock = some g := by
            have e1 : (D.add i l (.slice (some ⟨pb, 0, none⟩) 64 64)).since.length = D.since.length + 1 := by simp [Dpl.add]
            rw [e1] at hg; exact hg
          rcases HF4.out g hg' with h | h
          · exact .inl (IR.out.gs g h)
          · right; have h' : (wr.alloc (.cells #[.int .i64 i, .int .i64 0, .slice (some ⟨pb, 0, none⟩) 64 64] 85)).heap.size ≤ g := h; simp at h'; omega
        · intro g hg hg2
          have hg' : (Value.slice a' (D.since.length + 1) c').ownBlock = some g := by
            have e1 : (D.add i l (.slice (some ⟨pb, 0, none⟩) 64 64)).since.length = D.since.length + 1 := by simp [Dpl.add]
            rw [e1] at hg2; exact hg2
          rcases HF4.out g hg' with h | h
          · exact IR.out.ne g hg h
          · have := IR.out.ol.lt hg; have h' : (wr.alloc (.cells #[.int .i64 i, .int .i64 0, .slice (some ⟨pb, 0, none⟩) 64 64] 85)).heap.size ≤ g := h; simp at h'; omega
        · intro x hx2
          have hx2 : x ∈ D.since ∨ x = ⟨i, 0, pad l, .slice (some ⟨pb, 0, none⟩) 64 64⟩ := by simpa [Dpl.add] using hx2
          rcases hx2 with h | rfl
          · exact (IR.out.es x h).mono hh
          · exact hx
        · intro x hx2
          have hx2 : x ∈ D.since ∨ x = ⟨i, 0, pad l, .slice (some ⟨pb, 0, none⟩) 64 64⟩ := by simpa [Dpl.add] using hx2
          rcases hx2 with h | rfl
          · exact IR.out.e0 x h
          · exact ⟨rfl, pad_len hl⟩
      obtain ⟨F', ⟨lo2, lc2, so2, sc2, h5⟩, hF', k5⟩ := hpost
      have H5 := hid h5; have K5' := hid k5; have HF' := hid hF'
      obtain ⟨of, hof⟩ : ∃ of, (dtick D).off = of := ⟨_, rfl⟩
      have HOF := hid hof
      clear h5 k5 hF' hx K5 hnb hbe c2 HO4 HK4 HF4 HR4 HR5 HK5 hof
      refine (counted_any H5.out ⟨HSM.out.o, HSM.out.a⟩ HOFF.out).mono ?_
      rintro e w6 ⟨rfl, hp6, hk6⟩
      have H6 := hid hp6; have K6 := hid hk6
      clear hp6 hk6
      have hend : DPost F H w b (dtick (D.add i l (.slice (some ⟨pb, 0, none⟩) 64 64))) w6 :=
        DPost.before K1R.out ⟨F', ⟨lo2, lc2, so2, sc2, H6.out⟩, HF'.out, K5'.out.trans (K6.out.mono (fun g _ e => by rw [e]; exact IR.out.m))⟩
      have HEND := hid hend
      clear hend
      rw [show (dtick (D.add i l (.slice (some ⟨pb, 0, none⟩) 64 64))).off = of from HOF.out]
      cases of with
      | true => go_wp2; go_ret; exact ⟨by unfold Dpl.goE; rw [HOF.out]; rfl, _, HEND.out⟩
      | false => go_wp2; go_ret; exact ⟨by unfold Dpl.goE; rw [HOF.out]; rfl, _, HEND.out⟩
end Go.Proofs.Ytnfdkpjklenllaa
