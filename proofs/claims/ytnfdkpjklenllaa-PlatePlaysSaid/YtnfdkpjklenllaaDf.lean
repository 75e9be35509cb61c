/- The document's plate: DocRestart. -/
import Derived.Test.YtnfdkpjklenllaaDe
namespace Go.Proofs.Ytnfdkpjklenllaa
open Go.RowKit
def hv1 : Value → Value
  | .slice a _ c => .slice a 32 c
  | v => v
def hv2 : Value → Value
  | .slice (some ⟨b, o, s⟩) _ c => .slice (some ⟨b, o + 32, s⟩) 32 (c - 32)
  | v => v
/-- what is kept of a write -/
def keep1 (c : Int) (x : DE) : List DE := if c = 1 then [x] else if c = 2 then [⟨x.pg, 0, x.bs.take 32, hv1 x.v⟩] else if c = 3 then [⟨x.pg, 32, x.bs.drop 32, hv2 x.v⟩] else []
def keepD (K : List Int) (l : List DE) : List DE := l.zipIdx.flatMap (fun p => keep1 (keepOf K p.2) p.1)
theorem keepD_take {K : List Int} {l : List DE} {k : Nat} {x : DE} (h : l[k]? = some x) : keepD K (l.take (k + 1)) = keepD K (l.take k) ++ keep1 (keepOf K k) x := by
  have hk := (List.getElem?_eq_some_iff.1 h).1
  have e : l.take (k + 1) = l.take k ++ [x] := by rw [List.take_add_one, h]; rfl
  rw [e]
  unfold keepD
  rw [List.zipIdx_append, List.flatMap_append]
  congr 1
  simp; congr 2; omega
theorem keep1_len (c : Int) (x : DE) : (keep1 c x).length ≤ 1 := by
  unfold keep1
  split
  · simp
  · split
    · simp
    · split <;> simp
theorem keepD_len {K : List Int} {l : List DE} : ∀ k, k ≤ l.length → (keepD K (l.take k)).length ≤ k
  | 0, _ => by simp [keepD]
  | k + 1, h => by
    rw [keepD_take (List.getElem?_eq_getElem (by omega)), List.length_append]
    have := keepD_len (K := K) (l := l) k (by omega)
    have := keep1_len (keepOf K k) (l[k]'(by omega))
    omega
def Dpl.restart (D : Dpl) (K : List Int) : Dpl := { D with last := D.last ++ keepD K D.since, since := [], off := false, armed := 0 }
theorem DIn.lists1 {F H G : Nat → Prop} {w w' : World} {b lc sc lc' sc' : Nat} {lo so lo' so' : Option Addr} {D D' : Dpl} (h : DIn F H w b lo lc so sc D) (k : Kept G w w') (hG : ∀ g, g < w.heap.size → G g → F g)
    (hr : w'.heap[b]? = some (dlRow D' lo' lc' so' sc'))
    (hol : Own w' 85 3 (.slice lo' D'.last.length lc') D'.last.length (dcells D'.last)) (hos : Own w' 85 3 (.slice so' D'.since.length sc') D'.since.length (dcells D'.since))
    (gl : ∀ g, (Value.slice lo' D'.last.length lc').ownBlock = some g → F g ∨ w.heap.size ≤ g) (gs : ∀ g, (Value.slice so' D'.since.length sc').ownBlock = some g → F g ∨ w.heap.size ≤ g)
    (ne : ∀ g, (Value.slice lo' D'.last.length lc').ownBlock = some g → (Value.slice so' D'.since.length sc').ownBlock ≠ some g)
    (el : ∀ x ∈ D'.last, DEok (fun g => H g ∨ w.heap.size ≤ g) w x) (es : ∀ x ∈ D'.since, DEok (fun g => H g ∨ w.heap.size ≤ g) w x) (e0 : ∀ x ∈ D'.since, x.pl = 0 ∧ x.bs.length = 64) :
    ∃ F', DIn F' (fun g => H g ∨ F' g) w' b lo' lc' so' sc' D' ∧ (∀ g, F' g → F g ∨ w.heap.size ≤ g) ∧ Kept F w w' ∧ ∀ g, F g → F' g := by
  have kF : Kept F w w' := ⟨k.os, k.tape, k.output, k.size, fun i hi hn => k.block i hi (fun hg => hn (hG i hi hg))⟩
  have hE : ∀ x, DEok (fun g => H g ∨ w.heap.size ≤ g) w x → DEok (fun g => H g ∨ (F g ∨ (w.heap.size ≤ g ∧ ((Value.slice lo' D'.last.length lc').ownBlock = some g ∨ (Value.slice so' D'.since.length sc').ownBlock = some g)))) w' x := fun x hx =>
    (hx.mono (H' := fun g => H g ∨ (F g ∨ (w.heap.size ≤ g ∧ ((Value.slice lo' D'.last.length lc').ownBlock = some g ∨ (Value.slice so' D'.since.length sc').ownBlock = some g)))) (fun g _ hg => by
      rcases hg with hg | hg | hg
      · exact .inl hg
      · exact .inl (h.fh g hg)
      · exact .inr hg.1)).kept kF (fun g _ hg => .inr (.inl hg))
  refine ⟨fun g => F g ∨ (w.heap.size ≤ g ∧ ((Value.slice lo' D'.last.length lc').ownBlock = some g ∨ (Value.slice so' D'.since.length sc').ownBlock = some g)), ⟨hr, hol, hos, .inl h.m, fun g hg => (gl g hg).imp id (fun h => ⟨h, .inl hg⟩), fun g hg => (gs g hg).imp id (fun h => ⟨h, .inr hg⟩), ne, fun x hx => hE x (el x hx), fun x hx => hE x (es x hx), e0, fun g hg => .inr hg⟩, fun g hg => hg.imp id And.left, kF, fun g hg => .inl hg⟩
set_option maxHeartbeats 1000000 in
theorem drestart_nil {w : World} (v : Value) : Calls Try.prog 33 #[.pointer none, v] w fun e w' => e = .returned (.int .i64 6) ∧ w = w' := by
  go_enter Try.func33, Try.ntmps33
  go_wp2
  go_ret
  exact ⟨rfl, rfl⟩
set_option maxHeartbeats 1000000 in
theorem drestart_on {F H : Nat → Prop} {w : World} {b : Nat} {D : Dpl} (h : DAt F H w b D) (hoff : D.off = false) (v : Value) : Calls Try.prog 33 #[.pointer (some ⟨b, 0, none⟩), v] w fun e w' => e = .returned (.int .i64 9) ∧ w = w' := by
  obtain ⟨lo, lc, so, sc, h⟩ := h
  obtain ⟨c0, c1, c2, c3, c4, c5⟩ := cells6 h.r
  rw [hoff] at c3
  clear h c1 c2 c0 c4 c5 hoff
  go_enter Try.func33, Try.ntmps33
  go_wp2
  go_ret
  exact ⟨rfl, rfl⟩
theorem DEok.whole {H : Nat → Prop} {w : World} {x : DE} (h : DEok H w x) (h0 : x.pl = 0 ∧ x.bs.length = 64) {gb ob q : Nat} (ev : x.v = .slice (some ⟨gb, ob, none⟩) x.bs.length q) : keep1 1 x = [DE.mk x.pg 0 x.bs (.slice (some ⟨gb, ob, none⟩) 64 q)] ∧ DEok H w (DE.mk x.pg 0 x.bs (.slice (some ⟨gb, ob, none⟩) 64 q)) := by
  obtain ⟨pg, pl, bs, v⟩ := x
  obtain ⟨e1, e2⟩ := h0
  dsimp only at e1 e2 ev
  subst e1
  rw [e2] at ev
  subst ev
  exact ⟨rfl, h⟩
theorem DEok.half {H : Nat → Prop} {w : World} {x : DE} (h : DEok H w x) (h0 : x.pl = 0 ∧ x.bs.length = 64) {gb ob q : Nat} (ev : x.v = .slice (some ⟨gb, ob, none⟩) x.bs.length q) (o : Nat) (ho : o = 0 ∨ o = 32) (bs : List Int) (hb : bs = (x.bs.drop o).take 32) (c : Nat) (hc : 32 ≤ c ∧ c ≤ maxLen) :
    DEok H w (DE.mk x.pg o bs (.slice (some ⟨gb, ob + o, none⟩) 32 c)) := by
  obtain ⟨gb2, ob2, q2, e, _, _, hn, hl, hcell⟩ := h.v.cell (by omega)
  rw [ev] at e
  simp only [Value.slice.injEq, Option.some.injEq, Addr.mk.injEq, and_true, true_and] at e
  obtain ⟨⟨rfl, rfl⟩, rfl⟩ := e
  have hlen : bs.length = 32 := by rw [hb]; simp; omega
  refine ⟨⟨some ⟨gb, ob + o, none⟩, c, by rw [hlen], by rw [hlen]; exact hc.1, hc.2, by simp [u8s_len], (fun h => nomatch h), fun _ => ⟨gb, ob + o, rfl, hn, hl, fun j u hu => ?_⟩, u8s_one _⟩, ?_⟩
  · rw [Nat.add_assoc]
    refine hcell (o + j) u ?_
    simp only [u8s, List.getElem?_map, hb] at hu ⊢
    rw [List.getElem?_take] at hu
    split at hu
    · rwa [List.getElem?_drop] at hu
    · simp at hu
  · dsimp only
    omega
theorem DIn.appended {F H : Nat → Prop} {wr wa w4 w5 : World} {b lc sc c' : Nat} {lo so a' : Option Addr} {D : Dpl} (IR : DIn F (fun g => H g ∨ F g) wr b lo lc so sc D) (y : DE) (hy : DEok (fun g => (H g ∨ F g) ∨ wr.heap.size ≤ g) wr y)
    (ka : Kept (fun _ => False) wr wa) (ho : Own w4 85 3 (.slice a' (D.last.length + 1) c') (D.last.length + 1) (dcells D.last ++ dcell y)) (hk4 : Kept (fun g => (Value.slice lo D.last.length lc).ownBlock = some g) wa w4)
    (hf : ∀ g, (Value.slice a' (D.last.length + 1) c').ownBlock = some g → (Value.slice lo D.last.length lc).ownBlock = some g ∨ wa.heap.size ≤ g) (hk5 : Kept (fun g => g = b) w4 w5)
    (hr5 : w5.heap[b]? = some (.cells #[.int .i64 D.n, .slice a' (D.last.length + 1) c', .slice so D.since.length sc, .bool D.off, .int .i64 D.armed, .int .i64 D.ops] 61 (0, 0))) :
    ∃ F', DIn F' (fun g => H g ∨ F' g) w5 b a' c' so sc { D with last := D.last ++ [y] } ∧ (∀ g, F' g → F g ∨ wr.heap.size ≤ g) ∧ Kept F wr w5 := by
  have hnb := IR.neb.1
  have hsz := ka.size
  have K5 : Kept (fun g => g = b ∨ (Value.slice lo D.last.length lc).ownBlock = some g) wr w5 := ((ka.mono (fun _ _ h => h.elim)).trans (hk4.mono (fun g _ e => .inr e))).trans (hk5.mono (fun g _ e => .inl e))
  have hlen : (D.last ++ [y]).length = D.last.length + 1 := by simp
  have hh : ∀ g, g < wr.heap.size → ((H g ∨ F g) ∨ wr.heap.size ≤ g) → (H g ∨ F g) := fun g hg h => h.elim id (fun h => by omega)
  have hmain := IR.lists1 (D' := { D with last := D.last ++ [y] }) (lo' := a') (lc' := c') (so' := so) (sc' := sc) K5 (fun g _ e => by rcases e with e | e; rw [e]; exact IR.m; exact IR.gl g e)
    (by rw [hr5]; simp only [dlRow, hlen])
    (by
      show Own w5 _ 3 (.slice a' (D.last ++ [y]).length c') (D.last ++ [y]).length (dcells (D.last ++ [y]))
      rw [hlen]
      have e2 : dcells (D.last ++ [y]) = dcells D.last ++ dcell y := by simp [dcells]
      rw [e2]
      refine ho.kept hk5 (fun g hg e => ?_)
      subst e
      rcases hf g hg with h | h
      · exact hnb g h rfl
      · have := row_lt IR.r; omega)
    (IR.os.kept K5 (fun g hg e => by
      rcases e with e | e
      · exact IR.neb.2 g hg e
      · exact IR.ne g e hg))
    (fun g hg => by
      have hg' : (Value.slice a' (D.last.length + 1) c').ownBlock = some g := by
        have hg2 : (Value.slice a' (D.last ++ [y]).length c').ownBlock = some g := hg
        rw [hlen] at hg2; exact hg2
      rcases hf g hg' with h | h
      · exact .inl (IR.gl g h)
      · exact .inr (Nat.le_trans hsz h))
    (fun g hg => .inl (IR.gs g hg))
    (fun g hg hg2 => by
      have hg' : (Value.slice a' (D.last.length + 1) c').ownBlock = some g := by
        have hg2 : (Value.slice a' (D.last ++ [y]).length c').ownBlock = some g := hg
        rw [hlen] at hg2; exact hg2
      rcases hf g hg' with h | h
      · exact IR.ne g h hg2
      · have := IR.os.lt hg2; omega)
    (fun x hx => by
      have hx2 : x ∈ D.last ∨ x = y := by simpa using hx
      rcases hx2 with h | rfl
      · exact (IR.el x h).mono hh
      · exact hy)
    (fun x hx => (IR.es x hx).mono hh) IR.e0
  obtain ⟨F', h1, h2, h3, _⟩ := hmain
  exact ⟨F', h1.wide (fun g _ h => h.elim (fun h => .inl (.inl h)) .inr) (fun g h => .inr h), h2, h3⟩
-- an append to the last list: $1 the first slot's number ahead, $2 the new entry, $3 slot of the list, $4 slot of the new slice, $5 slot of the address, $6 slot of append
-- $1 the new entry's cells; $2 list's slot; $3 new slice's slot; $4 address' slot; $5 append's slot; $6 what follows the append
-- the round's end; $1 the new entry; $2 what is kept is it; $3 it is in form
-- ahead of an append: the world behind the range variable's block
set_option maxRecDepth 100000 in
set_option maxHeartbeats 4000000 in
theorem drestart_ok {F H : Nat → Prop} {w : World} {b : Nat} {D : Dpl} (h : DAt F H w b D) (hoff : D.off = true) (hN : D.last.length ≤ 100000 ∧ D.since.length ≤ 100000) (hF0 : ∀ g, F g → g < w.heap.size) {a : Option Addr} {c : Nat} {KB : List Int} (hv : Byt w (.slice a KB.length c) KB) (hK : ∀ x ∈ KB, 0 ≤ x ∧ x ≤ 255) (hF : 0 < KB.length → ∀ g, (Value.slice a KB.length c).ownBlock = some g → ¬ F g) (hKl : KB.length ≤ 1000000) :
    Calls Try.prog 33 #[.pointer (some ⟨b, 0, none⟩), .slice a KB.length c] w fun e w' => e = .returned (.int .i64 0) ∧ DPost F H w b (D.restart KB) w' := by
  obtain ⟨lo, lc, so, sc, h⟩ := h
  have HI := hid h
  obtain ⟨c0, c1, c2, c3, c4, c5⟩ := cells6 h.r
  rw [hoff] at c3
  have HOFF := hid hoff; have HNN := hid hN; have HF0 := hid hF0; have HV := hid hv; have HKB := hid hK; have HFV := hid hF; have HKL := hid hKl
  clear h c0 c1 c4 c5 hoff hN hF0 hv hK hF hKl
  go_enter Try.func33, Try.ntmps33
  go_wp2_with fail
  clear c2 c3
  go_loopw [20] (fun j wr => ∃ (k : Nat) (F' : Nat → Prop) (lo' : Option Addr) (lc' : Nat), k ≤ D.since.length ∧ j = .int .i64 k ∧ DIn F' (fun g => H g ∨ F' g) wr b lo' lc' so sc { D with last := D.last ++ keepD KB (D.since.take k) } ∧ (∀ g, F' g → F g ∨ w.heap.size ≤ g) ∧ Kept F w wr) (fun j _ => D.since.length - (intOf j).toNat)
  case atStart =>
    refine ⟨0, F, lo, lc, Nat.zero_le _, rfl, ?_, fun _ h => .inl h, Kept.refl _ _⟩
    have := HI.out.wide (H' := fun g => H g ∨ F g) (fun g _ h => h.elim id (HI.out.fh g)) (fun g h => .inr h)
    simpa [keepD] using this
  case round =>
    rename World => wr
    obtain ⟨k, F', lo', lc', hk, rfl, hin, hF', hkp⟩ := hrel
    have IR := hid hin; have HF' := hid hF'; have KR := hid hkp
    clear hin hF' hkp
    have hns := HNN.out.2
    by_cases hlt : k < D.since.length
    · have hltI : (k : Int) < (D.since.length : Int) := by omega
      obtain ⟨x, hx⟩ : ∃ x, D.since[k]? = some x := ⟨_, List.getElem?_eq_getElem hlt⟩
      obtain ⟨g, rfl, g0, g1, g2, gl⟩ := IR.out.os.el3 hx
      have hxm := List.mem_of_getElem? hx
      have HX := hid hx
      have hxe := IR.out.es x hxm
      have hx0 := IR.out.e0 x hxm
      have HX0 := hid hx0
      obtain ⟨gb, ob, q, ev, hq1, hq3, hgb, hq2, hbc⟩ := hxe.v.cell (by omega)
      have HLB := hid (show (D.last ++ keepD KB (D.since.take k)).length ≤ 200000 by have := keepD_len (K := KB) (l := D.since) k (by omega); have := HNN.out; rw [List.length_append]; omega)
      have HXE := hid hxe; have HQ := hid (show x.bs.length ≤ q ∧ q ≤ maxLen from ⟨hq1, hq3⟩)
      have HEV := hid ev
      rw [ev] at g2
      rw [hx0.2] at g2 hq1
      have hpl : (x.pl : Int) = 0 := by have := hx0.1; omega
      rw [hpl] at g1
      clear hx hxm hxe hx0 hbc hgb hq2 ev hpl
      by_cases hkk : k < KB.length
      · have hkkI : (k : Int) < (KB.length : Int) := by omega
        obtain ⟨u, hu⟩ : ∃ u, KB[k]? = some u := ⟨_, List.getElem?_eq_getElem hkk⟩
        have hub := HKB.out u (List.mem_of_getElem? hu)
        obtain ⟨a2, c2, e2, _, _, hcell⟩ := HV.out
        obtain ⟨gk, ok, ea, hck⟩ := hcell k u hu
        simp only [Value.slice.injEq] at e2
        obtain ⟨rfl, _, rfl⟩ := e2
        subst ea
        have hck' : wr.cell? ⟨gk, ok + k, none⟩ = some (.int .u8 u) := KR.out.cell hck (HFV.out (by omega) gk rfl)
        have hgkl : gk < wr.heap.size := cell_lt hck'
        have hko : keepOf KB k = u % 4 := by unfold keepOf; rw [hu]
        have HKO := hid hko
        have hw : IntKind.i64.wrap u = u := IntWalk.i64_in _ (by omega)
        have hrem : u.tmod 4 = u % 4 := Int.tmod_eq_emod_of_nonneg hub.1
        obtain ⟨cc, hcc⟩ : ∃ cc, u % 4 = cc := ⟨_, rfl⟩
        rw [hcc] at hrem hko
        have hc4 : cc = 0 ∨ cc = 1 ∨ cc = 2 ∨ cc = 3 := by omega
        have HCC := hid hko
        clear hcell hck hu hko hcc hub HKO
        rcases hc4 with rfl | rfl | rfl | rfl
        · go_wp2
          go_roundw
          case rel => exact ⟨k + 1, F', lo', lc', by omega, by go_num, by rw [keepD_take HX.out, HCC.out]; simpa [keep1] using IR.out.same ((Kept.refl _ wr).alloc _), HF'.out, KR.out.alloc _⟩
          case measure => (simp only [intOf]; omega)
        · have R3 := hid (row_new wr (.cells #[.int .i64 x.pg, .int .i64 0, .slice (some ⟨gb, ob, none⟩) 64 q] 85))
          have K3 := hid ((Kept.refl (fun _ => False) wr).alloc (.cells #[.int .i64 x.pg, .int .i64 0, .slice (some ⟨gb, ob, none⟩) 64 q] 85))
          obtain ⟨w3, hw3⟩ : ∃ w3, wr.alloc (.cells #[.int .i64 x.pg, .int .i64 0, .slice (some ⟨gb, ob, none⟩) 64 q] 85) = w3 := ⟨_, rfl⟩
          obtain ⟨rb, hrb⟩ : ∃ rb, wr.heap.size = rb := ⟨_, rfl⟩
          have HRB := hid hrb
          rw [hw3] at R3 K3
          rw [hrb] at R3
          obtain ⟨LX, hLX⟩ : ∃ LX, D.last ++ keepD KB (D.since.take k) = LX := ⟨_, rfl⟩
          have HLX := hid hLX
          rw [hLX] at IR HLB
          obtain ⟨LL, hLL⟩ : ∃ LL, LX.length = LL := ⟨_, rfl⟩
          have HLL := hid hLL
          rw [hLL] at HLB
          have hck3 := K3.out.cell hck' (fun h => h)
          have hq32 : (32 : Int) ≤ (q : Int) := by omega
          have hq33 : 32 ≤ q := by omega
          have hq34 : ¬ q = 32 := by omega
          have e0 := row_cell R3.out 0
          have e1 := row_cell R3.out 1
          have e2 := row_cell R3.out 2
          have I3 := hid (IR.out.same K3.out)
          have d1 : w3.cell? ⟨b, 1, none⟩ = some (.slice lo' LX.length lc') := row_cell I3.out.r 1
          rw [hLL] at d1
          clear hLX hLL hck'
          go_wp2_with fail
          refine wp_region_till (fun w' => w'.cell? ⟨b, 1, none⟩ = some (.slice lo' LL lc') ∧ w'.cell? ⟨rb, 0, none⟩ = some (.int .i64 x.pg) ∧ w'.cell? ⟨rb, 1, none⟩ = some (.int .i64 0) ∧ w'.cell? ⟨rb, 2, none⟩ = some (.slice (some ⟨gb, ob, none⟩) 64 q)) 7 (by kernel_rfl) (by exact ⟨d1, e0, e1, e2⟩) (fun hHeld => ?_)
          refine till_pure 0 (some 38) (v := ?v100) (by decide) rfl (by kernel_rfl) (by kernel_rfl) (by kernel_rfl) (by kernel_rfl) (by decide) (fun _ _ _ h => h) (Or.inl ⟨by rfl, ?y100⟩) (by assumption) ?r100
          case y100 => (intro w hSw; clear hSw; go_simp; (try with_reducible rfl))
          simp only [Act.put, List.setIfInBounds_toArray, List.set_cons_zero, List.set_cons_succ]
          refine till_pure 1 (some 39) (v := ?v101) (by decide) rfl (by kernel_rfl) (by kernel_rfl) (by kernel_rfl) (by kernel_rfl) (by decide) (fun _ _ _ h => h) (Or.inl ⟨by rfl, ?y101⟩) (by assumption) ?r101
          case y101 => (intro w hSw; clear hSw; go_simp; (try with_reducible rfl))
          simp only [Act.put, List.setIfInBounds_toArray, List.set_cons_zero, List.set_cons_succ]
          refine till_pure 2 (some 40) (v := ?v102) (by decide) rfl (by kernel_rfl) (by kernel_rfl) (by kernel_rfl) (by kernel_rfl) (by decide) (fun _ _ _ h => h) (Or.inl ⟨by rfl, ?y102⟩) (by assumption) ?r102
          case y102 => (intro w hSw; clear hSw; go_simp; (try with_reducible rfl))
          simp only [Act.put, List.setIfInBounds_toArray, List.set_cons_zero, List.set_cons_succ]
          refine till_pure 3 (some 41) (v := ?v103) (by decide) rfl (by kernel_rfl) (by kernel_rfl) (by kernel_rfl) (by kernel_rfl) (by decide) (fun _ _ _ h => h) (Or.inl ⟨by rfl, ?y103⟩) (by assumption) ?r103
          case y103 => (intro w hSw; clear hSw; go_simp; (try with_reducible rfl))
          simp only [Act.put, List.setIfInBounds_toArray, List.set_cons_zero, List.set_cons_succ]
          refine till_load 4 (some 42) [] (v := ?v104) (by decide) rfl (by kernel_rfl) (by kernel_rfl) (by kernel_rfl) (by kernel_rfl) (by kernel_rfl) (by decide) (by decide) (fun _ _ _ h => h) (Or.inl ⟨by rfl, ?y104⟩) (by assumption) ?r104
          case y104 => (intro w hSw; (try dsimp only at hSw); go_simp; (try with_reducible rfl))
          simp only [Act.put, List.setIfInBounds_toArray, List.set_cons_zero, List.set_cons_succ]
          refine till_load 5 (some 43) [6] (v := ?v105) (by decide) rfl (by kernel_rfl) (by kernel_rfl) (by kernel_rfl) (by kernel_rfl) (by kernel_rfl) (by decide) (by decide) (fun _ _ _ h => h) (Or.inl ⟨by rfl, ?y105⟩) (by assumption) ?r105
          case y105 => (intro w hSw; (try dsimp only at hSw); go_simp; (try with_reducible rfl))
          simp only [Act.put, List.setIfInBounds_toArray, List.set_cons_zero, List.set_cons_succ]
          refine till_call 6 (by kernel_rfl) rfl (fun K hK => ?_)
          go_simp
          have KA := hid ((Kept.refl (fun _ => False) w3).alloc (.cells (dcell (DE.mk x.pg 0 x.bs (.slice (some ⟨gb, ob, none⟩) 64 q))).toArray 85))
          try dsimp only []
          refine hK.out _ _ (by exact ⟨(KA.out.cell d1 (fun h => h)), (KA.out.cell e0 (fun h => h)), (KA.out.cell e1 (fun h => h)), (KA.out.cell e2 (fun h => h))⟩) (fun hHeld => ?_)
          clear hK K
          try simp only [Act.put, List.setIfInBounds_toArray, List.set_cons_zero, List.set_cons_succ]
          refine till_list [8, 9, 10] (by kernel_rfl) (by kernel_rfl) (by decide) (by decide) ?_
          simp only [pickOps, List.getElem?_toArray, List.getElem?_cons_zero, List.getElem?_cons_succ]
          clear hHeld
          have RY := hid (row_new w3 (.cells (dcell (DE.mk x.pg 0 x.bs (.slice (some ⟨gb, ob, none⟩) 64 q))).toArray 85))
          have KRA := hid (K3.out.trans KA.out)
          have IA := hid (IR.out.same KRA.out)
          have OL4 := hid (show Own (w3.alloc (.cells (dcell (DE.mk x.pg 0 x.bs (.slice (some ⟨gb, ob, none⟩) 64 q))).toArray 85)) 85 3 (.slice lo' LL lc') LL (dcells LX) by have := IA.out.ol; rw [← HLL.out]; exact this)
          have RB4 := hid (show (w3.alloc (.cells (dcell (DE.mk x.pg 0 x.bs (.slice (some ⟨gb, ob, none⟩) 64 q))).toArray 85)).heap[b]? = some (.cells #[.int .i64 D.n, .slice lo' LL lc', .slice (some ⟨g, 0, none⟩) D.since.length sc, .bool D.off, .int .i64 D.armed, .int .i64 D.ops] 61 (0, 0)) by have := IA.out.r; rw [← HLL.out]; exact this)
          have LB4 := hid (row_lt RB4.out)
          have NB4 := hid (show ∀ g, (Value.slice lo' LL lc').ownBlock = some g → g ≠ b by have := IA.out.neb.1; rw [← HLL.out]; exact this)
          clear d1 e0 e1 e2 hck3
          refine wpList_app rfl (.tmp 42) (.tmp 44) 59 rfl 85 (.agg #[.int .i64 0, .int .i64 0, .slice none 0 0]) 3 40 Try.underlying59 infoPut rfl (by decide) (.slice lo' LL lc') LL (dcells LX) rfl OL4.out _ rfl 1 (dcell (DE.mk x.pg 0 x.bs (.slice (some ⟨gb, ob, none⟩) 64 q))) (src_row (by simp [dcell]) (fun j u hu => (row_cell (by exact RY.out) (0 + j)).trans (by rw [Nat.zero_add]; simpa [dcell] using hu)) (by simp [dcell, Value.oneCell'])) (by have := HLB.out; simp only [maxLen]; omega) (by have := HLB.out; omega) ?_
          intro a' c' w4 ho hk4 hf _
          have HO4 := hid ho; have HK4 := hid (show Kept (fun g => (Value.slice lo' LL lc').ownBlock = some g) (w3.alloc (.cells (dcell (DE.mk x.pg 0 x.bs (.slice (some ⟨gb, ob, none⟩) 64 q))).toArray 85)) w4 from ((Kept.refl _ _).drew).trans hk4); have HF4 := hid hf; have HR4 := hid ((hk4.block b LB4.out (fun e => NB4.out b e rfl)).trans RB4.out)
          clear ho hk4 hf
          go_wp2_with (refine wpList_store_cell rfl 59 (.tmp 47) (.tmp 45) rfl (by kernel_rfl) b 1 rfl (.slice a' (LL + 1) c') rfl rfl HR4.out (by simp) ?_; intro w5 hr hk; have HR5 := hid hr.out; have HK5 := hid hk.out; clear hr hk)
          go_roundw
          case rel =>
            have hl := HLL.out
            subst hl
            have hkeep : keep1 (keepOf KB k) x = [(DE.mk x.pg 0 x.bs (.slice (some ⟨gb, ob, none⟩) 64 q))] := by rw [HCC.out]; exact (HXE.out.whole HX0.out HEV.out).1
            have hy : DEok (fun g => H g ∨ F' g) wr (DE.mk x.pg 0 x.bs (.slice (some ⟨gb, ob, none⟩) 64 q)) := (HXE.out.whole HX0.out HEV.out).2
            have hr5 := HR5.out
            simp only [List.setIfInBounds_toArray, List.set_cons_zero, List.set_cons_succ] at hr5
            obtain ⟨F2, hin2, hF2, hk2⟩ := DIn.appended IR.out (DE.mk x.pg 0 x.bs (.slice (some ⟨gb, ob, none⟩) 64 q)) (hy.mono (fun g hg h => h.elim id (fun h => by omega))) KRA.out (by exact HO4.out) (by exact HK4.out) (by exact HF4.out) HK5.out (by rw [hr5])
            refine ⟨k + 1, F2, a', c', by omega, by go_num, ?_, fun g hg => ?_, ?_⟩
            · rw [keepD_take HX.out, hkeep, ← List.append_assoc, HLX.out]
              exact hin2
            · have hsz := KR.out.size
              rcases hF2 g hg with h | h
              · exact HF'.out g h
              · exact .inr (by omega)
            · exact KR.out.trans' hk2 (fun g hg => HF'.out g hg)
          case measure => (simp only [intOf]; omega)
        · have R3 := hid (row_new wr (.cells #[.int .i64 x.pg, .int .i64 0, .slice (some ⟨gb, ob, none⟩) 64 q] 85))
          have K3 := hid ((Kept.refl (fun _ => False) wr).alloc (.cells #[.int .i64 x.pg, .int .i64 0, .slice (some ⟨gb, ob, none⟩) 64 q] 85))
          obtain ⟨w3, hw3⟩ : ∃ w3, wr.alloc (.cells #[.int .i64 x.pg, .int .i64 0, .slice (some ⟨gb, ob, none⟩) 64 q] 85) = w3 := ⟨_, rfl⟩
          obtain ⟨rb, hrb⟩ : ∃ rb, wr.heap.size = rb := ⟨_, rfl⟩
          have HRB := hid hrb
          rw [hw3] at R3 K3
          rw [hrb] at R3
          obtain ⟨LX, hLX⟩ : ∃ LX, D.last ++ keepD KB (D.since.take k) = LX := ⟨_, rfl⟩
          have HLX := hid hLX
          rw [hLX] at IR HLB
          obtain ⟨LL, hLL⟩ : ∃ LL, LX.length = LL := ⟨_, rfl⟩
          have HLL := hid hLL
          rw [hLL] at HLB
          have hck3 := K3.out.cell hck' (fun h => h)
          have hq32 : (32 : Int) ≤ (q : Int) := by omega
          have hq33 : 32 ≤ q := by omega
          have hq34 : ¬ q = 32 := by omega
          have e0 := row_cell R3.out 0
          have e1 := row_cell R3.out 1
          have e2 := row_cell R3.out 2
          have I3 := hid (IR.out.same K3.out)
          have d1 : w3.cell? ⟨b, 1, none⟩ = some (.slice lo' LX.length lc') := row_cell I3.out.r 1
          rw [hLL] at d1
          clear hLX hLL hck'
          go_wp2_with fail
          refine wp_region_till (fun w' => w'.cell? ⟨b, 1, none⟩ = some (.slice lo' LL lc') ∧ w'.cell? ⟨rb, 0, none⟩ = some (.int .i64 x.pg) ∧ w'.cell? ⟨rb, 1, none⟩ = some (.int .i64 0) ∧ w'.cell? ⟨rb, 2, none⟩ = some (.slice (some ⟨gb, ob, none⟩) 64 q)) 12 (by kernel_rfl) (by exact ⟨d1, e0, e1, e2⟩) (fun hHeld => ?_)
          refine till_pure 0 (some 50) (v := ?v200) (by decide) rfl (by kernel_rfl) (by kernel_rfl) (by kernel_rfl) (by kernel_rfl) (by decide) (fun _ _ _ h => h) (Or.inl ⟨by rfl, ?y200⟩) (by assumption) ?r200
          case y200 => (intro w hSw; clear hSw; go_simp; (try with_reducible rfl))
          simp only [Act.put, List.setIfInBounds_toArray, List.set_cons_zero, List.set_cons_succ]
          refine till_pure 1 (some 51) (v := ?v201) (by decide) rfl (by kernel_rfl) (by kernel_rfl) (by kernel_rfl) (by kernel_rfl) (by decide) (fun _ _ _ h => h) (Or.inl ⟨by rfl, ?y201⟩) (by assumption) ?r201
          case y201 => (intro w hSw; clear hSw; go_simp; (try with_reducible rfl))
          simp only [Act.put, List.setIfInBounds_toArray, List.set_cons_zero, List.set_cons_succ]
          refine till_pure 2 (some 52) (v := ?v202) (by decide) rfl (by kernel_rfl) (by kernel_rfl) (by kernel_rfl) (by kernel_rfl) (by decide) (fun _ _ _ h => h) (Or.inl ⟨by rfl, ?y202⟩) (by assumption) ?r202
          case y202 => (intro w hSw; clear hSw; go_simp; (try with_reducible rfl))
          simp only [Act.put, List.setIfInBounds_toArray, List.set_cons_zero, List.set_cons_succ]
          refine till_pure 3 (some 53) (v := ?v203) (by decide) rfl (by kernel_rfl) (by kernel_rfl) (by kernel_rfl) (by kernel_rfl) (by decide) (fun _ _ _ h => h) (Or.inl ⟨by rfl, ?y203⟩) (by assumption) ?r203
          case y203 => (intro w hSw; clear hSw; go_simp; (try with_reducible rfl))
          simp only [Act.put, List.setIfInBounds_toArray, List.set_cons_zero, List.set_cons_succ]
          refine till_load 4 (some 54) [] (v := ?v204) (by decide) rfl (by kernel_rfl) (by kernel_rfl) (by kernel_rfl) (by kernel_rfl) (by kernel_rfl) (by decide) (by decide) (fun _ _ _ h => h) (Or.inl ⟨by rfl, ?y204⟩) (by assumption) ?r204
          case y204 => (intro w hSw; (try dsimp only at hSw); go_simp; (try with_reducible rfl))
          simp only [Act.put, List.setIfInBounds_toArray, List.set_cons_zero, List.set_cons_succ]
          refine till_pure 5 (some 55) (v := ?v205) (by decide) rfl (by kernel_rfl) (by kernel_rfl) (by kernel_rfl) (by kernel_rfl) (by decide) (fun _ _ _ h => h) (Or.inl ⟨by rfl, ?y205⟩) (by assumption) ?r205
          case y205 => (intro w hSw; clear hSw; go_simp; (try with_reducible rfl))
          simp only [Act.put, List.setIfInBounds_toArray, List.set_cons_zero, List.set_cons_succ]
          refine till_load 6 (some 56) [11, 10] (v := ?v206) (by decide) rfl (by kernel_rfl) (by kernel_rfl) (by kernel_rfl) (by kernel_rfl) (by kernel_rfl) (by decide) (by decide) (fun _ _ _ h => h) (Or.inl ⟨by rfl, ?y206⟩) (by assumption) ?r206
          case y206 => (intro w hSw; (try dsimp only at hSw); go_simp; (try with_reducible rfl))
          simp only [Act.put, List.setIfInBounds_toArray, List.set_cons_zero, List.set_cons_succ]
          refine till_pure 7 (some 57) (v := ?v207) (by decide) rfl (by kernel_rfl) (by kernel_rfl) (by kernel_rfl) (by kernel_rfl) (by decide) (fun _ _ _ h => h) (Or.inl ⟨by rfl, ?y207⟩) (by assumption) ?r207
          case y207 => (intro w hSw; clear hSw; go_simp; (try with_reducible rfl))
          simp only [Act.put, List.setIfInBounds_toArray, List.set_cons_zero, List.set_cons_succ]
          refine till_load 8 (some 58) [11, 10, 9] (v := ?v208) (by decide) rfl (by kernel_rfl) (by kernel_rfl) (by kernel_rfl) (by kernel_rfl) (by kernel_rfl) (by decide) (by decide) (fun _ _ _ h => h) (Or.inl ⟨by rfl, ?y208⟩) (by assumption) ?r208
          case y208 => (intro w hSw; (try dsimp only at hSw); go_simp; (try with_reducible rfl))
          simp only [Act.put, List.setIfInBounds_toArray, List.set_cons_zero, List.set_cons_succ]
          refine till_pure 9 (some 59) (v := ?v209) (by decide) rfl (by kernel_rfl) (by kernel_rfl) (by kernel_rfl) (by kernel_rfl) (by decide) (fun _ _ _ h => h) (Or.inl ⟨by rfl, ?y209⟩) (by assumption) ?r209
          case y209 => (intro w hSw; clear hSw; go_simp; (try with_reducible rfl))
          simp only [Act.put, List.setIfInBounds_toArray, List.set_cons_zero, List.set_cons_succ]
          refine till_pure 10 (some 60) (v := ?v210) (by decide) rfl (by kernel_rfl) (by kernel_rfl) (by kernel_rfl) (by kernel_rfl) (by decide) (fun _ _ _ h => h) (Or.inl ⟨by rfl, ?y210⟩) (by assumption) ?r210
          case y210 => (intro w hSw; clear hSw; go_simp; (try with_reducible rfl))
          simp only [Act.put, List.setIfInBounds_toArray, List.set_cons_zero, List.set_cons_succ]
          refine till_call 11 (by kernel_rfl) rfl (fun K hK => ?_)
          go_simp
          have KA := hid ((Kept.refl (fun _ => False) w3).alloc (.cells (dcell (DE.mk x.pg 0 (x.bs.take 32) (.slice (some ⟨gb, ob, none⟩) 32 q))).toArray 85))
          try dsimp only []
          refine hK.out _ _ (by exact ⟨(KA.out.cell d1 (fun h => h)), (KA.out.cell e0 (fun h => h)), (KA.out.cell e1 (fun h => h)), (KA.out.cell e2 (fun h => h))⟩) (fun hHeld => ?_)
          clear hK K
          try simp only [Act.put, List.setIfInBounds_toArray, List.set_cons_zero, List.set_cons_succ]
          refine till_list [13, 14, 15] (by kernel_rfl) (by kernel_rfl) (by decide) (by decide) ?_
          simp only [pickOps, List.getElem?_toArray, List.getElem?_cons_zero, List.getElem?_cons_succ]
          clear hHeld
          have RY := hid (row_new w3 (.cells (dcell (DE.mk x.pg 0 (x.bs.take 32) (.slice (some ⟨gb, ob, none⟩) 32 q))).toArray 85))
          have KRA := hid (K3.out.trans KA.out)
          have IA := hid (IR.out.same KRA.out)
          have OL4 := hid (show Own (w3.alloc (.cells (dcell (DE.mk x.pg 0 (x.bs.take 32) (.slice (some ⟨gb, ob, none⟩) 32 q))).toArray 85)) 85 3 (.slice lo' LL lc') LL (dcells LX) by have := IA.out.ol; rw [← HLL.out]; exact this)
          have RB4 := hid (show (w3.alloc (.cells (dcell (DE.mk x.pg 0 (x.bs.take 32) (.slice (some ⟨gb, ob, none⟩) 32 q))).toArray 85)).heap[b]? = some (.cells #[.int .i64 D.n, .slice lo' LL lc', .slice (some ⟨g, 0, none⟩) D.since.length sc, .bool D.off, .int .i64 D.armed, .int .i64 D.ops] 61 (0, 0)) by have := IA.out.r; rw [← HLL.out]; exact this)
          have LB4 := hid (row_lt RB4.out)
          have NB4 := hid (show ∀ g, (Value.slice lo' LL lc').ownBlock = some g → g ≠ b by have := IA.out.neb.1; rw [← HLL.out]; exact this)
          clear d1 e0 e1 e2 hck3
          refine wpList_app rfl (.tmp 54) (.tmp 61) 59 rfl 85 (.agg #[.int .i64 0, .int .i64 0, .slice none 0 0]) 3 40 Try.underlying59 infoPut rfl (by decide) (.slice lo' LL lc') LL (dcells LX) rfl OL4.out _ rfl 1 (dcell (DE.mk x.pg 0 (x.bs.take 32) (.slice (some ⟨gb, ob, none⟩) 32 q))) (src_row (by simp [dcell]) (fun j u hu => (row_cell (by exact RY.out) (0 + j)).trans (by rw [Nat.zero_add]; simpa [dcell] using hu)) (by simp [dcell, Value.oneCell'])) (by have := HLB.out; simp only [maxLen]; omega) (by have := HLB.out; omega) ?_
          intro a' c' w4 ho hk4 hf _
          have HO4 := hid ho; have HK4 := hid (show Kept (fun g => (Value.slice lo' LL lc').ownBlock = some g) (w3.alloc (.cells (dcell (DE.mk x.pg 0 (x.bs.take 32) (.slice (some ⟨gb, ob, none⟩) 32 q))).toArray 85)) w4 from ((Kept.refl _ _).drew).trans hk4); have HF4 := hid hf; have HR4 := hid ((hk4.block b LB4.out (fun e => NB4.out b e rfl)).trans RB4.out)
          clear ho hk4 hf
          go_wp2_with (refine wpList_store_cell rfl 59 (.tmp 64) (.tmp 62) rfl (by kernel_rfl) b 1 rfl (.slice a' (LL + 1) c') rfl rfl HR4.out (by simp) ?_; intro w5 hr hk; have HR5 := hid hr.out; have HK5 := hid hk.out; clear hr hk)
          go_roundw
          case rel =>
            have hl := HLL.out
            subst hl
            have hkeep : keep1 (keepOf KB k) x = [(DE.mk x.pg 0 (x.bs.take 32) (.slice (some ⟨gb, ob, none⟩) 32 q))] := by rw [HCC.out]; simp only [keep1, HEV.out, hv1]; rfl
            have hy : DEok (fun g => H g ∨ F' g) wr (DE.mk x.pg 0 (x.bs.take 32) (.slice (some ⟨gb, ob, none⟩) 32 q)) := HXE.out.half HX0.out HEV.out 0 (.inl rfl) _ (by simp) q (by have := HQ.out; have := HX0.out; omega)
            have hr5 := HR5.out
            simp only [List.setIfInBounds_toArray, List.set_cons_zero, List.set_cons_succ] at hr5
            obtain ⟨F2, hin2, hF2, hk2⟩ := DIn.appended IR.out (DE.mk x.pg 0 (x.bs.take 32) (.slice (some ⟨gb, ob, none⟩) 32 q)) (hy.mono (fun g hg h => h.elim id (fun h => by omega))) KRA.out (by exact HO4.out) (by exact HK4.out) (by exact HF4.out) HK5.out (by rw [hr5])
            refine ⟨k + 1, F2, a', c', by omega, by go_num, ?_, fun g hg => ?_, ?_⟩
            · rw [keepD_take HX.out, hkeep, ← List.append_assoc, HLX.out]
              exact hin2
            · have hsz := KR.out.size
              rcases hF2 g hg with h | h
              · exact HF'.out g h
              · exact .inr (by omega)
            · exact KR.out.trans' hk2 (fun g hg => HF'.out g hg)
          case measure => (simp only [intOf]; omega)
        · have R3 := hid (row_new wr (.cells #[.int .i64 x.pg, .int .i64 0, .slice (some ⟨gb, ob, none⟩) 64 q] 85))
          have K3 := hid ((Kept.refl (fun _ => False) wr).alloc (.cells #[.int .i64 x.pg, .int .i64 0, .slice (some ⟨gb, ob, none⟩) 64 q] 85))
          obtain ⟨w3, hw3⟩ : ∃ w3, wr.alloc (.cells #[.int .i64 x.pg, .int .i64 0, .slice (some ⟨gb, ob, none⟩) 64 q] 85) = w3 := ⟨_, rfl⟩
          obtain ⟨rb, hrb⟩ : ∃ rb, wr.heap.size = rb := ⟨_, rfl⟩
          have HRB := hid hrb
          rw [hw3] at R3 K3
          rw [hrb] at R3
          obtain ⟨LX, hLX⟩ : ∃ LX, D.last ++ keepD KB (D.since.take k) = LX := ⟨_, rfl⟩
          have HLX := hid hLX
          rw [hLX] at IR HLB
          obtain ⟨LL, hLL⟩ : ∃ LL, LX.length = LL := ⟨_, rfl⟩
          have HLL := hid hLL
          rw [hLL] at HLB
          have hck3 := K3.out.cell hck' (fun h => h)
          have hq32 : (32 : Int) ≤ (q : Int) := by omega
          have hq33 : 32 ≤ q := by omega
          have hq34 : ¬ q = 32 := by omega
          have e0 := row_cell R3.out 0
          have e1 := row_cell R3.out 1
          have e2 := row_cell R3.out 2
          have I3 := hid (IR.out.same K3.out)
          have d1 : w3.cell? ⟨b, 1, none⟩ = some (.slice lo' LX.length lc') := row_cell I3.out.r 1
          rw [hLL] at d1
          clear hLX hLL hck'
          go_wp2_with fail
          refine wp_region_till (fun w' => w'.cell? ⟨b, 1, none⟩ = some (.slice lo' LL lc') ∧ w'.cell? ⟨rb, 0, none⟩ = some (.int .i64 x.pg) ∧ w'.cell? ⟨rb, 1, none⟩ = some (.int .i64 0) ∧ w'.cell? ⟨rb, 2, none⟩ = some (.slice (some ⟨gb, ob, none⟩) 64 q)) 12 (by kernel_rfl) (by exact ⟨d1, e0, e1, e2⟩) (fun hHeld => ?_)
          refine till_pure 0 (some 67) (v := ?v300) (by decide) rfl (by kernel_rfl) (by kernel_rfl) (by kernel_rfl) (by kernel_rfl) (by decide) (fun _ _ _ h => h) (Or.inl ⟨by rfl, ?y300⟩) (by assumption) ?r300
          case y300 => (intro w hSw; clear hSw; go_simp; (try with_reducible rfl))
          simp only [Act.put, List.setIfInBounds_toArray, List.set_cons_zero, List.set_cons_succ]
          refine till_pure 1 (some 68) (v := ?v301) (by decide) rfl (by kernel_rfl) (by kernel_rfl) (by kernel_rfl) (by kernel_rfl) (by decide) (fun _ _ _ h => h) (Or.inl ⟨by rfl, ?y301⟩) (by assumption) ?r301
          case y301 => (intro w hSw; clear hSw; go_simp; (try with_reducible rfl))
          simp only [Act.put, List.setIfInBounds_toArray, List.set_cons_zero, List.set_cons_succ]
          refine till_pure 2 (some 69) (v := ?v302) (by decide) rfl (by kernel_rfl) (by kernel_rfl) (by kernel_rfl) (by kernel_rfl) (by decide) (fun _ _ _ h => h) (Or.inl ⟨by rfl, ?y302⟩) (by assumption) ?r302
          case y302 => (intro w hSw; clear hSw; go_simp; (try with_reducible rfl))
          simp only [Act.put, List.setIfInBounds_toArray, List.set_cons_zero, List.set_cons_succ]
          refine till_pure 3 (some 70) (v := ?v303) (by decide) rfl (by kernel_rfl) (by kernel_rfl) (by kernel_rfl) (by kernel_rfl) (by decide) (fun _ _ _ h => h) (Or.inl ⟨by rfl, ?y303⟩) (by assumption) ?r303
          case y303 => (intro w hSw; clear hSw; go_simp; (try with_reducible rfl))
          simp only [Act.put, List.setIfInBounds_toArray, List.set_cons_zero, List.set_cons_succ]
          refine till_load 4 (some 71) [] (v := ?v304) (by decide) rfl (by kernel_rfl) (by kernel_rfl) (by kernel_rfl) (by kernel_rfl) (by kernel_rfl) (by decide) (by decide) (fun _ _ _ h => h) (Or.inl ⟨by rfl, ?y304⟩) (by assumption) ?r304
          case y304 => (intro w hSw; (try dsimp only at hSw); go_simp; (try with_reducible rfl))
          simp only [Act.put, List.setIfInBounds_toArray, List.set_cons_zero, List.set_cons_succ]
          refine till_pure 5 (some 72) (v := ?v305) (by decide) rfl (by kernel_rfl) (by kernel_rfl) (by kernel_rfl) (by kernel_rfl) (by decide) (fun _ _ _ h => h) (Or.inl ⟨by rfl, ?y305⟩) (by assumption) ?r305
          case y305 => (intro w hSw; clear hSw; go_simp; (try with_reducible rfl))
          simp only [Act.put, List.setIfInBounds_toArray, List.set_cons_zero, List.set_cons_succ]
          refine till_load 6 (some 73) [11, 10] (v := ?v306) (by decide) rfl (by kernel_rfl) (by kernel_rfl) (by kernel_rfl) (by kernel_rfl) (by kernel_rfl) (by decide) (by decide) (fun _ _ _ h => h) (Or.inl ⟨by rfl, ?y306⟩) (by assumption) ?r306
          case y306 => (intro w hSw; (try dsimp only at hSw); go_simp; (try with_reducible rfl))
          simp only [Act.put, List.setIfInBounds_toArray, List.set_cons_zero, List.set_cons_succ]
          refine till_pure 7 (some 74) (v := ?v307) (by decide) rfl (by kernel_rfl) (by kernel_rfl) (by kernel_rfl) (by kernel_rfl) (by decide) (fun _ _ _ h => h) (Or.inl ⟨by rfl, ?y307⟩) (by assumption) ?r307
          case y307 => (intro w hSw; clear hSw; go_simp; (try with_reducible rfl))
          simp only [Act.put, List.setIfInBounds_toArray, List.set_cons_zero, List.set_cons_succ]
          refine till_load 8 (some 75) [11, 10, 9] (v := ?v308) (by decide) rfl (by kernel_rfl) (by kernel_rfl) (by kernel_rfl) (by kernel_rfl) (by kernel_rfl) (by decide) (by decide) (fun _ _ _ h => h) (Or.inl ⟨by rfl, ?y308⟩) (by assumption) ?r308
          case y308 => (intro w hSw; (try dsimp only at hSw); go_simp; (try with_reducible rfl))
          simp only [Act.put, List.setIfInBounds_toArray, List.set_cons_zero, List.set_cons_succ]
          refine till_pure 9 (some 76) (v := ?v309) (by decide) rfl (by kernel_rfl) (by kernel_rfl) (by kernel_rfl) (by kernel_rfl) (by decide) (fun _ _ _ h => h) (Or.inl ⟨by rfl, ?y309⟩) (by assumption) ?r309
          case y309 => (intro w hSw; clear hSw; go_simp; (try with_reducible rfl))
          simp only [Act.put, List.setIfInBounds_toArray, List.set_cons_zero, List.set_cons_succ]
          refine till_pure 10 (some 77) (v := ?v310) (by decide) rfl (by kernel_rfl) (by kernel_rfl) (by kernel_rfl) (by kernel_rfl) (by decide) (fun _ _ _ h => h) (Or.inl ⟨by rfl, ?y310⟩) (by assumption) ?r310
          case y310 => (intro w hSw; clear hSw; go_simp; (try with_reducible rfl))
          simp only [Act.put, List.setIfInBounds_toArray, List.set_cons_zero, List.set_cons_succ]
          refine till_call 11 (by kernel_rfl) rfl (fun K hK => ?_)
          go_simp
          have KA := hid ((Kept.refl (fun _ => False) w3).alloc (.cells (dcell (DE.mk x.pg 32 (x.bs.drop 32) (.slice (some ⟨gb, ob + 32, none⟩) 32 (q - 32)))).toArray 85))
          try dsimp only []
          refine hK.out _ _ (by exact ⟨(KA.out.cell d1 (fun h => h)), (KA.out.cell e0 (fun h => h)), (KA.out.cell e1 (fun h => h)), (KA.out.cell e2 (fun h => h))⟩) (fun hHeld => ?_)
          clear hK K
          try simp only [Act.put, List.setIfInBounds_toArray, List.set_cons_zero, List.set_cons_succ]
          refine till_list [13, 14, 15] (by kernel_rfl) (by kernel_rfl) (by decide) (by decide) ?_
          simp only [pickOps, List.getElem?_toArray, List.getElem?_cons_zero, List.getElem?_cons_succ]
          clear hHeld
          have RY := hid (row_new w3 (.cells (dcell (DE.mk x.pg 32 (x.bs.drop 32) (.slice (some ⟨gb, ob + 32, none⟩) 32 (q - 32)))).toArray 85))
          have KRA := hid (K3.out.trans KA.out)
          have IA := hid (IR.out.same KRA.out)
          have OL4 := hid (show Own (w3.alloc (.cells (dcell (DE.mk x.pg 32 (x.bs.drop 32) (.slice (some ⟨gb, ob + 32, none⟩) 32 (q - 32)))).toArray 85)) 85 3 (.slice lo' LL lc') LL (dcells LX) by have := IA.out.ol; rw [← HLL.out]; exact this)
          have RB4 := hid (show (w3.alloc (.cells (dcell (DE.mk x.pg 32 (x.bs.drop 32) (.slice (some ⟨gb, ob + 32, none⟩) 32 (q - 32)))).toArray 85)).heap[b]? = some (.cells #[.int .i64 D.n, .slice lo' LL lc', .slice (some ⟨g, 0, none⟩) D.since.length sc, .bool D.off, .int .i64 D.armed, .int .i64 D.ops] 61 (0, 0)) by have := IA.out.r; rw [← HLL.out]; exact this)
          have LB4 := hid (row_lt RB4.out)
          have NB4 := hid (show ∀ g, (Value.slice lo' LL lc').ownBlock = some g → g ≠ b by have := IA.out.neb.1; rw [← HLL.out]; exact this)
          clear d1 e0 e1 e2 hck3
          refine wpList_app rfl (.tmp 71) (.tmp 78) 59 rfl 85 (.agg #[.int .i64 0, .int .i64 0, .slice none 0 0]) 3 40 Try.underlying59 infoPut rfl (by decide) (.slice lo' LL lc') LL (dcells LX) rfl OL4.out _ rfl 1 (dcell (DE.mk x.pg 32 (x.bs.drop 32) (.slice (some ⟨gb, ob + 32, none⟩) 32 (q - 32)))) (src_row (by simp [dcell]) (fun j u hu => (row_cell (by exact RY.out) (0 + j)).trans (by rw [Nat.zero_add]; simpa [dcell] using hu)) (by simp [dcell, Value.oneCell'])) (by have := HLB.out; simp only [maxLen]; omega) (by have := HLB.out; omega) ?_
          intro a' c' w4 ho hk4 hf _
          have HO4 := hid ho; have HK4 := hid (show Kept (fun g => (Value.slice lo' LL lc').ownBlock = some g) (w3.alloc (.cells (dcell (DE.mk x.pg 32 (x.bs.drop 32) (.slice (some ⟨gb, ob + 32, none⟩) 32 (q - 32)))).toArray 85)) w4 from ((Kept.refl _ _).drew).trans hk4); have HF4 := hid hf; have HR4 := hid ((hk4.block b LB4.out (fun e => NB4.out b e rfl)).trans RB4.out)
          clear ho hk4 hf
          go_wp2_with (refine wpList_store_cell rfl 59 (.tmp 81) (.tmp 79) rfl (by kernel_rfl) b 1 rfl (.slice a' (LL + 1) c') rfl rfl HR4.out (by simp) ?_; intro w5 hr hk; have HR5 := hid hr.out; have HK5 := hid hk.out; clear hr hk)
          go_roundw
          case rel =>
            have hl := HLL.out
            subst hl
            have hkeep : keep1 (keepOf KB k) x = [(DE.mk x.pg 32 (x.bs.drop 32) (.slice (some ⟨gb, ob + 32, none⟩) 32 (q - 32)))] := by rw [HCC.out]; simp only [keep1, HEV.out, hv2]; rfl
            have hy : DEok (fun g => H g ∨ F' g) wr (DE.mk x.pg 32 (x.bs.drop 32) (.slice (some ⟨gb, ob + 32, none⟩) 32 (q - 32))) := HXE.out.half HX0.out HEV.out 32 (.inr rfl) _ (by rw [List.take_of_length_le]; have := HX0.out; simp; omega) (q - 32) (by have := HQ.out; have := HX0.out; omega)
            have hr5 := HR5.out
            simp only [List.setIfInBounds_toArray, List.set_cons_zero, List.set_cons_succ] at hr5
            obtain ⟨F2, hin2, hF2, hk2⟩ := DIn.appended IR.out (DE.mk x.pg 32 (x.bs.drop 32) (.slice (some ⟨gb, ob + 32, none⟩) 32 (q - 32))) (hy.mono (fun g hg h => h.elim id (fun h => by omega))) KRA.out (by exact HO4.out) (by exact HK4.out) (by exact HF4.out) HK5.out (by rw [hr5])
            refine ⟨k + 1, F2, a', c', by omega, by go_num, ?_, fun g hg => ?_, ?_⟩
            · rw [keepD_take HX.out, hkeep, ← List.append_assoc, HLX.out]
              exact hin2
            · have hsz := KR.out.size
              rcases hF2 g hg with h | h
              · exact HF'.out g h
              · exact .inr (by omega)
            · exact KR.out.trans' hk2 (fun g hg => HF'.out g hg)
          case measure => (simp only [intOf]; omega)
      · have hkkI : ¬ (k : Int) < (KB.length : Int) := by omega
        have HCC := hid (show keepOf KB k = 0 by unfold keepOf; rw [List.getElem?_eq_none (by omega)])
        go_wp2
        go_roundw
        case rel => exact ⟨k + 1, F', lo', lc', by omega, by go_num, by rw [keepD_take HX.out, HCC.out]; simpa [keep1] using IR.out.same ((Kept.refl _ wr).alloc _), HF'.out, KR.out.alloc _⟩
        case measure => (simp only [intOf]; omega)
    · obtain rfl : k = D.since.length := by omega
      rw [List.take_length] at IR
      have R1 := hid (row_set (row_set (row_set IR.out.r 2 (.slice none 0 0)) 3 (.bool false)) 4 (.int .i64 0))
      have K1 := hid ((((Kept.refl (fun g => g = b) wr).setCell (p := ⟨b, 2, none⟩) (.inl rfl) (.slice none 0 0)).setCell (p := ⟨b, 3, none⟩) (.inl rfl) (.bool false)).setCell (p := ⟨b, 4, none⟩) (.inl rfl) (.int .i64 0))
      have fz := fun j => row_free IR.out.r j
      obtain ⟨c0, c1, c2, c3, c4, c5⟩ := cells6 IR.out.r
      clear c0 c1 c5
      go_wp2
      go_ret
      refine ⟨rfl, ?_⟩
      have hh : ∀ g, g < wr.heap.size → ((H g ∨ F' g) ∨ wr.heap.size ≤ g) → (H g ∨ F' g) := fun g hg h => h.elim id (fun h => by omega)
      obtain ⟨F2, h1, h2, h3, _⟩ := IR.out.lists1 (D' := D.restart KB) (lo' := lo') (lc' := lc') (so' := none) (sc' := 0) K1.out (fun g _ e => by rw [e]; exact IR.out.m) (by exact R1.out)
        (IR.out.ol.kept K1.out (fun g hg => IR.out.neb.1 g hg)) (Own.nil _ _ _) (fun g hg => .inl (IR.out.gl g hg)) (by simp [Value.ownBlock, Dpl.restart]) (by simp [Value.ownBlock, Dpl.restart]) (fun x hx => (IR.out.el x hx).mono hh) (by simp [Dpl.restart]) (by simp [Dpl.restart])
      refine ⟨F2, ⟨lo', lc', none, 0, h1.wide (fun g _ h => h.elim (fun h => .inl (.inl h)) .inr) (fun g h => .inr h)⟩, fun g hg => ?_, KR.out.trans' h3 (fun g hg => HF'.out g hg)⟩
      have hsz := KR.out.size
      rcases h2 g hg with h | h
      · exact HF'.out g h
      · exact .inr (by omega)
end Go.Proofs.Ytnfdkpjklenllaa
