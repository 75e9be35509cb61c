/- The document's plate: Page, DocRead. -/
import Derived.Test.YtnfdkpjklenllaaDb
namespace Go.Proofs.Ytnfdkpjklenllaa
open Go.RowKit
theorem flat_len {α : Type} (enc : α → List Value) (n : Nat) (hn : ∀ x, (enc x).length = n) : ∀ l : List α, (l.flatMap enc).length = l.length * n
  | [] => by simp
  | x :: l => by rw [List.flatMap_cons, List.length_append, hn, flat_len enc n hn l, List.length_cons, Nat.succ_mul]; omega
theorem flat_at {α : Type} (enc : α → List Value) (n : Nat) (hn : ∀ x, (enc x).length = n) : ∀ (l : List α) (i : Nat) (x : α) (r : Nat), l[i]? = some x → r < n → (l.flatMap enc)[i * n + r]? = (enc x)[r]?
  | y :: l, 0, x, r, h, hr => by
    simp at h; subst h
    rw [List.flatMap_cons, Nat.zero_mul, Nat.zero_add, List.getElem?_append_left (by rw [hn]; exact hr)]
  | y :: l, i + 1, x, r, h, hr => by
    rw [List.flatMap_cons, List.getElem?_append_right (by rw [hn, Nat.succ_mul]; omega), hn, Nat.succ_mul]
    have := flat_at enc n hn l i x r (by simpa using h) hr
    rw [← this]
    congr 1
    omega
theorem Own.el3 {w : World} {l : List DE} {ao : Option Addr} {cap k : Nat} {x : DE} (h : Own w 85 3 (.slice ao l.length cap) l.length (dcells l)) (hx : l[k]? = some x) :
    ∃ g, ao = some ⟨g, 0, none⟩ ∧ w.cell? ⟨g, k * 3, none⟩ = some (.int .i64 x.pg) ∧ w.cell? ⟨g, k * 3 + 1, none⟩ = some (.int .i64 x.pl) ∧ w.cell? ⟨g, k * 3 + 2, none⟩ = some x.v ∧ g < w.heap.size := by
  have hk := (List.getElem?_eq_some_iff.1 hx).1
  obtain ⟨g, c, e, _, _⟩ := h.some_of_pos (by omega)
  simp only [Value.slice.injEq] at e
  obtain ⟨rfl, _, rfl⟩ := e
  have hc : ∀ r u, (dcell x)[r]? = some u → r < 3 → w.cell? ⟨g, k * 3 + r, none⟩ = some u := fun r u hu hr => by
    have h1 := flat_at dcell 3 (fun _ => rfl) l k x r hx hr
    rw [hu] at h1
    obtain ⟨hj, e⟩ := List.getElem?_eq_some_iff.1 h1
    rw [← e]
    exact h.cells rfl _ hj
  exact ⟨g, rfl, hc 0 _ rfl (by decide), hc 1 _ rfl (by decide), hc 2 _ rfl (by decide), h.lt rfl⟩
/-- bytes come over a page -/
def ovl (b : List Int) (x : DE) : List Int := b.take x.pl ++ x.bs ++ b.drop (x.pl + x.bs.length)
def dfold (l : List DE) (i : Int) (b : List Int) : List Int := l.foldl (fun b x => if x.pg = i then ovl b x else b) b
def Dpl.page (D : Dpl) (i : Int) : List Int := dfold (D.last ++ D.since) i zpg
theorem dfold_take {l : List DE} {i : Int} {b : List Int} {k : Nat} {x : DE} (h : l[k]? = some x) : dfold (l.take (k + 1)) i b = if x.pg = i then ovl (dfold (l.take k) i b) x else dfold (l.take k) i b := by
  have : l.take (k + 1) = l.take k ++ [x] := by rw [List.take_add_one, h]; rfl
  rw [this]
  simp [dfold]
theorem dfold_app {l m : List DE} {i : Int} {b : List Int} : dfold (l ++ m) i b = dfold m i (dfold l i b) := by simp [dfold]
theorem ovl_len {H : Nat → Prop} {w : World} {x : DE} (h : DEok H w x) {b : List Int} (hb : b.length = 64) : (ovl b x).length = 64 := by
  simp only [ovl, List.length_append, List.length_take, List.length_drop, hb]
  rcases h.f with h | h | h <;> omega
theorem dfold_len {H : Nat → Prop} {w : World} {i : Int} : ∀ (l : List DE) (b : List Int), (∀ x ∈ l, DEok H w x) → b.length = 64 → (dfold l i b).length = 64
  | [], b, _, hb => hb
  | x :: l, b, h, hb => by
    unfold dfold
    rw [List.foldl_cons]
    refine dfold_len l _ (fun y hy => h y (by simp [hy])) ?_
    split
    · exact ovl_len (h x (by simp)) hb
    · exact hb
/-- half way over a page -/
def ovk (b : List Int) (x : DE) (k : Nat) : List Int := b.take x.pl ++ x.bs.take k ++ b.drop (x.pl + k)
theorem ovk_zero (b : List Int) (x : DE) : ovk b x 0 = b := by simp [ovk]
theorem ovk_all (b : List Int) (x : DE) : ovk b x x.bs.length = ovl b x := by simp [ovk, ovl]
theorem ovk_len {H : Nat → Prop} {w : World} {x : DE} (h : DEok H w x) {b : List Int} (hb : b.length = 64) {k : Nat} (hk : k ≤ x.bs.length) : (ovk b x k).length = 64 := by
  simp only [ovk, List.length_append, List.length_take, List.length_drop, hb]
  rcases h.f with h | h | h <;> omega
theorem ovk_succ {b : List Int} {x : DE} {k : Nat} {u : Int} (hk : x.bs[k]? = some u) (hl : x.pl + k < b.length) : (ovk b x k).set (x.pl + k) u = ovk b x (k + 1) := by
  have hk' := (List.getElem?_eq_some_iff.1 hk).1
  have e : x.bs.take (k + 1) = x.bs.take k ++ [u] := by rw [List.take_add_one, hk]; rfl
  unfold ovk
  rw [e]
  have l1 : (b.take x.pl ++ x.bs.take k).length = x.pl + k := by simp; omega
  rw [List.set_append_right _ _ (by rw [l1]; exact Nat.le_refl _), l1, Nat.sub_self]
  have : b.drop (x.pl + k) = b[x.pl + k] :: b.drop (x.pl + k + 1) := (List.drop_eq_getElem_cons hl)
  rw [this, List.set_cons_zero]
  simp [Nat.add_assoc]
theorem u8s_set (l : List Int) (i : Nat) (u : Int) : (u8s (l.set i u)).toArray = (u8s l).toArray.setIfInBounds i (.int .u8 u) := by simp [u8s, List.map_set]
theorem made64 : madeCells #[.int .u8 0] 64 = (u8s zpg).toArray := by kernel_rfl
theorem mk64 (w : World) : (Instr.makeSlice 23 (.int .i64 64) (.int .i64 64)).run Try.prog w = .ok (.slice (some ⟨w.heap.size, 0, none⟩) 64 64) (w.alloc (.cells (u8s zpg).toArray 5)) := by
  rw [← made64]
  exact run_make_row' (P := Try.prog) 23 5 (.int .u8 0) 1 Try.underlying23 infoU8 rfl .i64 .i64 64 (by decide) (by decide) w
set_option maxRecDepth 100000 in
set_option maxHeartbeats 4000000 in
theorem page_any {F H : Nat → Prop} {w : World} {b : Nat} {D : Dpl} (h : DAt F H w b D) (hn : D.last.length ≤ 100000 ∧ D.since.length ≤ 100000) (i : Int) :
    Calls Try.prog 41 #[.pointer (some ⟨b, 0, none⟩), .int .i64 i] w fun e w' => ∃ nb, e = .returned (.slice (some ⟨nb, 0, none⟩) 64 64) ∧ w'.heap[nb]? = some (.cells (u8s (D.page i)).toArray 5 (0, 0)) ∧ w.heap.size ≤ nb ∧ Kept (fun _ => False) w w' := by
  obtain ⟨lo, lc, so, sc, h⟩ := h
  have HI := hid h; have HN := hid hn
  clear h hn
  have hmk := mk64
  have P0 := hid (row_new w (.cells (u8s zpg).toArray 5))
  have K0 := hid ((Kept.refl (fun _ => False) w).alloc (.cells (u8s zpg).toArray 5))
  obtain ⟨w1, hw1⟩ : ∃ w1, w.alloc (.cells (u8s zpg).toArray 5) = w1 := ⟨_, rfl⟩
  rw [hw1] at P0 K0
  obtain ⟨pb, hpb⟩ : ∃ pb, w.heap.size = pb := ⟨_, rfl⟩
  rw [hpb] at P0
  have HW1 := hid hw1; have HPB := hid hpb
  have I1 := hid (HI.out.same K0.out)
  obtain ⟨c0, c1, c2, c3, c4, c5⟩ := cells6 (show w1.drew.heap[b]? = _ from I1.out.r)
  clear hw1 hpb c0 c3 c4 c5
  go_enter Try.func41, Try.ntmps41
  have hw1 := HW1.out
  have hpb := HPB.out
  go_wp2_with fail
  clear hmk hw1
  refine wp_region_till (fun w' => w'.cell? ⟨b, 1, none⟩ = some (.slice lo D.last.length lc) ∧ w'.cell? ⟨b, 2, none⟩ = some (.slice so D.since.length sc)) 8 (by kernel_rfl) (by exact ⟨c1, c2⟩) (fun hHeld => ?_)
  refine till_pure 0 (some 13) (v := ?v100) (by decide) rfl (by kernel_rfl) (by kernel_rfl) (by kernel_rfl) (by kernel_rfl) (by decide) (fun _ _ _ h => h) (Or.inl ⟨by rfl, ?y100⟩) (by assumption) ?r100
  case y100 => (intro w hSw; clear hSw; go_simp; (try with_reducible rfl))
  simp only [Act.put, List.setIfInBounds_toArray, List.set_cons_zero, List.set_cons_succ]
  refine till_pure 1 (some 14) (v := ?v101) (by decide) rfl (by kernel_rfl) (by kernel_rfl) (by kernel_rfl) (by kernel_rfl) (by decide) (fun _ _ _ h => h) (Or.inl ⟨by rfl, ?y101⟩) (by assumption) ?r101
  case y101 => (intro w hSw; clear hSw; go_simp; (try with_reducible rfl))
  simp only [Act.put, List.setIfInBounds_toArray, List.set_cons_zero, List.set_cons_succ]
  refine till_pure 2 (some 15) (v := ?v102) (by decide) rfl (by kernel_rfl) (by kernel_rfl) (by kernel_rfl) (by kernel_rfl) (by decide) (fun _ _ _ h => h) (Or.inl ⟨by rfl, ?y102⟩) (by assumption) ?r102
  case y102 => (intro w hSw; clear hSw; go_simp; (try with_reducible rfl))
  simp only [Act.put, List.setIfInBounds_toArray, List.set_cons_zero, List.set_cons_succ]
  refine till_load 3 (some 16) [] (v := ?v103) (by decide) rfl (by kernel_rfl) (by kernel_rfl) (by kernel_rfl) (by kernel_rfl) (by kernel_rfl) (by decide) (by decide) (fun _ _ _ h => h) (Or.inl ⟨by rfl, ?y103⟩) (by assumption) ?r103
  case y103 => (intro w hSw; (try dsimp only at hSw); go_simp; (try with_reducible rfl))
  simp only [Act.put, List.setIfInBounds_toArray, List.set_cons_zero, List.set_cons_succ]
  refine till_pure 4 (some 17) (v := ?v104) (by decide) rfl (by kernel_rfl) (by kernel_rfl) (by kernel_rfl) (by kernel_rfl) (by decide) (fun _ _ _ h => h) (Or.inl ⟨by rfl, ?y104⟩) (by assumption) ?r104
  case y104 => (intro w hSw; clear hSw; go_simp; (try with_reducible rfl))
  simp only [Act.put, List.setIfInBounds_toArray, List.set_cons_zero, List.set_cons_succ]
  refine till_pure 5 (some 18) (v := ?v105) (by decide) rfl (by kernel_rfl) (by kernel_rfl) (by kernel_rfl) (by kernel_rfl) (by decide) (fun _ _ _ h => h) (Or.inl ⟨by rfl, ?y105⟩) (by assumption) ?r105
  case y105 => (intro w hSw; clear hSw; go_simp; (try with_reducible rfl))
  simp only [Act.put, List.setIfInBounds_toArray, List.set_cons_zero, List.set_cons_succ]
  refine till_pure 6 (some 19) (v := ?v106) (by decide) rfl (by kernel_rfl) (by kernel_rfl) (by kernel_rfl) (by kernel_rfl) (by decide) (fun _ _ _ h => h) (Or.inl ⟨by rfl, ?y106⟩) (by assumption) ?r106
  case y106 => (intro w hSw; clear hSw; go_simp; (try with_reducible rfl))
  simp only [Act.put, List.setIfInBounds_toArray, List.set_cons_zero, List.set_cons_succ]
  refine till_load 7 (some 20) [] (v := ?v107) (by decide) rfl (by kernel_rfl) (by kernel_rfl) (by kernel_rfl) (by kernel_rfl) (by kernel_rfl) (by decide) (by decide) (fun _ _ _ h => h) (Or.inl ⟨by rfl, ?y107⟩) (by assumption) ?r107
  case y107 => (intro w hSw; (try dsimp only at hSw); go_simp; (try with_reducible rfl))
  simp only [Act.put, List.setIfInBounds_toArray, List.set_cons_zero, List.set_cons_succ]
  refine till_pure 10 (some 23) (v := ?v110) (by decide) rfl (by kernel_rfl) (by kernel_rfl) (by kernel_rfl) (by kernel_rfl) (by decide) (fun _ _ _ h => h) (Or.inl ⟨by rfl, ?y110⟩) (by assumption) ?r110
  case y110 => (intro w hSw; clear hSw; go_simp; (try with_reducible rfl))
  simp only [Act.put, List.setIfInBounds_toArray, List.set_cons_zero, List.set_cons_succ]
  refine till_list [9] (by kernel_rfl) (by kernel_rfl) (by decide) (by decide) ?_
  simp only [pickOps, List.getElem?_toArray, List.getElem?_cons_zero, List.getElem?_cons_succ]
  clear hHeld
  have A0 := hid (row_new w1 (.cells #[.slice lo D.last.length lc, .slice so D.since.length sc] 59))
  have K2 := hid (((Kept.refl (fun _ => False) w1).alloc (.cells #[.slice lo D.last.length lc, .slice so D.since.length sc] 59)).drew)
  obtain ⟨w2, hw2⟩ : ∃ w2, (w1.alloc (.cells #[.slice lo D.last.length lc, .slice so D.since.length sc] 59)).drew = w2 := ⟨_, rfl⟩
  obtain ⟨ab, hab⟩ : ∃ ab, w1.heap.size = ab := ⟨_, rfl⟩
  have A2 := hid (show w2.heap[ab]? = some (.cells #[.slice lo D.last.length lc, .slice so D.since.length sc] 59 (0, 0)) by rw [← hw2, ← hab]; exact A0.out)
  rw [hw2] at K2
  have HW2 := hid hw2; have HAB := hid hab
  have P2 := hid ((K2.out.block _ (row_lt P0.out) (fun h => h)).trans P0.out)
  have I2 := hid (I1.out.same K2.out)
  have HNE := hid (show pb < ab by have := row_lt P0.out; omega)
  clear A0 c1 c2 P0 I1
  go_wp2_with fail
  clear hw2
  go_loopw [23] (fun j wr => ∃ k : Nat, k ≤ 2 ∧ j = .int .i64 k ∧ wr.heap[pb]? = some (.cells (u8s (dfold (if k = 0 then [] else if k = 1 then D.last else D.last ++ D.since) i zpg)).toArray 5 (0, 0)) ∧ Kept (fun g => g = pb) w2 wr) (fun j _ => 2 - (intOf j).toNat)
  case atStart => exact ⟨0, by decide, rfl, P2.out, Kept.refl _ _⟩
  case round =>
    rename World => wr
    obtain ⟨k, hk, rfl, hb, hkp⟩ := hrel
    have HB := hid hb; have KR := hid hkp
    clear hb hkp
    by_cases hlt : k < 2
    · have hltI : (k : Int) < 2 := by omega
      obtain ⟨pre, hpre⟩ : ∃ pre, dfold (if k = 0 then [] else if k = 1 then D.last else D.last ++ D.since) i zpg = pre := ⟨_, rfl⟩
      have HX : ∃ (l : List DE) (ao : Option Addr) (cap : Nat), wr.cell? ⟨ab, k, none⟩ = some (.slice ao l.length cap) ∧ Own wr 85 3 (.slice ao l.length cap) l.length (dcells l) ∧ (∀ x ∈ l, DEok (fun g => pb ≤ g) wr x) ∧ (∀ g, (Value.slice ao l.length cap).ownBlock = some g → g < pb) ∧ l.length ≤ 100000 ∧ dfold (if k + 1 = 0 then [] else if k + 1 = 1 then D.last else D.last ++ D.since) i zpg = dfold l i pre ∧ pre.length = 64 := by
        have hA := (KR.out.block ab (row_lt A2.out) (by have := HNE.out; omega)).trans A2.out
        have hI := HI.out
        have kk : Kept (fun g => g = pb) w wr := ((K0.out.trans K2.out).mono (fun _ _ h => h.elim)).trans KR.out
        have hE : ∀ x, DEok H w x → DEok (fun g => pb ≤ g) wr x := fun x hx => (hx.mono (H' := fun g => pb ≤ g) (fun g hg h => by omega)).kept kk (fun g _ e => by rw [e]; exact Nat.le_refl _)
        have hO : ∀ {ao : Option Addr} {n cap : Nat} {xs : List Value}, Own w 85 3 (.slice ao n cap) n xs → Own wr 85 3 (.slice ao n cap) n xs := fun h => h.kept kk (fun g hg e => by have := h.lt hg; omega)
        have hz : zpg.length = 64 := zpg_len
        rcases (by omega : k = 0 ∨ k = 1) with rfl | rfl
        · exact ⟨D.last, lo, lc, row_cell hA 0, hO hI.ol, fun x hx => hE x (hI.el x hx), fun g hg => by have := hI.ol.lt hg; omega, HN.out.1, by rw [← hpre]; rfl, by rw [← hpre]; exact hz⟩
        · exact ⟨D.since, so, sc, row_cell hA 1, hO hI.os, fun x hx => hE x (hI.es x hx), fun g hg => by have := hI.os.lt hg; omega, HN.out.2, by rw [← hpre]; simp [dfold_app], by rw [← hpre]; exact dfold_len D.last zpg hI.el hz⟩
      rw [hpre] at HB
      obtain ⟨l, ao, cap, hcl, hol, hel, hlt', hll, hpn, hpl⟩ := HX
      have HLT := hid hlt'
      have HOL := hid hol; have HEL := hid hel; have HPN := hid hpn; have HPL := hid hpl
      have HLL := hid hll
      clear hpre hol hel hpn hpl hll hlt'
      go_wp2_with fail
      go_loopw [29] (fun j wz => ∃ m : Nat, m ≤ l.length ∧ j = .int .i64 m ∧ wz.heap[pb]? = some (.cells (u8s (dfold (l.take m) i pre)).toArray 5 (0, 0)) ∧ Kept (fun g => g = pb) wr wz) (fun j _ => l.length - (intOf j).toNat)
      case atStart => exact ⟨0, Nat.zero_le _, rfl, by simpa [dfold] using HB.out, Kept.refl _ _⟩
      case round =>
        rename World => wz
        obtain ⟨m, hm, rfl, hb, hkp⟩ := hrel
        have HBZ := hid hb; have KZ := hid hkp
        clear hb hkp hcl
        by_cases hlm : m < l.length
        · have hlmI : (m : Int) < (l.length : Int) := by omega
          have hll := HLL.out
          obtain ⟨x, hx⟩ : ∃ x, l[m]? = some x := ⟨_, List.getElem?_eq_getElem hlm⟩
          obtain ⟨g, rfl, g0, g1, g2, gl⟩ := (HOL.out.kept KZ.out (fun g hg e => by have := HLT.out g hg; omega)).el3 hx
          have HXE := hid ((HEL.out x (List.mem_of_getElem? hx)).kept KZ.out (fun g _ e => by show pb ≤ g; omega))
          have HX := hid hx
          clear hx
          obtain ⟨gb, ob, q, ev, hq1, hq3, hgb, hq2, hbc⟩ := HXE.out.v.cell (by rcases HXE.out.f with h | h | h <;> omega)
          have HBC := hid hbc; have HGB := hid hgb
          rw [ev] at g2
          clear ev hbc hgb
          by_cases hpg : x.pg = i
          · have hpg' : (x.pg == i) = true := by simp [hpg]
            have HPG := hid hpg; clear hpg
            have R3 := hid (row_new wz (.cells #[.int .i64 x.pg, .int .i64 x.pl, .slice (some ⟨gb, ob, none⟩) x.bs.length q] 85))
            have K3 := hid ((Kept.refl (fun _ => False) wz).alloc (.cells #[.int .i64 x.pg, .int .i64 x.pl, .slice (some ⟨gb, ob, none⟩) x.bs.length q] 85))
            have B3 := hid ((K3.out.block pb (row_lt HBZ.out) (fun h => h)).trans HBZ.out)
            obtain ⟨w3, hw3⟩ : ∃ w3, wz.alloc (.cells #[.int .i64 x.pg, .int .i64 x.pl, .slice (some ⟨gb, ob, none⟩) x.bs.length q] 85) = w3 := ⟨_, rfl⟩
            obtain ⟨rb, hrb⟩ : ∃ rb, wz.heap.size = rb := ⟨_, rfl⟩
            rw [hw3] at R3 K3 B3
            rw [hrb] at R3
            have HRB := hid (show rb ≠ pb by have := row_lt HBZ.out; omega)
            have hr2 := row_cell R3.out 2
            have hr0 := row_cell R3.out 0
            go_wp2_with fail
            clear hw3 hrb hr2 hr0
            obtain ⟨cur, hcur⟩ : ∃ cur, dfold (l.take m) i pre = cur := ⟨_, rfl⟩
            rw [hcur] at B3
            have HCUR := hid hcur
            have HCL := hid (show cur.length = 64 by rw [← hcur]; exact dfold_len _ _ (fun y hy => HEL.out y (List.mem_of_mem_take hy)) HPL.out)
            clear hcur
            go_loopw [40] (fun j wy => ∃ s : Nat, s ≤ x.bs.length ∧ j = .int .i64 s ∧ wy.heap[pb]? = some (.cells (u8s (ovk cur x s)).toArray 5 (0, 0)) ∧ Kept (fun g => g = pb) w3 wy) (fun j _ => x.bs.length - (intOf j).toNat)
            case atStart => exact ⟨0, Nat.zero_le _, rfl, by rw [ovk_zero]; exact B3.out, Kept.refl _ _⟩
            case round =>
              rename World => wy
              obtain ⟨s, hs, rfl, hb, hkp⟩ := hrel
              have HBY := hid hb; have KY := hid hkp
              clear hb hkp
              have HXL := hid (show x.bs.length ≤ 64 by rcases HXE.out.f with h | h | h <;> omega)
              by_cases hls : s < x.bs.length
              · have hlsI : (s : Int) < (x.bs.length : Int) := by omega
                have hw9 : IntKind.i64.wrap ((s : Int) + 1) = (s : Int) + 1 := IntWalk.i64_in _ (by have := HXL.out; omega)
                obtain ⟨u, hu⟩ : ∃ u, x.bs[s]? = some u := ⟨_, List.getElem?_eq_getElem hls⟩
                have hcell : wy.cell? ⟨gb, ob + s, none⟩ = some (.int .u8 u) := KY.out.cell (K3.out.cell (HBC.out s _ (by simp [u8s, hu])) (fun h => h)) (fun e => HGB.out (by have e' : gb = pb := e; show pb ≤ gb; omega))
                have h1 : wy.cell? ⟨rb, 1, none⟩ = some (.int .i64 x.pl) := KY.out.cell (row_cell R3.out 1) HRB.out
                obtain ⟨z, hz⟩ : ∃ z, z = x.pl + s := ⟨_, rfl⟩
                have hzl : z < 64 := by rcases HXE.out.f with h | h | h <;> omega
                have hzI : (z : Int) < 64 := by omega
                have hw : IntKind.i64.wrap ((x.pl : Int) + (s : Int)) = (z : Int) := by rw [IntWalk.i64_in _ (by omega)]; omega
                have hfr := row_free HBY.out z
                obtain ⟨od, hod⟩ : ∃ od, (ovk cur x s)[z]? = some od := ⟨_, List.getElem?_eq_getElem (by rw [ovk_len HXE.out HCL.out hs]; exact hzl)⟩
                have hpc : wy.cell? ⟨pb, z, none⟩ = some (.int .u8 od) := by rw [row_cell HBY.out]; simp [u8s, hod]
                clear hod
                have HU := hid hu; have HZ := hid hz
                have HSET := hid (row_set HBY.out z (.int .u8 u))
                clear hu hz
                go_wp2
                go_roundw
                case rel =>
                  exact ⟨s + 1, by omega, by go_num, by rw [HSET.out, ← u8s_set, HZ.out, ovk_succ HU.out (by have := HZ.out; rw [HCL.out]; omega)], KY.out.setCell (.inl rfl) _⟩
                case measure => (simp only [intOf]; omega)
              · obtain rfl : s = x.bs.length := by omega
                go_wp2
                go_roundw
                case rel => exact ⟨m + 1, by omega, by go_num, by rw [dfold_take HX.out, if_pos HPG.out, HCUR.out, ← ovk_all]; exact HBY.out, (KZ.out.trans (K3.out.mono (fun _ _ h => h.elim))).trans KY.out⟩
                case measure => (simp only [intOf]; omega)
          · have hpg' : (x.pg == i) = false := by simp [hpg]
            have HPG := hid hpg; clear hpg
            go_wp2
            go_roundw
            case rel => exact ⟨m + 1, by omega, by go_num, by rw [dfold_take HX.out, if_neg HPG.out]; exact (((Kept.refl (fun _ => False) wz).alloc _).block pb (row_lt HBZ.out) (fun h => h)).trans HBZ.out, KZ.out.alloc _⟩
            case measure => (simp only [intOf]; omega)
        · obtain rfl : m = l.length := by omega
          go_wp2
          go_roundw
          case rel => exact ⟨k + 1, by omega, by go_num, by have := HBZ.out; rw [List.take_length] at this; rw [HPN.out]; exact this, KR.out.trans KZ.out⟩
          case measure => (simp only [intOf]; omega)
    · obtain rfl : k = 2 := by omega
      have HPG2 := hid (show wr.heap[pb]? = some (.cells (u8s (D.page i)).toArray 5 (0, 0)) from HB.out)
      go_wp2
      go_ret
      exact ⟨pb, rfl, HPG2.out, by omega, (K0.out.trans K2.out).trans' KR.out (fun g e => .inr (by omega))⟩
set_option maxRecDepth 100000 in
set_option maxHeartbeats 1000000 in
theorem dread_arg {w : World} {p : Option Addr} (i : Int) (hi : i < 0) : Calls Try.prog 34 #[.pointer p, .int .i64 i] w fun e w' => e = .returned (.tuple #[.slice none 0 0, .int .i64 1]) ∧ w = w' := by
  go_enter Try.func34, Try.ntmps34
  go_wp2
  go_ret2
  exact ⟨rfl, rfl⟩
set_option maxHeartbeats 1000000 in
theorem dread_nil {w : World} (i : Int) (hi : 0 ≤ i) : Calls Try.prog 34 #[.pointer none, .int .i64 i] w fun e w' => e = .returned (.tuple #[.slice none 0 0, .int .i64 6]) ∧ w = w' := by
  have hn' : ¬ i < 0 := by omega
  go_enter Try.func34, Try.ntmps34
  go_wp2_with fail
  refine (state_nil _).mono ?_
  rintro e w' ⟨rfl, rfl⟩
  go_wp2
  go_ret2
  exact ⟨rfl, rfl⟩
set_option maxHeartbeats 1000000 in
theorem dread_big {F H : Nat → Prop} {w : World} {b : Nat} {D : Dpl} (h : DAt F H w b D) (i : Int) (hi : 0 ≤ i) (hn : D.n ≤ i) : Calls Try.prog 34 #[.pointer (some ⟨b, 0, none⟩), .int .i64 i] w fun e w' => e = .returned (.tuple #[.slice none 0 0, .int .i64 1]) ∧ w = w' := by
  obtain ⟨lo, lc, so, sc, h⟩ := h
  obtain ⟨c0, c1, c2, c3, c4, c5⟩ := cells6 h.r
  clear h c1 c2 c3 c4 c5
  have hn' : ¬ i < 0 := by omega
  go_enter Try.func34, Try.ntmps34
  go_wp2
  go_ret2
  exact ⟨rfl, rfl⟩
set_option maxHeartbeats 1000000 in
theorem dread_off {F H : Nat → Prop} {w : World} {b : Nat} {D : Dpl} (h : DAt F H w b D) (hoff : D.off = true) (i : Int) (hi : 0 ≤ i) (hn : i < D.n) : Calls Try.prog 34 #[.pointer (some ⟨b, 0, none⟩), .int .i64 i] w fun e w' => e = .returned (.tuple #[.slice none 0 0, .int .i64 11]) ∧ w = w' := by
  have HA := hid h
  obtain ⟨lo, lc, so, sc, h⟩ := h
  obtain ⟨c0, c1, c2, c3, c4, c5⟩ := cells6 h.r
  clear h c1 c2 c3 c4 c5
  have hn1 : ¬ i < 0 := by omega
  have hn2 : ¬ D.n ≤ i := by omega
  go_enter Try.func34, Try.ntmps34
  go_wp2_with fail
  refine (state_any HA.out).mono ?_
  rintro e w' ⟨rfl, rfl⟩
  have he : D.err = 11 := by simp [Dpl.err, hoff]
  rw [he]
  go_wp2
  go_ret2
  exact ⟨rfl, rfl⟩
set_option maxHeartbeats 1000000 in
theorem dread_ok {F H : Nat → Prop} {w : World} {b : Nat} {D : Dpl} (h : DAt F H w b D) (hoff : D.off = false) (hN : D.last.length ≤ 100000 ∧ D.since.length ≤ 100000) (i : Int) (hi : 0 ≤ i) (hn : i < D.n) : Calls Try.prog 34 #[.pointer (some ⟨b, 0, none⟩), .int .i64 i] w fun e w' => ∃ nb, e = .returned (.tuple #[.slice (some ⟨nb, 0, none⟩) 64 64, .int .i64 0]) ∧ w'.heap[nb]? = some (.cells (u8s (D.page i)).toArray 5 (0, 0)) ∧ w.heap.size ≤ nb ∧ Kept (fun _ => False) w w' := by
  have HA := hid h
  obtain ⟨lo, lc, so, sc, h⟩ := h
  obtain ⟨c0, c1, c2, c3, c4, c5⟩ := cells6 h.r
  clear h c1 c2 c3 c4 c5
  have hn1 : ¬ i < 0 := by omega
  have hn2 : ¬ D.n ≤ i := by omega
  go_enter Try.func34, Try.ntmps34
  go_wp2_with fail
  refine (state_any HA.out).mono ?_
  rintro e w' ⟨rfl, rfl⟩
  have he : D.err = 0 := by simp [Dpl.err, hoff]
  rw [he]
  go_wp2_with fail
  refine (page_any HA.out hN i).mono ?_
  rintro e w' ⟨nb, rfl, hb, hl, hk⟩
  have HB := hid hb; have HK := hid hk
  clear hb hk
  go_wp2
  go_ret2
  exact ⟨nb, rfl, HB.out, hl, HK.out⟩
end Go.Proofs.Ytnfdkpjklenllaa
