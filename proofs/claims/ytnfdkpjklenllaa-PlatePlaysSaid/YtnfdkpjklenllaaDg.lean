/- The document's plate: Written, SamePlaces. -/
import Derived.Test.YtnfdkpjklenllaaDf
namespace Go.Proofs.Ytnfdkpjklenllaa
open Go.RowKit
def ints (l : List Int) : List Value := l.map (Value.int .i64)
theorem ints_one (l : List Int) : ∀ u ∈ ints l, u.oneCell' = true := by
  intro u hu
  simp only [ints, List.mem_map] at hu
  obtain ⟨x, _, rfl⟩ := hu
  rfl
theorem infoInt : (Try.prog.info? 3).map (fun i => (i.zero, i.size, i.bytes)) = some (some (.int .i64 0), 1, 8) := by kernel_rfl
/-- a number comes into a rising list -/
def ins (p : Int) : List Int → List Int
  | [] => [p]
  | i :: r => if i = p then i :: r else if p < i then p :: i :: r else i :: ins p r
theorem ins_len (p : Int) : ∀ l : List Int, (ins p l).length ≤ l.length + 1
  | [] => by simp [ins]
  | i :: r => by
    unfold ins
    split
    · simp
    · split
      · simp
      · have := ins_len p r; simp; omega
def wrD (D : Dpl) (l : List DE) : List Int := l.foldl (fun out x => if D.page x.pg = zpg then out else ins x.pg out) []
theorem wrD_take {D : Dpl} {pre l : List DE} {k : Nat} {x : DE} (h : l[k]? = some x) : wrD D (pre ++ l.take (k + 1)) = if D.page x.pg = zpg then wrD D (pre ++ l.take k) else ins x.pg (wrD D (pre ++ l.take k)) := by
  have : l.take (k + 1) = l.take k ++ [x] := by rw [List.take_add_one, h]; rfl
  rw [this, ← List.append_assoc]
  simp [wrD]
theorem wrD_len (D : Dpl) : ∀ l : List DE, (wrD D l).length ≤ l.length := by
  have : ∀ (l : List DE) (out : List Int), (l.foldl (fun out x => if D.page x.pg = zpg then out else ins x.pg out) out).length ≤ out.length + l.length := by
    intro l
    induction l with
    | nil => intro out; simp
    | cons x l ih =>
      intro out
      rw [List.foldl_cons]
      refine Nat.le_trans (ih _) ?_
      split
      · rw [List.length_cons]; omega
      · have := ins_len x.pg out
        rw [List.length_cons]; omega
  intro l
  have h := this l []
  rw [List.length_nil, Nat.zero_add] at h
  exact h
/-- half way through ins -/
def insJ (db : Bool) (p : Int) (nx r : List Int) : List Int := if db then nx ++ r else nx ++ ins p r
theorem insJ_yes {p i : Int} {nx r : List Int} : insJ true p nx (i :: r) = insJ true p (nx ++ [i]) r := by simp [insJ]
theorem insJ_eq {p : Int} {nx r : List Int} : insJ false p nx (p :: r) = insJ true p (nx ++ [p]) r := by simp [insJ, ins]
theorem insJ_lt {p i : Int} {nx r : List Int} (h : i ≠ p) (hl : p < i) : insJ false p nx (i :: r) = insJ true p (nx ++ [p] ++ [i]) r := by simp [insJ, ins, h, hl]
theorem insJ_gt {p i : Int} {nx r : List Int} (h : i ≠ p) (hl : ¬ p < i) : insJ false p nx (i :: r) = insJ false p (nx ++ [i]) r := by simp [insJ, ins, h, hl]
theorem zero_all {l : List Int} (h : l.length = 64) : l.all (· == 0) = decide (l = zpg) := by
  rw [Bool.eq_iff_iff, List.all_eq_true, decide_eq_true_eq]
  constructor
  · intro ha
    unfold zpg
    rw [← h]
    exact List.eq_replicate_iff.2 ⟨rfl, fun b hb => by simpa using ha b hb⟩
  · rintro rfl x hx
    simp [zpg] at hx
    simp [hx]
theorem Own.elI {w : World} {l : List Int} {ao : Option Addr} {cap k : Nat} {x : Int} (h : Own w 3 1 (.slice ao l.length cap) l.length (ints l)) (hx : l[k]? = some x) :
    ∃ g, ao = some ⟨g, 0, none⟩ ∧ w.cell? ⟨g, k, none⟩ = some (.int .i64 x) ∧ g < w.heap.size := by
  have hk := (List.getElem?_eq_some_iff.1 hx).1
  obtain ⟨g, c, e, _, _⟩ := h.some_of_pos (by omega)
  simp only [Value.slice.injEq] at e
  obtain ⟨rfl, _, rfl⟩ := e
  have h1 : (ints l)[k]? = some (.int .i64 x) := by simp [ints, hx]
  obtain ⟨hj, e⟩ := List.getElem?_eq_some_iff.1 h1
  exact ⟨g, rfl, by rw [← e]; exact h.cells rfl _ hj, h.lt rfl⟩
set_option maxHeartbeats 1000000 in
theorem dwritten_down {F H : Nat → Prop} {w : World} {b : Nat} {D : Dpl} (h : DAt F H w b D) (hoff : D.off = true) : Calls Try.prog 38 #[.pointer (some ⟨b, 0, none⟩)] w fun e w' => e = .returned (.slice none 0 0) ∧ w = w' := by
  go_enter Try.func38, Try.ntmps38
  go_wp2_with fail
  refine (state_any h).mono ?_
  rintro e w' ⟨rfl, rfl⟩
  have he : D.err = 11 := by simp [Dpl.err, hoff]
  rw [he]
  go_wp2
  go_ret
  exact ⟨rfl, rfl⟩
-- a number appended: $1 slot of the slice, $2 of the new one, $3 the number, $4 the list, $5 its address, $6 its capacity, $7 Own fact, $8 blocks' fact, $9 mark of the names
def preL (D : Dpl) (k : Nat) : List DE := if k = 0 then [] else if k = 1 then D.last else D.last ++ D.since
-- an int list at hand: slice a of numbers l, its block is no older than B
set_option maxRecDepth 100000 in
set_option maxHeartbeats 8000000 in
theorem dwritten_ok {F H : Nat → Prop} {w : World} {b : Nat} {D : Dpl} (h : DAt F H w b D) (hoff : D.off = false) (hn : D.last.length ≤ 100000 ∧ D.since.length ≤ 100000) :
    Calls Try.prog 38 #[.pointer (some ⟨b, 0, none⟩)] w fun e w' => ∃ a c, e = .returned (.slice a (wrD D (D.last ++ D.since)).length c) ∧ Own w' 3 1 (.slice a (List.length (wrD D (D.last ++ D.since))) c) (List.length (wrD D (D.last ++ D.since))) (ints (wrD D (D.last ++ D.since))) ∧ (∀ g, (Value.slice a (List.length (wrD D (D.last ++ D.since))) c).ownBlock = some g → w.heap.size ≤ g) ∧ Kept (fun _ => False) w w' := by
  have HA := hid h
  obtain ⟨lo, lc, so, sc, h⟩ := h
  have HI := hid h; have HN := hid hn
  obtain ⟨pb, hpb⟩ : ∃ pb, w.heap.size = pb := ⟨_, rfl⟩
  have HPB := hid hpb
  obtain ⟨c0, c1, c2, c3, c4, c5⟩ := cells6 (show w.drew.heap[b]? = _ from h.r)
  clear h hn c0 c3 c4 c5 hpb
  go_enter Try.func38, Try.ntmps38
  go_wp2_with fail
  refine (state_any HA.out).mono ?_
  rintro e w' ⟨rfl, rfl⟩
  have he : D.err = 0 := by simp [Dpl.err, hoff]
  rw [he]
  clear he hoff
  go_wp2_with fail
  refine wp_region_till (fun w' => w'.cell? ⟨b, 1, none⟩ = some (.slice lo D.last.length lc) ∧ w'.cell? ⟨b, 2, none⟩ = some (.slice so D.since.length sc)) 8 (by kernel_rfl) (by exact ⟨c1, c2⟩) (fun hHeld => ?_)
  refine till_pure 0 (some 18) (v := ?v100) (by decide) rfl (by kernel_rfl) (by kernel_rfl) (by kernel_rfl) (by kernel_rfl) (by decide) (fun _ _ _ h => h) (Or.inl ⟨by rfl, ?y100⟩) (by assumption) ?r100
  case y100 => (intro w hSw; clear hSw; go_simp; (try with_reducible rfl))
  simp only [Act.put, List.setIfInBounds_toArray, List.set_cons_zero, List.set_cons_succ]
  refine till_pure 1 (some 19) (v := ?v101) (by decide) rfl (by kernel_rfl) (by kernel_rfl) (by kernel_rfl) (by kernel_rfl) (by decide) (fun _ _ _ h => h) (Or.inl ⟨by rfl, ?y101⟩) (by assumption) ?r101
  case y101 => (intro w hSw; clear hSw; go_simp; (try with_reducible rfl))
  simp only [Act.put, List.setIfInBounds_toArray, List.set_cons_zero, List.set_cons_succ]
  refine till_pure 2 (some 20) (v := ?v102) (by decide) rfl (by kernel_rfl) (by kernel_rfl) (by kernel_rfl) (by kernel_rfl) (by decide) (fun _ _ _ h => h) (Or.inl ⟨by rfl, ?y102⟩) (by assumption) ?r102
  case y102 => (intro w hSw; clear hSw; go_simp; (try with_reducible rfl))
  simp only [Act.put, List.setIfInBounds_toArray, List.set_cons_zero, List.set_cons_succ]
  refine till_load 3 (some 21) [] (v := ?v103) (by decide) rfl (by kernel_rfl) (by kernel_rfl) (by kernel_rfl) (by kernel_rfl) (by kernel_rfl) (by decide) (by decide) (fun _ _ _ h => h) (Or.inl ⟨by rfl, ?y103⟩) (by assumption) ?r103
  case y103 => (intro w hSw; (try dsimp only at hSw); go_simp; (try with_reducible rfl))
  simp only [Act.put, List.setIfInBounds_toArray, List.set_cons_zero, List.set_cons_succ]
  refine till_pure 4 (some 22) (v := ?v104) (by decide) rfl (by kernel_rfl) (by kernel_rfl) (by kernel_rfl) (by kernel_rfl) (by decide) (fun _ _ _ h => h) (Or.inl ⟨by rfl, ?y104⟩) (by assumption) ?r104
  case y104 => (intro w hSw; clear hSw; go_simp; (try with_reducible rfl))
  simp only [Act.put, List.setIfInBounds_toArray, List.set_cons_zero, List.set_cons_succ]
  refine till_pure 5 (some 23) (v := ?v105) (by decide) rfl (by kernel_rfl) (by kernel_rfl) (by kernel_rfl) (by kernel_rfl) (by decide) (fun _ _ _ h => h) (Or.inl ⟨by rfl, ?y105⟩) (by assumption) ?r105
  case y105 => (intro w hSw; clear hSw; go_simp; (try with_reducible rfl))
  simp only [Act.put, List.setIfInBounds_toArray, List.set_cons_zero, List.set_cons_succ]
  refine till_pure 6 (some 24) (v := ?v106) (by decide) rfl (by kernel_rfl) (by kernel_rfl) (by kernel_rfl) (by kernel_rfl) (by decide) (fun _ _ _ h => h) (Or.inl ⟨by rfl, ?y106⟩) (by assumption) ?r106
  case y106 => (intro w hSw; clear hSw; go_simp; (try with_reducible rfl))
  simp only [Act.put, List.setIfInBounds_toArray, List.set_cons_zero, List.set_cons_succ]
  refine till_load 7 (some 25) [] (v := ?v107) (by decide) rfl (by kernel_rfl) (by kernel_rfl) (by kernel_rfl) (by kernel_rfl) (by kernel_rfl) (by decide) (by decide) (fun _ _ _ h => h) (Or.inl ⟨by rfl, ?y107⟩) (by assumption) ?r107
  case y107 => (intro w hSw; (try dsimp only at hSw); go_simp; (try with_reducible rfl))
  simp only [Act.put, List.setIfInBounds_toArray, List.set_cons_zero, List.set_cons_succ]
  refine till_pure 10 (some 28) (v := ?v110) (by decide) rfl (by kernel_rfl) (by kernel_rfl) (by kernel_rfl) (by kernel_rfl) (by decide) (fun _ _ _ h => h) (Or.inl ⟨by rfl, ?y110⟩) (by assumption) ?r110
  case y110 => (intro w hSw; clear hSw; go_simp; (try with_reducible rfl))
  simp only [Act.put, List.setIfInBounds_toArray, List.set_cons_zero, List.set_cons_succ]
  refine till_list [9] (by kernel_rfl) (by kernel_rfl) (by decide) (by decide) ?_
  simp only [pickOps, List.getElem?_toArray, List.getElem?_cons_zero, List.getElem?_cons_succ]
  clear hHeld
  have A0 := hid (row_new w (.cells #[.slice lo D.last.length lc, .slice so D.since.length sc] 59))
  have K2 := hid (((Kept.refl (fun _ => False) w).alloc (.cells #[.slice lo D.last.length lc, .slice so D.since.length sc] 59)).drew)
  obtain ⟨w2, hw2⟩ : ∃ w2, (w.alloc (.cells #[.slice lo D.last.length lc, .slice so D.since.length sc] 59)).drew = w2 := ⟨_, rfl⟩
  have hpb := HPB.out
  have A2 := hid (show w2.heap[pb]? = some (.cells #[.slice lo D.last.length lc, .slice so D.since.length sc] 59 (0, 0)) by rw [← hw2, ← hpb]; exact A0.out)
  rw [hw2] at K2
  have HW2 := hid hw2
  clear A0 c1 c2
  go_wp2_with fail
  clear hw2
  go_loopw [3, 28] (fun out j wr => ∃ (k : Nat) (a : Option Addr) (c : Nat), k ≤ 2 ∧ j = .int .i64 k ∧ out = .slice a (wrD D (preL D k)).length c ∧ Own wr 3 1 (.slice a (List.length (wrD D (preL D k))) c) (List.length (wrD D (preL D k))) (ints (wrD D (preL D k))) ∧ (∀ g, (Value.slice a (List.length (wrD D (preL D k))) c).ownBlock = some g → pb ≤ g) ∧ Kept (fun _ => False) w2 wr) (fun _ j _ => 2 - (intOf j).toNat)
  case atStart => exact ⟨0, none, 0, by decide, rfl, rfl, Own.nil _ _ _, by simp [Value.ownBlock, preL, wrD], Kept.refl _ _⟩
  case round =>
    rename World => wr
    obtain ⟨k, oa, oc, hk, rfl, rfl, hio, hig, hkp⟩ := hrel
    have IO := hid hio; have IG := hid hig; have KR := hid hkp
    clear hio hig hkp
    by_cases hlt : k < 2
    · have hltI : (k : Int) < 2 := by omega
      have HX : ∃ (l : List DE) (ao : Option Addr) (cap : Nat), wr.cell? ⟨pb, k, none⟩ = some (.slice ao l.length cap) ∧ Own wr 85 3 (.slice ao l.length cap) l.length (dcells l) ∧ (∀ x ∈ l, DEok H w x) ∧ l.length ≤ 100000 ∧ preL D (k + 1) = preL D k ++ l ∧ (preL D k).length ≤ 200000 := by
        have hA := (KR.out.block pb (row_lt A2.out) (fun h => h)).trans A2.out
        have hI := HI.out
        have kk : Kept (fun _ => False) w wr := K2.out.trans KR.out
        have h1 := HN.out.1; have h2 := HN.out.2
        rcases (by omega : k = 0 ∨ k = 1) with rfl | rfl
        · exact ⟨D.last, lo, lc, row_cell hA 0, hI.ol.kept kk (fun _ _ h => h), hI.el, h1, rfl, by simp [preL]⟩
        · exact ⟨D.since, so, sc, row_cell hA 1, hI.os.kept kk (fun _ _ h => h), hI.es, h2, rfl, by simp [preL]; omega⟩
      obtain ⟨l, ao, cap, hcl, hol, hel, hll, hpn, hpl⟩ := HX
      have HEL := hid hel; clear hel
      have HOL := hid hol; have HPN := hid hpn; have HPL := hid hpl; have HLL := hid hll
      clear hol hll hpn hpl
      go_wp2_with fail
      go_loopw [3, 34] (fun out j wz => ∃ (m : Nat) (a : Option Addr) (c : Nat), m ≤ l.length ∧ j = .int .i64 m ∧ out = .slice a (wrD D (preL D k ++ l.take m)).length c ∧ Own wz 3 1 (.slice a (List.length (wrD D (preL D k ++ l.take m))) c) (List.length (wrD D (preL D k ++ l.take m))) (ints (wrD D (preL D k ++ l.take m))) ∧ (∀ g, (Value.slice a (List.length (wrD D (preL D k ++ l.take m))) c).ownBlock = some g → pb ≤ g) ∧ Kept (fun _ => False) wr wz) (fun _ j _ => l.length - (intOf j).toNat)
      case atStart => exact ⟨0, oa, oc, Nat.zero_le _, rfl, by simp, by simpa using IO.out, by simpa using IG.out, Kept.refl _ _⟩
      case round =>
        rename World => wz
        obtain ⟨m, ma, mc, hm, rfl, rfl, hio, hig, hkp⟩ := hrel
        have JO := hid hio; have JG := hid hig; have KZ := hid hkp
        clear hio hig hkp hcl
        by_cases hlm : m < l.length
        · have hlmI : (m : Int) < (l.length : Int) := by omega
          have hll := HLL.out
          obtain ⟨x, hx⟩ : ∃ x, l[m]? = some x := ⟨_, List.getElem?_eq_getElem hlm⟩
          obtain ⟨g, rfl, g0, g1, g2, gl⟩ := (HOL.out.kept KZ.out (fun g hg h => h)).el3 hx
          have HX := hid hx
          obtain ⟨va, vc, ev⟩ := (HEL.out x (List.mem_of_getElem? hx)).v.isSlice
          rw [ev] at g2
          clear hx ev
          obtain ⟨out, hout⟩ : ∃ out, wrD D (preL D k ++ l.take m) = out := ⟨_, rfl⟩
          rw [hout] at JO JG ⊢
          have HOUT := hid hout
          have HOL2 := hid (show out.length ≤ 400000 by rw [← hout]; refine Nat.le_trans (wrD_len D _) ?_; rw [List.length_append, List.length_take]; have := HPL.out; omega)
          have R3 := hid (row_new wz (.cells #[.int .i64 x.pg, .int .i64 x.pl, .slice va x.bs.length vc] 85))
          have K3 := hid ((Kept.refl (fun _ => False) wz).alloc (.cells #[.int .i64 x.pg, .int .i64 x.pl, .slice va x.bs.length vc] 85))
          obtain ⟨w3, hw3⟩ : ∃ w3, wz.alloc (.cells #[.int .i64 x.pg, .int .i64 x.pl, .slice va x.bs.length vc] 85) = w3 := ⟨_, rfl⟩
          obtain ⟨rb, hrb⟩ : ∃ rb, wz.heap.size = rb := ⟨_, rfl⟩
          rw [hw3] at R3 K3
          rw [hrb] at R3
          have r0 := row_cell R3.out 0
          clear hout
          go_wp2_with fail
          refine (page_any (HA.out.same ((K2.out.trans KR.out).trans (KZ.out.trans K3.out))) HN.out x.pg).mono ?_
          rintro e w4 ⟨nb, rfl, hb4, hl4, hk4⟩
          obtain ⟨pgl, hpgl⟩ : ∃ pgl, D.page x.pg = pgl := ⟨_, rfl⟩
          rw [hpgl] at hb4
          have HPG := hid hpgl
          have HB4 := hid hb4; have K4 := hid hk4
          have HPLN := hid (show pgl.length = 64 by rw [← hpgl]; exact dfold_len (H := H) (w := w) _ _ (fun y hy => by rcases List.mem_append.1 hy with h | h; exact HI.out.el y h; exact HI.out.es y h) zpg_len)
          have R4 := hid ((hk4.block _ (row_lt R3.out) (fun h => h)).trans R3.out)
          have K34 := hid (K3.out.trans hk4)
          have JO4 := hid (JO.out.kept K34.out (fun _ _ h => h))
          clear hpgl hb4 hk4 r0 hw3 g0 g1 g2 hl4
          go_wp2_with fail
          go_loopw [8, 43] (fun z j wy => ∃ t : Nat, t ≤ 64 ∧ j = .int .i64 t ∧ z = .bool ((pgl.take t).all (· == 0)) ∧ w4 = wy) (fun _ j _ => 64 - (intOf j).toNat)
          case atStart => exact ⟨0, by decide, rfl, by simp, rfl⟩
          case round =>
            obtain ⟨t, ht, rfl, rfl, rfl⟩ := hrel
            by_cases htl : t < 64
            · have htI : (t : Int) < 64 := by omega
              obtain ⟨u, hu⟩ : ∃ u, pgl[t]? = some u := ⟨_, List.getElem?_eq_getElem (by rw [HPLN.out]; exact htl)⟩
              have hcu : w4.cell? ⟨nb, t, none⟩ = some (.int .u8 u) := by rw [row_cell HB4.out]; simp [u8s, hu]
              obtain ⟨zb, hzb⟩ : ∃ zb, (pgl.take t).all (· == 0) = zb := ⟨_, rfl⟩
              obtain ⟨ub, hub⟩ : ∃ ub, (u == 0) = ub := ⟨_, rfl⟩
              have hnx : (pgl.take (t + 1)).all (· == 0) = (zb && ub) := by
                rw [List.take_add_one, hu, List.all_append, hzb, ← hub]; simp
              have HNX := hid hnx
              rw [hzb]
              clear hnx hzb hu
              cases zb with
              | true =>
                cases ub with
                | true =>
                  go_wp2
                  go_roundw
                  case rel => exact ⟨t + 1, by omega, by go_num, by rw [HNX.out]; rfl, by first | rfl | trivial⟩
                  case measure => (simp only [intOf]; omega)
                | false =>
                  go_wp2
                  go_roundw
                  case rel => exact ⟨t + 1, by omega, by go_num, by rw [HNX.out]; rfl, by first | rfl | trivial⟩
                  case measure => (simp only [intOf]; omega)
              | false =>
                go_wp2
                go_roundw
                case rel => exact ⟨t + 1, by omega, by go_num, by rw [HNX.out]; rfl, by first | rfl | trivial⟩
                case measure => (simp only [intOf]; omega)
            · have htI : ¬ (t : Int) < 64 := by omega
              have hza : (pgl.take t).all (· == 0) = decide (pgl = zpg) := by rw [List.take_of_length_le (by rw [HPLN.out]; omega)]; exact zero_all HPLN.out
              rw [hza]
              by_cases hz : pgl = zpg
              · have hzd : decide (pgl = zpg) = true := by simp [hz]
                have HZ := hid hz
                rw [hzd]
                clear hza hz hzd
                go_wp2
                go_roundw
                case rel => exact ⟨m + 1, ma, mc, by omega, by go_num, by rw [wrD_take HX.out, HPG.out, if_pos HZ.out, HOUT.out], by rw [wrD_take HX.out, HPG.out, if_pos HZ.out, HOUT.out]; exact JO4.out, by rw [wrD_take HX.out, HPG.out, if_pos HZ.out, HOUT.out]; exact JG.out, KZ.out.trans K34.out⟩
                case measure => (simp only [intOf]; omega)
              · have hzd : decide (pgl = zpg) = false := by simp [hz]
                have HZ := hid hz
                rw [hzd]
                clear hza hz hzd
                go_wp2_with fail
                have r4 := row_cell R4.out 0
                clear r4
                go_loopw [11, 12, 56] (fun nx dn j wy => ∃ (t : Nat) (nl : List Int) (a : Option Addr) (c : Nat) (db : Bool), t ≤ out.length ∧ j = .int .i64 t ∧ nx = .slice a nl.length c ∧ dn = .bool db ∧ Own wy 3 1 (.slice a (List.length (nl)) c) (List.length (nl)) (ints (nl)) ∧ (∀ g, (Value.slice a (List.length (nl)) c).ownBlock = some g → w4.heap.size ≤ g) ∧ insJ db x.pg nl (out.drop t) = ins x.pg out ∧ nl.length ≤ t + 1 ∧ (db = false → nl.length ≤ t) ∧ Kept (fun _ => False) w4 wy) (fun _ _ j _ => out.length - (intOf j).toNat)
                case atStart => exact ⟨0, [], none, 0, false, Nat.zero_le _, rfl, rfl, rfl, Own.nil _ _ _, by simp [Value.ownBlock], by simp [insJ], by simp, fun _ => by simp, Kept.refl _ _⟩
                case round =>
                  rename World => wy
                  obtain ⟨t, nl, na, nc, db, ht, rfl, rfl, rfl, hno, hng, hj, hnl, hnf, hky⟩ := hrel
                  have NO := hid hno; have NG := hid hng; have HJ := hid hj; have HNL := hid (show nl.length ≤ t + 1 ∧ t ≤ out.length from ⟨hnl, ht⟩); have KY := hid hky
                  have hol := HOL2.out
                  have hrp : wy.cell? ⟨rb, 0, none⟩ = some (.int .i64 x.pg) := KY.out.cell (row_cell R4.out 0) (fun h => h)
                  clear hno hng hj hnl hky
                  by_cases hlo : t < out.length
                  · have hloI : (t : Int) < (out.length : Int) := by omega
                    obtain ⟨i, hi⟩ : ∃ i, out[t]? = some i := ⟨_, List.getElem?_eq_getElem hlo⟩
                    obtain ⟨go, rfl, hgo, hgl⟩ := (JO4.out.kept KY.out (fun _ _ h => h)).elI hi
                    have hdr : out.drop t = i :: out.drop (t + 1) := by
                      obtain ⟨h1, h2⟩ := List.getElem?_eq_some_iff.1 hi
                      rw [List.drop_eq_getElem_cons h1, h2]
                    rw [hdr] at HJ
                    clear hdr hi
                    cases db with
                    | true =>
                      clear hnf
                      rw [insJ_yes] at HJ
                      go_wp2_with (at_builtin; refine Hid.out ?_)
                      refine hid ?_
                      refine wpList_app rfl (.tmp 80) (.tmp 82) 47 rfl 3 (.int .i64 0) 1 8 Try.underlying47 infoInt rfl (by decide) (.slice na nl.length nc) nl.length (ints (nl)) rfl (Own.alloc NO.out _) _ rfl 1 (ints [i]) (src_row (by simp [ints]) (fun j u hu => by rw [Nat.zero_add, row_cell (row_new _ _)]; simpa [ints] using hu) (ints_one _)) (by have := HNL.out; have := HOL2.out; simp only [maxLen, List.length_append, List.length_singleton]; omega) (by have := HNL.out; have := HOL2.out; (try simp only [List.length_append, List.length_singleton]); omega) ?_
                      intro qa qc qw ho hk hf _
                      have HOq := hid (show Own qw 3 1 (.slice qa (List.length (nl ++ [i])) qc) (List.length (nl ++ [i])) (ints (nl ++ [i])) by simpa [ints] using ho)
                      have HKq := hid hk
                      have HFq := hid (show ∀ g, (Value.slice qa (List.length (nl ++ [i])) qc).ownBlock = some g → (Value.slice na nl.length nc).ownBlock = some g ∨ _ ≤ g by simpa using hf)
                      clear ho hk hf
                      go_wp2
                      go_roundw
                      case rel =>
                        refine ⟨t + 1, nl ++ [i], qa, qc, true, by omega, by go_num, by simp, by first | rfl | trivial, HOq.out, fun g hg => ?_, HJ.out, by (have := HNL.out; simp only [List.length_append, List.length_singleton]; omega), (fun h => nomatch h), (KY.out.alloc _).trans' HKq.out (fun g hg => .inr (NG.out g hg))⟩
                        have hsz := KY.out.size
                        rcases HFq.out g hg with h | h
                        · exact NG.out g h
                        · (try simp at h); omega
                      case measure => (simp only [intOf]; omega)
                    | false =>
                      have HNT := hid (hnf rfl)
                      clear hnf
                      by_cases hip : i = x.pg
                      · have hb1 : (i == x.pg) = true := by simp [hip]
                        rw [hip] at HJ
                        rw [insJ_eq] at HJ
                        have HJ' := hid (show insJ true x.pg (nl ++ [i]) (out.drop (t + 1)) = ins x.pg out by rw [hip]; exact HJ.out)
                        clear hip HJ
                        have HJ := HJ'
                        clear HJ'
                        go_wp2_with (at_builtin; refine Hid.out ?_)
                        refine hid ?_
                        refine wpList_app rfl (.tmp 80) (.tmp 82) 47 rfl 3 (.int .i64 0) 1 8 Try.underlying47 infoInt rfl (by decide) (.slice na nl.length nc) nl.length (ints (nl)) rfl (Own.alloc NO.out _) _ rfl 1 (ints [i]) (src_row (by simp [ints]) (fun j u hu => by rw [Nat.zero_add, row_cell (row_new _ _)]; simpa [ints] using hu) (ints_one _)) (by have := HNL.out; have := HOL2.out; simp only [maxLen, List.length_append, List.length_singleton]; omega) (by have := HNL.out; have := HOL2.out; (try simp only [List.length_append, List.length_singleton]); omega) ?_
                        intro qa qc qw ho hk hf _
                        have HOq := hid (show Own qw 3 1 (.slice qa (List.length (nl ++ [i])) qc) (List.length (nl ++ [i])) (ints (nl ++ [i])) by simpa [ints] using ho)
                        have HKq := hid hk
                        have HFq := hid (show ∀ g, (Value.slice qa (List.length (nl ++ [i])) qc).ownBlock = some g → (Value.slice na nl.length nc).ownBlock = some g ∨ _ ≤ g by simpa using hf)
                        clear ho hk hf
                        go_wp2
                        go_roundw
                        case rel =>
                          refine ⟨t + 1, nl ++ [i], qa, qc, true, by omega, by go_num, by simp, by first | rfl | trivial, HOq.out, fun g hg => ?_, HJ.out, by (have := HNL.out; simp only [List.length_append, List.length_singleton]; omega), (fun h => nomatch h), (KY.out.alloc _).trans' HKq.out (fun g hg => .inr (NG.out g hg))⟩
                          have hsz := KY.out.size
                          rcases HFq.out g hg with h | h
                          · exact NG.out g h
                          · (try simp at h); omega
                        case measure => (simp only [intOf]; omega)
                      · have hb1 : (i == x.pg) = false := by simp [hip]
                        by_cases hpi : x.pg < i
                        · rw [insJ_lt hip hpi] at HJ
                          clear hip
                          go_wp2_with (at_builtin; refine Hid.out ?_)
                          refine hid ?_
                          refine wpList_app rfl (.tmp 75) (.tmp 78) 47 rfl 3 (.int .i64 0) 1 8 Try.underlying47 infoInt rfl (by decide) (.slice na nl.length nc) nl.length (ints (nl)) rfl (Own.alloc NO.out _) _ rfl 1 (ints [x.pg]) (src_row (by simp [ints]) (fun j u hu => by rw [Nat.zero_add, row_cell (row_new _ _)]; simpa [ints] using hu) (ints_one _)) (by have := HNL.out; have := HOL2.out; simp only [maxLen, List.length_append, List.length_singleton]; omega) (by have := HNL.out; have := HOL2.out; (try simp only [List.length_append, List.length_singleton]); omega) ?_
                          intro pa pc pw ho hk hf _
                          have HOp := hid (show Own pw 3 1 (.slice pa (List.length (nl ++ [x.pg])) pc) (List.length (nl ++ [x.pg])) (ints (nl ++ [x.pg])) by simpa [ints] using ho)
                          have HKp := hid hk
                          have HFp := hid (show ∀ g, (Value.slice pa (List.length (nl ++ [x.pg])) pc).ownBlock = some g → (Value.slice na nl.length nc).ownBlock = some g ∨ _ ≤ g by simpa using hf)
                          clear ho hk hf
                          go_wp2_with (at_builtin; refine Hid.out ?_)
                          refine hid ?_
                          refine wpList_app rfl (.tmp 80) (.tmp 82) 47 rfl 3 (.int .i64 0) 1 8 Try.underlying47 infoInt rfl (by decide) (.slice pa (nl.length + 1) pc) (nl.length + 1) (ints ((nl ++ [x.pg]))) rfl (Own.alloc (by simpa using HOp.out) _) _ rfl 1 (ints [i]) (src_row (by simp [ints]) (fun j u hu => by rw [Nat.zero_add, row_cell (row_new _ _)]; simpa [ints] using hu) (ints_one _)) (by have := HNL.out; have := HOL2.out; simp only [maxLen, List.length_append, List.length_singleton]; omega) (by have := HNL.out; have := HOL2.out; (try simp only [List.length_append, List.length_singleton]); omega) ?_
                          intro qa qc qw ho hk hf _
                          have HOq := hid (show Own qw 3 1 (.slice qa (List.length ((nl ++ [x.pg]) ++ [i])) qc) (List.length ((nl ++ [x.pg]) ++ [i])) (ints ((nl ++ [x.pg]) ++ [i])) by simpa [ints] using ho)
                          have HKq := hid hk
                          have HFq := hid (show ∀ g, (Value.slice qa (List.length ((nl ++ [x.pg]) ++ [i])) qc).ownBlock = some g → (Value.slice pa (nl.length + 1) pc).ownBlock = some g ∨ _ ≤ g by simpa using hf)
                          clear ho hk hf
                          go_wp2
                          go_roundw
                          case rel =>
                            refine ⟨t + 1, nl ++ [x.pg] ++ [i], qa, qc, true, by omega, by go_num, by simp, by first | rfl | trivial, HOq.out, fun g hg => ?_, HJ.out, by (have := HNT.out; simp only [List.length_append, List.length_singleton]; omega), (fun h => nomatch h), ?_⟩
                            · have hsz := KY.out.size; have hsz2 := HKp.out.size
                              rcases HFq.out g hg with h | h
                              · rcases HFp.out g (by simpa using h) with h | h
                                · exact NG.out g h
                                · (try simp at h); (try simp at hsz2); omega
                              · (try simp at h); (try simp at hsz2); omega
                            · have hsz := KY.out.size
                              exact ((((KY.out.alloc _).trans' HKp.out (fun g hg => .inr (NG.out g hg))).alloc _).trans' HKq.out (fun g hg => by
                                rcases HFp.out g (by simpa using hg) with h | h
                                · exact .inr (NG.out g h)
                                · (try simp at h); right; omega))
                          case measure => (simp only [intOf]; omega)
                        · rw [insJ_gt hip hpi] at HJ
                          clear hip
                          go_wp2_with (at_builtin; refine Hid.out ?_)
                          refine hid ?_
                          refine wpList_app rfl (.tmp 80) (.tmp 82) 47 rfl 3 (.int .i64 0) 1 8 Try.underlying47 infoInt rfl (by decide) (.slice na nl.length nc) nl.length (ints (nl)) rfl (Own.alloc NO.out _) _ rfl 1 (ints [i]) (src_row (by simp [ints]) (fun j u hu => by rw [Nat.zero_add, row_cell (row_new _ _)]; simpa [ints] using hu) (ints_one _)) (by have := HNL.out; have := HOL2.out; simp only [maxLen, List.length_append, List.length_singleton]; omega) (by have := HNL.out; have := HOL2.out; (try simp only [List.length_append, List.length_singleton]); omega) ?_
                          intro qa qc qw ho hk hf _
                          have HOq := hid (show Own qw 3 1 (.slice qa (List.length (nl ++ [i])) qc) (List.length (nl ++ [i])) (ints (nl ++ [i])) by simpa [ints] using ho)
                          have HKq := hid hk
                          have HFq := hid (show ∀ g, (Value.slice qa (List.length (nl ++ [i])) qc).ownBlock = some g → (Value.slice na nl.length nc).ownBlock = some g ∨ _ ≤ g by simpa using hf)
                          clear ho hk hf
                          go_wp2
                          go_roundw
                          case rel =>
                            refine ⟨t + 1, nl ++ [i], qa, qc, false, by omega, by go_num, by simp, by first | rfl | trivial, HOq.out, fun g hg => ?_, HJ.out, by (have := HNL.out; simp only [List.length_append, List.length_singleton]; omega), (fun _ => by have := HNT.out; simp only [List.length_append, List.length_singleton]; omega), (KY.out.alloc _).trans' HKq.out (fun g hg => .inr (NG.out g hg))⟩
                            have hsz := KY.out.size
                            rcases HFq.out g hg with h | h
                            · exact NG.out g h
                            · (try simp at h); omega
                          case measure => (simp only [intOf]; omega)
                  · obtain rfl : t = out.length := by omega
                    rw [List.drop_length] at HJ
                    clear hnf
                    have hws : wrD D (preL D k ++ l.take (m + 1)) = ins x.pg out := by rw [wrD_take HX.out, HPG.out, if_neg HZ.out, HOUT.out]
                    have HWS := hid hws
                    clear hws
                    have hsz4 := K34.out.size
                    have hszz := KZ.out.size
                    have hszr := KR.out.size
                    have hsz2 := K2.out.size
                    cases db with
                    | true =>
                      have hnl2 : nl = ins x.pg out := by have := HJ.out; simpa [insJ] using this
                      have HNL2 := hid hnl2
                      clear hnl2
                      go_wp2
                      go_roundw
                      case rel => exact ⟨m + 1, na, nc, by omega, by go_num, by rw [HWS.out, HNL2.out], by rw [HWS.out, ← HNL2.out]; exact NO.out, by rw [HWS.out, ← HNL2.out]; exact fun g hg => by have := NG.out g hg; omega, (KZ.out.trans K34.out).trans KY.out⟩
                      case measure => (simp only [intOf]; omega)
                    | false =>
                      have hnl2 : nl ++ [x.pg] = ins x.pg out := by have := HJ.out; simpa [insJ, ins] using this
                      have HNL2 := hid hnl2
                      clear hnl2
                      go_wp2_with (at_builtin; refine Hid.out ?_)
                      refine hid ?_
                      refine wpList_app rfl (.tmp 87) (.tmp 90) 47 rfl 3 (.int .i64 0) 1 8 Try.underlying47 infoInt rfl (by decide) (.slice na nl.length nc) nl.length (ints (nl)) rfl (Own.alloc NO.out _) _ rfl 1 (ints [x.pg]) (src_row (by simp [ints]) (fun j u hu => by rw [Nat.zero_add, row_cell (row_new _ _)]; simpa [ints] using hu) (ints_one _)) (by have := HNL.out; have := HOL2.out; simp only [maxLen, List.length_append, List.length_singleton]; omega) (by have := HNL.out; have := HOL2.out; (try simp only [List.length_append, List.length_singleton]); omega) ?_
                      intro qa qc qw ho hk hf _
                      have HOq := hid (show Own qw 3 1 (.slice qa (List.length (nl ++ [x.pg])) qc) (List.length (nl ++ [x.pg])) (ints (nl ++ [x.pg])) by simpa [ints] using ho)
                      have HKq := hid hk
                      have HFq := hid (show ∀ g, (Value.slice qa (List.length (nl ++ [x.pg])) qc).ownBlock = some g → (Value.slice na nl.length nc).ownBlock = some g ∨ _ ≤ g by simpa using hf)
                      clear ho hk hf
                      go_wp2
                      go_roundw
                      case rel =>
                        refine ⟨m + 1, qa, qc, by omega, by go_num, by rw [HWS.out, ← HNL2.out]; simp, by rw [HWS.out, ← HNL2.out]; exact HOq.out, ?_, ?_⟩
                        · rw [HWS.out, ← HNL2.out]
                          intro g hg
                          have hsz := KY.out.size
                          rcases HFq.out g hg with h | h
                          · have := NG.out g h; omega
                          · (try simp at h); omega
                        · exact ((KZ.out.trans K34.out).trans (KY.out.alloc _)).trans' HKq.out (fun g hg => .inr (by have := NG.out g hg; omega))
                      case measure => (simp only [intOf]; omega)
        · obtain rfl : m = l.length := by omega
          rw [List.take_length] at JO JG
          rw [List.take_length]
          go_wp2
          go_roundw
          case rel => exact ⟨k + 1, ma, mc, by omega, by go_num, by rw [HPN.out], by rw [HPN.out]; exact JO.out, by rw [HPN.out]; exact JG.out, KR.out.trans KZ.out⟩
          case measure => (simp only [intOf]; omega)
    · obtain rfl : k = 2 := by omega
      have IO2 := hid (show Own wr 3 1 (.slice oa (wrD D (D.last ++ D.since)).length oc) _ _ from IO.out)
      go_wp2
      go_ret
      exact ⟨oa, oc, rfl, IO2.out, fun g hg => by have := HPB.out; have := IG.out g hg; omega, K2.out.trans KR.out⟩
end Go.Proofs.Ytnfdkpjklenllaa
