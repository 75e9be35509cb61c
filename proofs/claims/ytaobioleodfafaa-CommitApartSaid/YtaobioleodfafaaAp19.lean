/- Texts of this claim, merged: So, Do. -/
import Derived.Shelf.SlSortCmp.NoneTotal
import Derived.Test.YtaobioleodfafaaAp1
import Derived.Test.YtaobioleodfafaaAp2
import Derived.Test.YtaobioleodfafaaAp3
import Derived.Test.YtaobioleodfafaaAp4
import Derived.Test.YtaobioleodfafaaAp5
import Derived.Test.YtaobioleodfafaaAp6
import Derived.Test.YtaobioleodfafaaAp7
import Derived.Test.YtaobioleodfafaaAp8
import Derived.Test.YtaobioleodfafaaAp9
import Derived.Test.YtaobioleodfafaaAp10
import Derived.Test.YtaobioleodfafaaAp11
import Derived.Test.YtaobioleodfafaaAp12
import Derived.Test.YtaobioleodfafaaAp13
import Derived.Test.YtaobioleodfafaaAp14
import Derived.Test.YtaobioleodfafaaAp15
import Derived.Test.YtaobioleodfafaaAp16
import Derived.Test.YtaobioleodfafaaAp18
/- slices.SortFunc at TxIDs. -/
namespace Go.Proofs.Ytaobioleodfafaa
open Go.RowKit Go.Shelf
theorem ltOf_ordT (x y : Tx) : ltOf ordT x y = decide (ltT x y) := by
  unfold ltOf
  by_cases h : ltT x y
  · have := ordT_neg.2 h; simp [h, this]
  · have : ¬ ordT x y < 0 := fun h1 => h (ordT_neg.1 h1)
    simp [h]; omega
theorem swoT : Go.Sort.SWO (ltOf ordT) where
  irrefl x := by rw [ltOf_ordT]; simpa using ltT_irrefl x
  trans x y z h1 h2 := by rw [ltOf_ordT, decide_eq_true_eq] at *; exact ltT_trans h1 h2
  ntrans x y z h1 h2 := by rw [ltOf_ordT, decide_eq_false_iff_not] at *; exact ltT_ntrans h1 h2
theorem tot_T (x y : Tx) (h1 : ltOf ordT x y = false) (h2 : ltOf ordT y x = false) : x = y := by
  rw [ltOf_ordT, decide_eq_false_iff_not] at h1 h2
  exact ltT_total h1 h2
def encT (x : Tx) : List Value := [.int .u8 x.1, .int .u32 x.2.1, .int .u32 x.2.2]
theorem cmpLaysT (blk off size : Nat) (w : World) : Go.Proofs.CmpLays Try.prog 46 #[] encT 3 ordT blk off size w :=
  fun _ _ _ _ x y => order_grow x y _
def sortT (L : List Tx) : List Tx := L.mergeSort fun x y => !(ltOf ordT) y x
theorem sortT_len (L : List Tx) : (sortT L).length = L.length := List.length_mergeSort _
theorem kept_sort (w : World) (blk off n : Nat) (d : Array Tx) (os : Array Obj) : Kept (fun i => i = blk) w (sortWorldK encT 3 w blk off n d os) := by
  refine ⟨rfl, rfl, rfl, ?_, fun i hi hn => ?_⟩
  · simp [sortWorldK, Go.Sort.grow, Go.Sort.putRowK, Go.Sort.putRow, Go.Sort.ahead, Go.Sort.mapBlock]
  · simp only [sortWorldK, Go.Sort.grow, Go.Sort.putRowK, Go.Sort.putRow, Go.Sort.ahead, Go.Sort.mapBlock]
    rw [Array.getElem?_append_left (by simpa using hi), Array.getElem?_modify]
    simp [Ne.symm hn]
theorem holds_sort {w : World} {blk off : Nat} {d0 d : Array Tx} (n : Nat) (os : Array Obj) (hb : blk < w.heap.size) (h : Go.Sort.HoldsK encT 3 w blk off d0) (hs : d.size = d0.size) : Go.Sort.HoldsK encT 3 (sortWorldK encT 3 w blk off n d os) blk off d := by
  refine Go.Sort.holdsK_grow encT 3 _ os blk off d ?_ (Go.Sort.holdsK_putRowK encT 3 _ blk off d0 d (Go.Sort.holdsK_ahead encT 3 w n blk off d0 h) hs)
  simpa [Go.Sort.putRowK, Go.Sort.putRow, Go.Sort.ahead, Go.Sort.mapBlock] using hb
theorem flatT_get {L : List Tx} {j : Nat} (hj : j < L.length * 3) : (L.flatMap encT)[j]? = some ((encT L.toArray[j / 3]!)[j % 3]!) := by
  have hi : j / 3 < L.length := by omega
  have h := flat_at (f := encT) (m := 3) (fun _ => rfl) L (j / 3) (j % 3) L[j / 3] (List.getElem?_eq_getElem hi) (Nat.mod_lt _ (by decide))
  rw [show j / 3 * 3 + j % 3 = j from by omega] at h
  rw [h]
  have e : L.toArray[j / 3]! = L[j / 3] := by simp [hi]
  rw [e]
  have hr : j % 3 < (encT L[j / 3]).length := by simp [encT]; omega
  rw [List.getElem?_eq_getElem hr]
  simp [hr]
theorem holds_of_own {w : World} {g cap : Nat} {cur : Array Value} {L : List Tx} (h : w.heap[g]? = some (.cells cur 28 (0, 0))) (hs : cur.size = cap * 3) (hc : L.length ≤ cap) (he : cur.toList.take (L.length * 3) = L.flatMap encT) : Go.Sort.HoldsK encT 3 w g 0 L.toArray := by
  intro j hj
  rw [Go.Sort.size_flatK] at hj
  have hj' : j < L.length * 3 := by simpa using hj
  refine ⟨?_, row_free h _⟩
  rw [row_cell h, Go.Sort.get_flatK _ _ _ _ hj, Nat.zero_add]
  have h1 := flatT_get hj'
  rw [← he, List.getElem?_take, if_pos hj'] at h1
  simpa using h1
set_option maxHeartbeats 1000000 in
theorem sortfunc_tot (blk off cap : Nat) (d : Array Tx) (w : World) (hH : Go.Sort.HoldsK encT 3 w blk off d) (hblk : blk < w.heap.size) (hsz : d.size < 4611686018427387904) :
    Calls Try.prog 45 #[.slice (some ⟨blk, off, none⟩) d.size cap, .func (.func 46) #[] #[]] w fun e w' => e = .returned (.tuple #[]) ∧ ∃ n os, w' = sortWorldK encT 3 w blk off n (sortT d.toList).toArray os := by
  have eg : ∀ args w, (callFunc 46 args).run Try.prog w = .ok (.enter 46 args) w := enters_of Try.func46 (by kernel_rfl) rfl
  exact AnyQ.slices_SortFunc_total Try.sortL 3 Try.isAgg28 Try.sizeOf28 encT (fun _ => rfl) (fun x v hv => by simp [encT] at hv; rcases hv with rfl | rfl | rfl <;> rfl) ordT swoT 46 #[] blk off cap d w eg (cmpLaysT blk off d.size w) hH hblk hsz tot_T
set_option maxHeartbeats 1000000 in
theorem sortfunc_nil (w : World) : Calls Try.prog 45 #[.slice none 0 0, .func (.func 46) #[] #[]] w fun e w' => e = .returned (.tuple #[]) ∧ w' = w :=
  AnyF.slices_SortFunc_none Try.sortL none 0 _ w
/-- a list of TxIDs that is sorted: where it lies -/
def SlT (B : Nat) (w : World) (a : Option Addr) (N c : Nat) (D : List Tx) : Prop := D.length = N ∧ N ≤ c ∧ c ≤ maxLen ∧ ((N = 0 ∧ a = none ∧ c = 0) ∨ ∃ g, a = some ⟨g, 0, none⟩ ∧ B ≤ g ∧ g < w.heap.size ∧ Go.Sort.HoldsK encT 3 w g 0 D.toArray)
end Go.Proofs.Ytaobioleodfafaa
/- Doubt. -/
namespace Go.Proofs.Ytaobioleodfafaa
open Go.RowKit Go.Shelf
theorem infoT : (Try.prog.info? 28).map (fun i => (i.zero, i.size, i.bytes)) = some (some (txv (0, 0, 0)), 3, 12) := by kernel_rfl
def kv2 (p : Tx × Int) : Value × Value := (txv p.1, .int .i64 p.2)
theorem MapT.mapOf {w : World} {b : Nat} {L : List (Tx × Value)} (h : MapT w b L) : MapOf w b (L.map fun p => (txv p.1, p.2)) := by
  obtain ⟨es, clock, hb, he, _, hs⟩ := h
  exact ⟨es, clock, hb, hs, he⟩
def heldL (K : List (Tx × Int)) : List Tx := (K.filter fun p => p.2 == 2).map (·.1)
theorem tx_src (w : World) (x1 x2 x3 : Int) {b : Nat} (hb : w.heap.size = b) : Src (w.alloc (.cells #[.int .u8 x1, .int .u32 x2, .int .u32 x3] 28)) 3 (.slice (some ⟨b, 0, none⟩) 1 1) 1 (encT (x1, x2, x3)) := by
  subst hb
  exact src_row rfl (fun j u hu => by rw [row_cell (row_new w _)]; simpa [encT] using hu) (by simp [encT, Value.oneCell'])
theorem heldL_cons (p : Tx × Int) (K : List (Tx × Int)) : heldL (p :: K) = if p.2 = 2 then p.1 :: heldL K else heldL K := by
  unfold heldL
  by_cases h : p.2 = 2 <;> simp [h]
theorem erase_perm {α : Type} : ∀ (l : List α) (i : Nat) (x : α), l[i]? = some x → (x :: l.eraseIdx i).Perm l
  | [], _, _, h => by simp at h
  | y :: l, 0, x, h => by simp at h; subst h; simp
  | y :: l, i + 1, x, h => by
    rw [List.eraseIdx_cons_succ]
    exact (List.Perm.swap y x _).trans ((erase_perm l i x (by simpa using h)).cons y)
theorem heldL_erase {RK : List (Tx × Int)} {i : Nat} {p : Tx × Int} (h : RK[i]? = some p) : (heldL (p :: RK.eraseIdx i)).Perm (heldL RK) := by
  unfold heldL
  exact ((erase_perm RK i p h).filter _).map _
theorem sortT_pair (L : List Tx) : (sortT L).Pairwise (fun x y => ¬ ltT y x) := by
  have h : (sortT L).Pairwise (fun x y => !(ltOf ordT) y x) := List.pairwise_mergeSort (le := fun x y => !(ltOf ordT) y x)
    (fun x y z h1 h2 => by
      simp only [ltOf_ordT, Bool.not_eq_true', decide_eq_false_iff_not] at h1 h2 ⊢
      exact ltT_ntrans h2 h1)
    (fun x y => by
      simp only [ltOf_ordT, Bool.or_eq_true, Bool.not_eq_true', decide_eq_false_iff_not]
      by_cases h : ltT y x
      · exact .inr (fun h2 => ltT_irrefl _ (ltT_trans h h2))
      · exact .inl h) L
  refine h.imp (fun {x y} hxy => ?_)
  simpa [ltOf_ordT] using hxy
section
variable {own : Nat → Option Tx} {B : Nat} {w : World} {bb m1 m2 : Nat} {G : List (Tx × Rn)} {A : Tx → Ad} {K : List (Tx × Int)}
set_option maxRecDepth 100000 in
set_option maxHeartbeats 1000000 in
theorem gdoubt_any (hb : GBook own B w bb m1 m2 G A K) (hK : K.length ≤ 1000000) :
    Calls Try.prog 30 #[.pointer (some ⟨bb, 0, none⟩)] w fun e w' => ∃ (a : Option Addr) (n c : Nat) (D : List Tx), e = .returned (.slice a n c) ∧ SlT w.heap.size w' a n c D ∧ D.Perm (heldL K) ∧ D.Pairwise (fun x y => ¬ ltT y x) ∧ Kept (fun _ => False) w w' := by
  have HB := hid hb
  obtain ⟨c0, c1⟩ := hb.cells
  have hmo : MapOf w m2 (K.map kv2) := by
    have h := hb.map2.mapOf
    rw [List.map_map] at h
    exact h
  have HMO := hid hmo
  clear hb hmo c0
  go_enter Try.func30, Try.ntmps30
  go_wp2_with (refine wpList_rng rfl _ 52 rfl 28 3 Try.underlying52 m2 _ rfl HMO.out ?_; intro w1 hrg hk1 hz1; have RG := hid hrg; have K1 := hid hk1; have HK1 := hid hk1; clear hrg hk1)
  obtain ⟨it, hit⟩ : ∃ it, w.heap.size = it := ⟨_, rfl⟩
  rw [hit] at RG ⊢
  have HIT := hid (Nat.le_of_eq hit)
  clear hit hz1 c1
  go_frame
  go_loopw [3] (fun o wr => ∃ (RK : List (Tx × Int)) (a : Option Addr) (n c : Nat) (L : List Tx), o = .slice a n c ∧ RngOf wr m2 it (K.map kv2) (RK.map kv2) ∧ n + RK.length ≤ K.length ∧ L.length = n ∧ (L ++ heldL RK).Perm (heldL K) ∧ Own wr 28 3 (.slice a n c) n (L.flatMap encT) ∧ (∀ b, (Value.slice a n c).ownBlock = some b → it < b) ∧ Kept (fun _ => False) w wr) (fun _ wr => rngLeft wr m2 it)
  case atStart => exact ⟨K, none, 0, 0, [], rfl, RG.out, by simp, rfl, by simp, Own.nil _ _ _, fun b h => by simp [Value.ownBlock] at h, K1.out⟩
  case round =>
    rename World => wr
    obtain ⟨RK, a, n, c, L, rfl, hrg, hle, hln, hpm, hown, hbl, hkp⟩ := hrel
    have RR := hid hrg; have HLE := hid hle; have HLN := hid hln; have HPM := hid hpm; have HO := hid hown; have HBL := hid hbl; have KR := hid hkp
    have MW := hid hrg.left
    obtain ⟨R, hR⟩ : ∃ R, RK.map kv2 = R := ⟨_, rfl⟩
    rw [hR] at RR MW
    have HR := hid hR
    clear hR
    clear hrg hle hln hpm hown hbl hkp RG K1
    go_wp2_with (refine wpList_nxt rfl _ rfl m2 it _ _ rfl RR.out ?_ ?_)
    · intro hR0
      have hRK := hid (show RK = [] by have h := HR.out; rw [hR0] at h; simpa using h)
      clear hR0
      have hpl := HPM.out
      rw [hRK.out] at hpl
      have hpl2 : L.Perm (heldL K) := by simpa [heldL] using hpl
      have HPL := hid (show (sortT L).Perm (heldL K) from (List.mergeSort_perm L _).trans hpl2)
      have HPW := hid (sortT_pair L)
      rcases HO.out.shape with ⟨h1, h0, _⟩ | ⟨g, cap, cur, h1, hg, q1, q2, q3, q4⟩
      · simp only [Value.slice.injEq] at h1
        obtain ⟨rfl, h0', rfl⟩ := h1
        have HL0 := hid (show (sortT L).length = 0 by rw [sortT_len, HLN.out, h0])
        clear h0 hpl hpl2
        subst h0'
        go_wp2_with fail
        refine (sortfunc_nil wr).mono ?_; rintro e w' ⟨rfl, rfl⟩
        go_wp2
        go_ret
        exact ⟨none, 0, 0, sortT L, rfl, ⟨HL0.out, Nat.le_refl _, by decide, .inl ⟨rfl, rfl, rfl⟩⟩, HPL.out, HPW.out, KR.out⟩
      · simp only [Value.slice.injEq] at h1
        obtain ⟨rfl, _, rfl⟩ := h1
        have hln := HLN.out
        have hH : Go.Sort.HoldsK encT 3 wr g 0 L.toArray := holds_of_own hg q3 (by rw [hln]; exact q1) (by rw [hln]; exact q4)
        have HH := hid hH
        have hbase : w.heap.size ≤ g := by have := HBL.out g rfl; have := HIT.out; omega
        have HC := hid (show n ≤ c ∧ c ≤ maxLen ∧ w.heap.size ≤ g ∧ g < wr.heap.size from ⟨q1, q2, hbase, row_lt hg⟩)
        have hcs := hid (sortfunc_tot g 0 c L.toArray wr hH (row_lt hg) (by have := HLE.out; simp; omega))
        have hds : L.toArray.size = n := by simp [hln]
        rw [hds] at hcs
        clear hg q1 q2 q3 q4 hH hbase hln hds hpl hpl2
        go_wp2_with fail
        refine hcs.out.mono ?_
        rintro e w' ⟨rfl, m, os, rfl⟩
        have hk := kept_sort wr g 0 m (sortT L.toArray.toList).toArray os
        have hh := holds_sort (d := (sortT L.toArray.toList).toArray) m os HC.out.2.2.2 HH.out (by simp [sortT_len])
        obtain ⟨w2, hw2⟩ : ∃ w2, sortWorldK encT 3 wr g 0 m (sortT L.toArray.toList).toArray os = w2 := ⟨_, rfl⟩
        rw [hw2] at hk hh ⊢
        have K2 := hid (KR.out.trans' hk (fun i e => .inr (by rw [e]; exact HC.out.2.2.1)))
        have HH2 := hid hh; have HZ := hid (Nat.lt_of_lt_of_le HC.out.2.2.2 hk.size)
        clear hk hh hw2 hcs
        go_wp2
        go_ret
        exact ⟨some ⟨g, 0, none⟩, n, c, sortT L, rfl, ⟨by rw [sortT_len]; exact HLN.out, HC.out.1, HC.out.2.1, .inr ⟨g, rfl, HC.out.2.2.1, HZ.out, HH2.out⟩⟩, HPL.out, HPW.out, K2.out⟩
    · intro i kv v w2 hi hrg2 hk2 hz2 hen
      have hi' := hi
      rw [← HR.out, List.getElem?_map] at hi'
      obtain ⟨⟨⟨x1, x2, x3⟩, s⟩, hi1, hi2⟩ := Option.map_eq_some_iff.1 hi'
      simp only [kv2, txv, Prod.mk.injEq] at hi2
      obtain ⟨rfl, rfl⟩ := hi2
      clear hi'
      have HI := hid hi1
      have hmz : rngLeft w2 m2 it < rngLeft wr m2 it := by
        rw [hrg2.left, MW.out, List.length_eraseIdx]
        have := (List.getElem?_eq_some_iff.1 hi).1
        split <;> omega
      have HMZ := hid hmz
      have hrg3 : RngOf w2 m2 it (K.map kv2) ((RK.eraseIdx i).map kv2) := by
        rw [map_eraseIdx_of, HR.out]
        exact hrg2
      have HG2 := hid hrg3
      have K2 := hid (KR.out.trans' hk2 (fun j e => .inr (by have := HIT.out; omega)))
      have hO2 : Own w2 28 3 (.slice a n c) n (L.flatMap encT) := HO.out.kept hk2 (fun g hg e => by
        obtain ⟨cur, hcur⟩ := HO.out.block hg
        obtain ⟨o, ho, hw⟩ := RR.out.walk
        rw [e, ho] at hcur
        cases hcur
        cases hw)
      have HO2 := hid hO2
      have HZ2 := hid hz2
      have HPM2 := hid ((List.Perm.append_left L (heldL_erase hi1)).trans HPM.out)
      have HLE2 := hid (show n + 1 + (RK.eraseIdx i).length ≤ K.length by
        have h1 := HLE.out
        have h2 := (List.getElem?_eq_some_iff.1 hi1).1
        rw [List.length_eraseIdx, if_pos h2]
        omega)
      have K12 := hid HK1.out.size
      obtain ⟨b2, hb2⟩ : ∃ b, (s == 2) = b := ⟨_, rfl⟩
      have HB2 := hid hb2
      clear hi hi1 hrg2 hrg3 hk2 hO2 hmz HR MW RR HPM HLE HO
      cases b2 with
      | true =>
        have hs2 : s = 2 := by simpa using HB2.out
        have hn6 : n + 1 ≤ 1000000 := by have := HLE2.out; omega
        have hpp : (L ++ [(x1, x2, x3)] ++ heldL (RK.eraseIdx i)).Perm (heldL K) := by
          have h := HPM2.out
          rw [heldL_cons, if_pos hs2] at h
          rw [List.append_assoc]
          exact h
        have HPP := hid hpp
        have hfl : (L ++ [(x1, x2, x3)]).flatMap encT = L.flatMap encT ++ encT (x1, x2, x3) := by simp
        have HFL := hid hfl
        clear hs2 hpp hfl
        go_wp2_with (at_builtin; refine wpList_app rfl _ _ 76 rfl 28 (txv (0, 0, 0)) 3 12 Try.underlying76 infoT rfl (by decide) (.slice a n c) n _ rfl (by exact (HO2.out.alloc _).alloc _) _ rfl 1 _ (tx_src _ x1 x2 x3 (by simp [HZ2.out])) (by unfold maxLen; omega) (by omega) ?_; intro a' c' w6 ho3 hk3 hf3 _; have HA3 := hid ho3; have HK3 := hid hk3; have HF3 := hid hf3; clear ho3 hk3 hf3)
        have HG6 := hid (show RngOf w6 m2 it (K.map kv2) ((RK.eraseIdx i).map kv2) from by
          have k3 : Kept (fun i => (Value.slice a n c).ownBlock = some i) w2 w6 := (((Kept.refl _ w2).alloc _).alloc _).trans HK3.out
          refine HG2.out.kept k3 (fun e => ?_) (fun e => ?_)
          · have h1 := HBL.out m2 e; have := HB.out.map2.lt; have := HIT.out; omega
          · have h1 := HBL.out it e; omega)
        go_roundw
        case rel =>
          refine ⟨RK.eraseIdx i, a', n + 1, c', L ++ [(x1, x2, x3)], rfl, HG6.out, by have := HLE2.out; omega, by rw [List.length_append, HLN.out]; rfl, HPP.out, by rw [HFL.out]; exact HA3.out, fun b hb => ?_, ?_⟩
          · rcases HF3.out b hb with h | h
            · exact HBL.out b h
            · have := HG2.out.lt.1; simp at h; omega
          · exact ((K2.out.alloc _).alloc _).trans' HK3.out (fun i hi => .inr (by have := HBL.out i hi; have := HIT.out; omega))
        case measure => have h1 := HG6.out.left; have h2 := HG2.out.left; have h3 := HMZ.out; omega
      | false =>
        have hs2 : ¬ s = 2 := by simpa using HB2.out
        have hpp := hid (show (L ++ heldL (RK.eraseIdx i)).Perm (heldL K) by
          have h := HPM2.out
          rw [heldL_cons, if_neg hs2] at h
          exact h)
        clear hs2
        have HG6 := hid (fun o => show RngOf (w2.alloc o) m2 it (K.map kv2) ((RK.eraseIdx i).map kv2) from HG2.out.kept ((Kept.refl (fun _ => False) w2).alloc _) id id)
        go_wp2_with fail
        go_roundw
        case rel => exact ⟨RK.eraseIdx i, a, n, c, L, rfl, HG6.out _, by have := HLE2.out; omega, HLN.out, hpp.out, HO2.out.alloc _, HBL.out, K2.out.alloc _⟩
        case measure => have h1 := (HG6.out (.cells #[.int .u8 x1, .int .u32 x2, .int .u32 x3] 28)).left; have h2 := HG2.out.left; have h3 := HMZ.out; omega
end
end Go.Proofs.Ytaobioleodfafaa
