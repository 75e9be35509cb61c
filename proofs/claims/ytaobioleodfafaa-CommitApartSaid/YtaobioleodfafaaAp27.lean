/- PROVED: the law CommitApart returns true for every input and leaves its arguments as they were. No condition. -/
/- Texts of this claim, merged: Dq, Dr, Ds, G, H, Dt, Du, Dv, Dx, Apart. -/
import Derived.Deep.CutBlock
import Derived.Deep.RegionHeld3
import Derived.HandedShaped
import Derived.Test.YtaobioleodfafaaAp1
import Derived.Test.YtaobioleodfafaaAp2
import Derived.Test.YtaobioleodfafaaAp3
import Derived.Test.YtaobioleodfafaaAp4
import Derived.Test.YtaobioleodfafaaAp5
import Derived.Test.YtaobioleodfafaaAp6
import Derived.Test.YtaobioleodfafaaAp7
import Derived.Test.YtaobioleodfafaaAp8
import Derived.Test.YtaobioleodfafaaAp9
import Derived.Test.YtaobioleodfafaaAp10
import Derived.Test.YtaobioleodfafaaAp11
import Derived.Test.YtaobioleodfafaaAp12
import Derived.Test.YtaobioleodfafaaAp13
import Derived.Test.YtaobioleodfafaaAp14
import Derived.Test.YtaobioleodfafaaAp15
import Derived.Test.YtaobioleodfafaaAp16
import Derived.Test.YtaobioleodfafaaAp17
import Derived.Test.YtaobioleodfafaaAp18
import Derived.Test.YtaobioleodfafaaAp19
import Derived.Test.YtaobioleodfafaaAp20
import Derived.Test.YtaobioleodfafaaAp21
import Derived.Test.YtaobioleodfafaaAp22
import Derived.Test.YtaobioleodfafaaAp23
import Derived.Test.YtaobioleodfafaaAp24
import Derived.Test.YtaobioleodfafaaAp25
import Derived.Test.YtaobioleodfafaaAp26
/- SameTxs; two books at once. -/
namespace Go.Proofs.Ytaobioleodfafaa
open Go.RowKit
theorem encT_one (L : List Tx) : ∀ u ∈ L.flatMap encT, u.oneCell' = true := by
  intro u hu
  obtain ⟨x, _, hu⟩ := List.mem_flatMap.1 hu
  simp [encT] at hu
  rcases hu with rfl | rfl | rfl <;> rfl
theorem SlT.lies {B : Nat} {w : World} {a : Option Addr} {N c : Nat} {D : List Tx} (h : SlT B w a N c D) : Lies (fun _ => False) w 3 (.slice a N c) N (D.flatMap encT) := by
  obtain ⟨h1, h2, h3, h4⟩ := h
  refine ⟨a, c, rfl, h2, h3, ?_, fun ha => ?_, fun hm => ?_, encT_one D⟩
  · rw [flat_len (f := encT) (m := 3) (fun _ => rfl), h1]
  · rcases h4 with ⟨h, _, h'⟩ | ⟨g, e, _⟩
    · exact ⟨h, h'⟩
    · rw [e] at ha; cases ha
  · rcases h4 with ⟨h, _⟩ | ⟨g, e, _, hg, hH⟩
    · omega
    · refine ⟨g, 0, e, id, hg, fun j u hu => ?_⟩
      have hj : j < D.length * 3 := by
        have h := (List.getElem?_eq_some_iff.1 hu).1
        have hl : (D.flatMap encT).length = D.length * 3 := flat_len (f := encT) (m := 3) (fun _ => rfl) D
        omega
      rw [flatT_get hj] at hu
      have h := (hH j (by simpa using hj)).1
      rw [Go.Sort.get_flatK _ _ _ _ (by simpa using hj)] at h
      rw [h]; exact hu
theorem tx_cells {F : Nat → Prop} {w w' : World} {a : Option Addr} {N c : Nat} {L : List Tx} (h : Lies F w 3 (.slice a N c) N (L.flatMap encT)) (hN : L.length = N) (k : Kept (fun _ => False) w w') {j : Nat} {x : Tx} (hx : L[j]? = some x) :
    ∃ g o, a = some ⟨g, o, none⟩ ∧ w'.cell? ⟨g, o + j * 3, none⟩ = some (.int .u8 x.1) ∧ w'.cell? ⟨g, o + j * 3 + 1, none⟩ = some (.int .u32 x.2.1) ∧ w'.cell? ⟨g, o + j * 3 + 2, none⟩ = some (.int .u32 x.2.2) := by
  have hj := (List.getElem?_eq_some_iff.1 hx).1
  obtain ⟨g, o, c', e, _, _, _, _, hc⟩ := h.cell (by omega)
  simp only [Value.slice.injEq] at e
  obtain ⟨rfl, _, rfl⟩ := e
  refine ⟨g, o, rfl, ?_⟩
  have key : ∀ i u, (encT x)[i]? = some u → i < 3 → w'.cell? ⟨g, o + (j * 3 + i), none⟩ = some u := fun i u hu hi => by
    have h1 := flat_at (f := encT) (m := 3) (fun _ => rfl) L j i x hx hi
    rw [hu] at h1
    exact k.cell (hc _ _ h1) id
  exact ⟨key 0 _ rfl (by omega), key 1 _ rfl (by omega), key 2 _ rfl (by omega)⟩
theorem cap_of {F : Nat → Prop} {w : World} {size : Nat} {a : Option Addr} {N c : Nat} {l : List Value} (h : Lies F w size (.slice a N c) N l) : N ≤ c ∧ c ≤ maxLen := by
  obtain ⟨ao, c', e, h1, h2, _⟩ := h
  simp only [Value.slice.injEq] at e
  obtain ⟨_, _, rfl⟩ := e
  exact ⟨h1, h2⟩
set_option maxRecDepth 100000 in
set_option maxHeartbeats 1000000 in
theorem same_txs {F F' : Nat → Prop} {w : World} {a b : Option Addr} {N c d : Nat} {L : List Tx} (ha : Lies F w 3 (.slice a N c) N (L.flatMap encT)) (hb : Lies F' w 3 (.slice b N d) N (L.flatMap encT)) (hLN : L.length = N) (hN : N ≤ 1000000) :
    Calls Try.prog 34 #[.slice a N c, .slice b N d] w fun e w' => e = .returned (.bool true) ∧ Kept (fun _ => False) w w' := by
  obtain ⟨m1, m2⟩ := cap_of ha
  obtain ⟨m3, m4⟩ := cap_of hb
  unfold maxLen at m2 m4
  have HA := hid ha; have HB := hid hb; have HN := hid hLN
  clear ha hb hLN
  go_enter Try.func34, Try.ntmps34
  go_wp2_with fail
  go_loopw [13] (fun i wr => ∃ k : Nat, k ≤ N ∧ i = .int .i64 k ∧ Kept (fun _ => False) w wr) (fun i _ => N - (RowKit.intOf i).toNat)
  case atStart => exact ⟨0, Nat.zero_le _, rfl, Kept.refl _ _⟩
  case round =>
    rename World => wA
    obtain ⟨k, hk, rfl, hkp⟩ := hrel
    have K := hid hkp
    clear hkp
    by_cases hlt : k < N
    · have hkI : (k : Int) < (N : Int) := by omega
      obtain ⟨x, hx⟩ : ∃ x, L[k]? = some x := ⟨_, List.getElem?_eq_getElem (by rw [HN.out]; exact hlt)⟩
      obtain ⟨g1, o1, rfl, q0, q1, q2⟩ := tx_cells HA.out HN.out K.out hx
      obtain ⟨g2, o2, rfl, r0, r1, r2⟩ := tx_cells HB.out HN.out K.out hx
      obtain ⟨x1, x2, x3⟩ := x
      simp only at q0 q1 q2 r0 r1 r2
      have hsame : ∀ w', (Op.equalIn 10000 28 (.agg #[.int .u8 x1, .int .u32 x2, .int .u32 x3]) (.agg #[.int .u8 x1, .int .u32 x2, .int .u32 x3])).run Try.prog w' = .ok true w' := fun w' => by
        have h := tx_same (x1, x2, x3) (x1, x2, x3) w'
        rwa [decide_eq_true rfl] at h
      clear hx
      go_wp2_with fail
      go_quiet (fail)
      have K1 := hid (K.out.trans (kept_drewN (F := fun _ => False) wA nq))
      go_wp2
      go_roundw
      case rel => exact ⟨k + 1, by omega, by go_num, K1.out⟩
      case measure => (simp only [RowKit.intOf]; omega)
    · go_wp2
      go_ret
      exact ⟨rfl, K.out⟩
/-- numbers that may be written over -/
def XorB (w : World) (g n : Nat) : Prop := ∀ j, j < n → (∃ m, w.cell? ⟨g, j, none⟩ = some (.int .u8 m)) ∧ w.frozen? ⟨g, j, none⟩ = false
def XorT (w : World) (g n : Nat) : Prop := ∀ j, j < n → (∃ m, w.cell? ⟨g, j * 3 + 2, none⟩ = some (.int .u32 m)) ∧ w.frozen? ⟨g, j * 3 + 2, none⟩ = false
theorem XorB.set {w : World} {g n : Nat} (h : XorB w g n) (a : Addr) (x : Int) : XorB (w.setCell a (.int .u8 x)) g n := fun j hj => ⟨someInt_setCell (h j hj).1 a x, by simpa using (h j hj).2⟩
theorem XorT.set {w : World} {g n : Nat} (h : XorT w g n) (a : Addr) (x : Int) : XorT (w.setCell a (.int .u32 x)) g n := fun j hj => ⟨someInt_setCell (h j hj).1 a x, by simpa using (h j hj).2⟩
theorem Own.xorB {w : World} {g n c : Nat} {l : List Int} (h : Own w 5 1 (.slice (some ⟨g, 0, none⟩) n c) n (bcells l)) : XorB w g n := fun j hj => by
  have hl : l.length = n := by have := h.len; simpa using this
  have hj' : j < (bcells l).length := by simpa [bcells, hl] using hj
  have hc := h.cells (g := g) rfl j hj'
  have e : (bcells l)[j] = .int .u8 (l[j]'(by omega)) := by simp [bcells]
  rw [e] at hc
  exact ⟨⟨_, hc⟩, h.free rfl j⟩
theorem SlT.xorT {B : Nat} {w : World} {g N c : Nat} {D : List Tx} (h : SlT B w (some ⟨g, 0, none⟩) N c D) : XorT w g N := fun j hj => by
  obtain ⟨h1, h2, h3, h4⟩ := h
  rcases h4 with ⟨_, e, _⟩ | ⟨g', e, _, hg, hH⟩
  · cases e
  · cases e
    have hs : j * 3 + 2 < Array.size (Go.Sort.flatK encT 3 D.toArray) := by rw [Go.Sort.size_flatK]; simp; omega
    have h := hH (j * 3 + 2) (by simp; omega)
    rw [Nat.zero_add] at h
    refine ⟨?_, h.2⟩
    rw [Go.Sort.get_flatK _ _ _ _ (by simp; omega)] at h
    have e : (encT D.toArray[(j * 3 + 2) / 3]!)[(j * 3 + 2) % 3]! = .int .u32 (D.toArray[(j * 3 + 2) / 3]!).2.2 := by
      rw [show (j * 3 + 2) % 3 = 2 by omega]; rfl
    refine ⟨(D.toArray[(j * 3 + 2) / 3]!).2.2, h.1.trans ?_⟩
    exact congrArg some e
/-- the program's book and the document's, side by side -/
structure Both (P Q : Nat → Prop) (w : World) (z : Bool) (ba xa : Option Addr) (G : List (Tx × Rn)) (K T : List (Tx × Int)) : Prop where
  b : Bk P w z ba G K
  d : Dk Q w z xa G T
  pq : ∀ i, P i → ¬ Q i
  ok : Okay G
  rel : Rel K T
theorem Both.kept {P Q F : Nat → Prop} {w w' : World} {z : Bool} {ba xa : Option Addr} {G : List (Tx × Rn)} {K T : List (Tx × Int)} (h : Both P Q w z ba xa G K T) (k : Kept F w w') (hF : ∀ i, F i → i < w.heap.size → ¬ P i ∧ ¬ Q i) : Both P Q w' z ba xa G K T :=
  ⟨h.b.kept k (fun i hi hf => (hF i hf (h.b.lt i hi)).1 hi), h.d.kept k (fun i hi hf => (hF i hf (h.d.lt i hi)).2 hi), h.pq, h.ok, h.rel⟩
theorem Both.same {P Q : Nat → Prop} {w w' : World} {z : Bool} {ba xa : Option Addr} {G : List (Tx × Rn)} {K T : List (Tx × Int)} (h : Both P Q w z ba xa G K T) (k : Kept (fun _ => False) w w') : Both P Q w' z ba xa G K T := h.kept k (fun _ h => h.elim)
end Go.Proofs.Ytaobioleodfafaa
/- play: the call. -/
namespace Go.Proofs.Ytaobioleodfafaa
open Go.RowKit
theorem cells8 {w : World} {b T : Nat} {x0 x1 x2 x3 x4 x5 x6 x7 : Value} (h : w.heap[b]? = some (.cells #[x0, x1, x2, x3, x4, x5, x6, x7] T (0, 0))) : w.cell? ⟨b, 0, none⟩ = some x0 ∧ w.cell? ⟨b, 1, none⟩ = some x1 ∧ w.cell? ⟨b, 2, none⟩ = some x2 ∧ w.cell? ⟨b, 3, none⟩ = some x3 ∧ w.cell? ⟨b, 4, none⟩ = some x4 ∧ w.cell? ⟨b, 5, none⟩ = some x5 ∧ w.cell? ⟨b, 6, none⟩ = some x6 ∧ w.cell? ⟨b, 7, none⟩ = some x7 :=
  ⟨by rw [row_cell h]; rfl, by rw [row_cell h]; rfl, by rw [row_cell h]; rfl, by rw [row_cell h]; rfl, by rw [row_cell h]; rfl, by rw [row_cell h]; rfl, by rw [row_cell h]; rfl, by rw [row_cell h]; rfl⟩
theorem Byt.kept2 {F : Nat → Prop} {w w' : World} {v : Value} {l : List Int} (h : Byt w v l) (k : Kept F w w') (hF : 0 < l.length → ∀ g, v.ownBlock = some g → ¬ F g) : Byt w' v l := by
  obtain ⟨ao, c, rfl, h1, h2, h3⟩ := h
  refine ⟨ao, c, rfl, h1, h2, fun j x hj => ?_⟩
  obtain ⟨b, off, rfl, e⟩ := h3 j x hj
  exact ⟨b, off, rfl, k.cell e (hF (by have := (List.getElem?_eq_some_iff.1 hj).1; omega) _ rfl)⟩
theorem cell_lt {w : World} {b o : Nat} {v : Value} (h : w.cell? ⟨b, o, none⟩ = some v) : b < w.heap.size := by
  rcases Nat.lt_or_ge b w.heap.size with h1 | h1
  · exact h1
  · exfalso
    have : w.heap[b]? = none := Array.getElem?_eq_none h1
    simp [World.cell?, this] at h
theorem byt_lies {w : World} {a : Option Addr} {N c : Nat} {l : List Int} (h : Byt w (.slice a N c) l) : Lies (fun _ => False) w 1 (.slice a N c) N (bcells l) := by
  obtain ⟨ao, c', e, ⟨h1, h2⟩, h3, h4⟩ := h
  simp only [Value.slice.injEq] at e
  obtain ⟨rfl, rfl, rfl⟩ := e
  refine ⟨a, c, rfl, h1, h2, by simp, fun ha => h3 ha, fun hm => ?_, fun u hu => ?_⟩
  · obtain ⟨b, off, rfl, hc⟩ := h4 0 _ (List.getElem?_eq_getElem hm)
    refine ⟨b, off, rfl, id, ?_, fun j u hu => ?_⟩
    · rcases Nat.lt_or_ge b w.heap.size with h | h
      · exact h
      · exfalso
        have : w.heap[b]? = none := Array.getElem?_eq_none h
        simp [World.cell?, this] at hc
    · simp only [bcells, List.getElem?_map, Option.map_eq_some_iff] at hu
      obtain ⟨x, hx, rfl⟩ := hu
      obtain ⟨b', off', e, hc'⟩ := h4 j x hx
      cases e
      exact hc'
  · simp only [bcells, List.mem_map] at hu
    obtain ⟨x, _, rfl⟩ := hu
    rfl
theorem lies_pre {F : Nat → Prop} {w : World} {a : Option Addr} {M c n : Nat} {l : List Value} (h : Lies F w 1 (.slice a M c) M l) (hn : n ≤ M) (ha : a ≠ none) : Lies F w 1 (.slice a n c) n (l.take n) := by
  obtain ⟨ao, c', e, h1, h2, h3, h4, h5, h6⟩ := h
  simp only [Value.slice.injEq] at e
  obtain ⟨rfl, _, rfl⟩ := e
  refine ⟨a, c, rfl, by omega, h2, by rw [List.length_take]; omega, fun h => absurd h ha, fun hm => ?_, fun u hu => h6 u (List.mem_of_mem_take hu)⟩
  obtain ⟨g, off, e, hf, hl, hc⟩ := h5 (by omega)
  exact ⟨g, off, e, hf, hl, fun j u hu => hc j u (by rw [List.getElem?_take] at hu; split at hu; exact hu; cases hu)⟩
theorem kdbegin {P : Nat → Prop} {w : World} {z : Bool} {xa : Option Addr} {G : List (Tx × Rn)} {T : List (Tx × Int)} {t1 t2 t3 : Int} (hd : Dk P w z xa G T) (hz : G.length ≤ 100000) {F : Nat → Prop} {a : Option Addr} {N c : Nat} {ns : List Int} (hl : Lies F w 1 (.slice a N c) N (bcells ns)) (hr : ∀ v ∈ ns, 0 ≤ v ∧ v ≤ 255) :
    Calls Try.prog 20 #[.pointer xa, .agg #[.int .u8 t1, .int .u32 t2, .int .u32 t3], .slice a N c] w fun e w' => e = .returned (.int .i64 (begZ z ns (lookG G (t1, t2, t3)).isSome)) ∧
      Dk (Gr P w w') w' z xa (begG (begZ z ns (lookG G (t1, t2, t3)).isSome) G (t1, t2, t3) ns) T ∧ Kept P w w' := by
  by_cases h4 : 1 ≤ N ∧ N ≤ 4
  · exact kdbegin_some hd hz hl hr h4.1 h4.2
  · have hn : ns.length = N := by have := hl.len; simpa using this
    have e0 : ∀ there, begZ z ns there = 1 := fun there => by
      unfold begZ
      rw [if_pos (by omega)]
    rw [e0]
    refine (kdbegin_len a N c (by omega)).mono ?_
    rintro e w' ⟨rfl, hk⟩
    exact ⟨rfl, hd.gr hk, hk.mono (fun _ _ h => h.elim)⟩
theorem XorT.other {w : World} {g n : Nat} (h : XorT w g n) {a : Addr} (ha : a.block ≠ g) (u : Value) : XorT (w.setCell a u) g n := fun j hj => by
  obtain ⟨⟨m, hm⟩, hf⟩ := h j hj
  exact ⟨⟨m, (World.cell?_setCell_other _ _ _ _ (fun e => ha (by rw [e]))).trans hm⟩, by simpa using hf⟩
theorem Rel.len {K T : List (Tx × Int)} (h : Rel K T) : T.length = K.length := h.1.length_eq
-- two calls in a region that draws its order: $1 the kind, $2 the program's function, $3 its contract, $4 the document's, $5 its contract, $6 $7 the facts of the answers
set_option maxRecDepth 100000 in
set_option maxHeartbeats 2000000 in
theorem play_any {P Q : Nat → Prop} {w : World} {z : Bool} {ba xa : Option Addr} {G : List (Tx × Rn)} {K T : List (Tx × Int)} (h : Both P Q w z ba xa G K T) (hG : G.length ≤ 1000) (hK : K.length ≤ 1000)
    {kd t1 t2 t3 x s : Int} {yes : Bool} {na : Option Addr} {N nc : Nat} {ns : List Int} (hn : Byt w (.slice na N nc) ns) (hnF : 0 < ns.length → ∀ g, (Value.slice na N nc).ownBlock = some g → ¬ P g ∧ ¬ Q g) (hr : ∀ v ∈ ns, 0 ≤ v ∧ v ≤ 255) (hN : N ≤ 140737488351232) :
    Calls Try.prog 12 #[.pointer ba, .pointer xa, .agg #[.int .u8 kd, .int .u8 t1, .int .u32 t2, .int .u32 t3, .slice na N nc, .int .u8 x, .bool yes, .int .i64 s]] w fun e w' => e = .returned (.bool true) ∧
      ∃ P' Q', Both P' Q' w' z ba xa (stG z G kd (t1, t2, t3) ns x yes) (stepK z K kd (t1, t2, t3) s) (stepT z T kd (t1, t2, t3) s) ∧ (∀ i, P' i → P i ∨ w.heap.size ≤ i) ∧ (∀ i, Q' i → Q i ∨ w.heap.size ≤ i) ∧ Kept (fun i => P i ∨ Q i) w w' := by
  have hk1 := (Kept.refl (fun _ => False) w).alloc (.cells #[.int .u8 kd, .int .u8 t1, .int .u32 t2, .int .u32 t3, .slice na N nc, .int .u8 x, .bool yes, .int .i64 s] 43)
  have hrb := row_new w (.cells #[.int .u8 kd, .int .u8 t1, .int .u32 t2, .int .u32 t3, .slice na N nc, .int .u8 x, .bool yes, .int .i64 s] 43)
  obtain ⟨w1, hw1⟩ : ∃ w1, w.alloc (.cells #[.int .u8 kd, .int .u8 t1, .int .u32 t2, .int .u32 t3, .slice na N nc, .int .u8 x, .bool yes, .int .i64 s] 43) = w1 := ⟨_, rfl⟩
  obtain ⟨ob, hob⟩ : ∃ ob, w.heap.size = ob := ⟨_, rfl⟩
  rw [hw1] at hk1 hrb
  rw [hob] at hrb
  have HOB := hid hob
  have K1 := hid hk1; have R1 := hid hrb; have B1 := hid (h.same hk1); have HN1 := hid (hn.kept hk1 (fun _ _ => id))
  have HNF := hid hnF; have HR := hid hr; have HB0 := hid h
  have HPO := hid (show ¬ P ob from fun hp => by have := h.b.lt ob hp; omega)
  have HQO := hid (show ¬ Q ob from fun hp => by have := h.d.lt ob hp; omega)
  have hTK := h.rel.len
  have hT : T.length ≤ 1000 := by omega
  obtain ⟨c0, c1, c2, c3, c4, c5, c6, c7⟩ := cells8 hrb
  clear hk1 hrb h hn hnF hr hTK
  go_enter Try.func12, Try.ntmps12
  go_upto_block 0 with fail
  clear hw1 hob
  go_cut [7] from 7 to 159 (fun b wx => b = .bool true ∧ ∃ P' Q', Both P' Q' wx z ba xa (stG z G kd (t1, t2, t3) ns x yes) (stepK z K kd (t1, t2, t3) s) (stepT z T kd (t1, t2, t3) s) ∧ (∀ i, P' i → P i ∨ w1.heap.size ≤ i) ∧ (∀ i, Q' i → Q i ∨ w1.heap.size ≤ i) ∧ Kept (fun i => P i ∨ Q i) w1 wx)
  case first =>
    have HOKG := hid (fun kk => okay_st B1.out.ok (z := z) kk (t1, t2, t3) ns x yes)
    have HRKT := hid (fun kk => B1.out.rel.step z kk (t1, t2, t3) s)
    by_cases hk1 : kd = 1
    · subst hk1
      have HSG := hid (show stG z G 1 (t1, t2, t3) ns x yes = updG G (t1, t2, t3) (voteR (lookG G (t1, t2, t3)) x yes).2 by simp [stG])
      have HSK := hid (show stepK z K 1 (t1, t2, t3) s = K by simp [stepK])
      have HST := hid (show stepT z T 1 (t1, t2, t3) s = T by simp [stepT])
      obtain ⟨r1, hr1⟩ : ∃ r, (voteR (lookG G (t1, t2, t3)) x yes).1.1 = r := ⟨_, rfl⟩
      obtain ⟨r2, hr2⟩ : ∃ r, (voteR (lookG G (t1, t2, t3)) x yes).1.2 = r := ⟨_, rfl⟩
      have HR1 := hid hr1; have HR2 := hid hr2
      clear hr1 hr2
      go_wp2_with fail
      refine (bvote B1.out.b x yes).mono ?_
      rintro e w2 ⟨he, hb, hk⟩
      rw [HR1.out, HR2.out] at he
      subst he
      have HB2 := hid hb; have K2 := hid hk
      have D2 := hid (B1.out.d.kept hk (fun i hi hp => B1.out.pq i hp hi))
      have R2 := hid ((hk.block ob (row_lt R1.out) HPO.out).trans R1.out)
      clear hb hk c0 c1 c2 c3 c4 c5 c6 c7
      obtain ⟨c0, c1, c2, c3, c4, c5, c6, c7⟩ := cells8 R2.out
      go_wp2_with fail
      refine (kdvote D2.out (by omega) B1.out.ok x yes).mono ?_
      rintro e w3 ⟨he, hd, hk⟩
      rw [HR1.out, HR2.out] at he
      subst he
      have HD3 := hid hd; have K3 := hid hk
      clear hd hk c0 c1 c2 c3 c4 c5 c6 c7
      go_wp2
      go_meet
      refine ⟨rfl, P, Q, ⟨?_, ?_, B1.out.pq, HOKG.out 1, HRKT.out 1⟩, fun i h => .inl h, fun i h => .inl h, (K2.out.mono (fun _ _ h => .inl h)).trans (K3.out.mono (fun _ _ h => .inr h))⟩
      · rw [HSG.out, HSK.out]; exact HB2.out.kept K3.out (fun i hi hq => B1.out.pq i hi hq)
      · rw [HSG.out, HST.out]; exact HD3.out
    by_cases hk2 : kd = 2
    · subst hk2
      have HSG := hid (show stG z G 2 (t1, t2, t3) ns x yes = updG G (t1, t2, t3) (comR (lookG G (t1, t2, t3))).2 by simp [stG])
      have HSK := hid (show stepK z K 2 (t1, t2, t3) s = K by simp [stepK])
      have HST := hid (show stepT z T 2 (t1, t2, t3) s = T by simp [stepT])
      obtain ⟨r1, hr1⟩ : ∃ r, (comR (lookG G (t1, t2, t3))).1 = r := ⟨_, rfl⟩
      have HR1 := hid hr1
      clear hr1 hk1
      have BD := hid (B1.out.same (Kept.refl _ _).drew)
      have RD := hid (show w1.drew.heap[ob]? = _ from R1.out)
      have s1 := cells8 RD.out
      clear c0 c1 c2 c3 c4 c5 c6 c7
      go_wp2_with fail
      go_region_held3 (fun w' => w'.cell? ⟨ob, 0, none⟩ = some (.int .u8 2) ∧ w'.cell? ⟨ob, 1, none⟩ = some (.int .u8 t1) ∧ w'.cell? ⟨ob, 2, none⟩ = some (.int .u32 t2) ∧ w'.cell? ⟨ob, 3, none⟩ = some (.int .u32 t3) ∧ w'.cell? ⟨ob, 4, none⟩ = some (.slice na N nc) ∧ w'.cell? ⟨ob, 5, none⟩ = some (.int .u8 x) ∧ w'.cell? ⟨ob, 6, none⟩ = some (.bool yes) ∧ w'.cell? ⟨ob, 7, none⟩ = some (.int .i64 s)) (first | exact s1 | exact s2 | exact s3)
        (first
          | (go_at_call 11; refine (bcommit BD.out.b).mono ?_; rintro e w2 ⟨he, hb, hk⟩; rw [HR1.out] at he; subst he; have HB2 := hid hb; have K2 := hid hk; have D2 := hid (BD.out.d.kept hk (fun i hi hp => BD.out.pq i hp hi)); have R2 := hid ((hk.block ob (row_lt RD.out) HPO.out).trans RD.out); have s2 := cells8 R2.out; clear hb hk s1)
          | (go_at_call 23; refine (kdcommit D2.out (by omega) BD.out.ok).mono ?_; rintro e w3 ⟨he, hd, hk⟩; rw [HR1.out] at he; subst he; have HD3 := hid hd; have K3 := hid hk; have R3 := hid ((hk.block ob (row_lt R2.out) HQO.out).trans R2.out); have s3 := cells8 R3.out; clear hd hk s2))
      clear s3
      go_wp2
      go_meet
      refine ⟨rfl, P, Q, ⟨?_, ?_, B1.out.pq, HOKG.out 2, HRKT.out 2⟩, fun i h => .inl h, fun i h => .inl h, ((Kept.refl _ w1).drew).trans ((K2.out.mono (fun _ _ h => .inl h)).trans (K3.out.mono (fun _ _ h => .inr h)))⟩
      · rw [HSG.out, HSK.out]; exact HB2.out.kept K3.out (fun i hi hq => B1.out.pq i hi hq)
      · rw [HSG.out, HST.out]; exact HD3.out
    by_cases hk3 : kd = 3
    · subst hk3
      have HSG := hid (show stG z G 3 (t1, t2, t3) ns x yes = updG G (t1, t2, t3) (appR (lookG G (t1, t2, t3)) x).2 by simp [stG])
      have HSK := hid (show stepK z K 3 (t1, t2, t3) s = K by simp [stepK])
      have HST := hid (show stepT z T 3 (t1, t2, t3) s = T by simp [stepT])
      obtain ⟨r1, hr1⟩ : ∃ r, (appR (lookG G (t1, t2, t3)) x).1.1 = r := ⟨_, rfl⟩
      obtain ⟨r2, hr2⟩ : ∃ r, (appR (lookG G (t1, t2, t3)) x).1.2 = r := ⟨_, rfl⟩
      have HR1 := hid hr1; have HR2 := hid hr2
      clear hr1 hr2 hk1 hk2
      go_wp2_with fail
      refine (bapplied B1.out.b x).mono ?_
      rintro e w2 ⟨he, hb, hk⟩
      rw [HR1.out, HR2.out] at he
      subst he
      have HB2 := hid hb; have K2 := hid hk
      have D2 := hid (B1.out.d.kept hk (fun i hi hp => B1.out.pq i hp hi))
      have R2 := hid ((hk.block ob (row_lt R1.out) HPO.out).trans R1.out)
      clear hb hk c0 c1 c2 c3 c4 c5 c6 c7
      obtain ⟨c0, c1, c2, c3, c4, c5, c6, c7⟩ := cells8 R2.out
      go_wp2_with fail
      refine (kdapplied D2.out (by omega) B1.out.ok x).mono ?_
      rintro e w3 ⟨he, hd, hk⟩
      rw [HR1.out, HR2.out] at he
      subst he
      have HD3 := hid hd; have K3 := hid hk
      clear hd hk c0 c1 c2 c3 c4 c5 c6 c7
      cases r1 with
      | true =>
        go_wp2
        go_meet
        refine ⟨rfl, P, Q, ⟨?_, ?_, B1.out.pq, HOKG.out 3, HRKT.out 3⟩, fun i h => .inl h, fun i h => .inl h, (K2.out.mono (fun _ _ h => .inl h)).trans (K3.out.mono (fun _ _ h => .inr h))⟩
        · rw [HSG.out, HSK.out]; exact HB2.out.kept K3.out (fun i hi hq => B1.out.pq i hi hq)
        · rw [HSG.out, HST.out]; exact HD3.out
      | false =>
        go_wp2
        go_meet
        refine ⟨rfl, P, Q, ⟨?_, ?_, B1.out.pq, HOKG.out 3, HRKT.out 3⟩, fun i h => .inl h, fun i h => .inl h, (K2.out.mono (fun _ _ h => .inl h)).trans (K3.out.mono (fun _ _ h => .inr h))⟩
        · rw [HSG.out, HSK.out]; exact HB2.out.kept K3.out (fun i hi hq => B1.out.pq i hi hq)
        · rw [HSG.out, HST.out]; exact HD3.out
    by_cases hk4 : kd = 4
    · subst hk4
      have HSG := hid (show stG z G 4 (t1, t2, t3) ns x yes = G by simp [stG])
      have HSK := hid (show stepK z K 4 (t1, t2, t3) s = (takeZ z K (t1, t2, t3)).2 by simp [stepK])
      have HST := hid (show stepT z T 4 (t1, t2, t3) s = (takeD z T (t1, t2, t3)).2 by simp [stepT])
      obtain ⟨r1, hr1⟩ : ∃ r, (takeZ z K (t1, t2, t3)).1 = r := ⟨_, rfl⟩
      have HR1 := hid hr1
      have HR2 := hid ((B1.out.rel.take z (t1, t2, t3)).1.symm.trans hr1)
      clear hr1 hk1 hk2 hk3
      have BD := hid (B1.out.same (Kept.refl _ _).drew)
      have RD := hid (show w1.drew.heap[ob]? = _ from R1.out)
      have s1 := cells8 RD.out
      clear c0 c1 c2 c3 c4 c5 c6 c7
      go_wp2_with fail
      go_region_held3 (fun w' => w'.cell? ⟨ob, 0, none⟩ = some (.int .u8 4) ∧ w'.cell? ⟨ob, 1, none⟩ = some (.int .u8 t1) ∧ w'.cell? ⟨ob, 2, none⟩ = some (.int .u32 t2) ∧ w'.cell? ⟨ob, 3, none⟩ = some (.int .u32 t3) ∧ w'.cell? ⟨ob, 4, none⟩ = some (.slice na N nc) ∧ w'.cell? ⟨ob, 5, none⟩ = some (.int .u8 x) ∧ w'.cell? ⟨ob, 6, none⟩ = some (.bool yes) ∧ w'.cell? ⟨ob, 7, none⟩ = some (.int .i64 s)) (first | exact s1 | exact s2 | exact s3)
        (first
          | (go_at_call 26; refine (btake BD.out.b).mono ?_; rintro e w2 ⟨he, hb, hk⟩; rw [HR1.out] at he; subst he; have HB2 := hid hb; have K2 := hid hk; have D2 := hid (BD.out.d.kept hk (fun i hi hp => BD.out.pq i hp hi)); have R2 := hid ((hk.block ob (row_lt RD.out) HPO.out).trans RD.out); have s2 := cells8 R2.out; clear hb hk s1)
          | (go_at_call 27; refine (kdtake D2.out (by omega)).mono ?_; rintro e w3 ⟨he, hd, hk⟩; rw [HR2.out] at he; subst he; have HD3 := hid hd; have K3 := hid hk; have R3 := hid ((hk.block ob (row_lt R2.out) HQO.out).trans R2.out); have s3 := cells8 R3.out; clear hd hk s2))
      clear s3
      go_wp2
      go_meet
      have hs1 : w1.heap.size ≤ w2.heap.size := K2.out.size
      refine ⟨rfl, P, Gr Q w2 w3, ⟨?_, ?_, fun i hp hq => ?_, HOKG.out 4, HRKT.out 4⟩, fun i h => .inl h, fun i h => h.imp id (fun h => Nat.le_trans hs1 h.1), ((Kept.refl _ w1).drew).trans ((K2.out.mono (fun _ _ h => .inl h)).trans (K3.out.mono (fun _ _ h => .inr h)))⟩
      · rw [HSG.out, HSK.out]; exact HB2.out.kept K3.out (fun i hi hq => B1.out.pq i hi hq)
      · rw [HSG.out, HST.out]; exact HD3.out
      · exact hq.elim (fun h => B1.out.pq i hp h) (fun h => by have := HB2.out.lt i hp; omega)
    by_cases hk5 : kd = 5
    · subst hk5
      have HSG := hid (show stG z G 5 (t1, t2, t3) ns x yes = G by simp [stG])
      have HSK := hid (show stepK z K 5 (t1, t2, t3) s = (settleR K (t1, t2, t3) s).2 by simp [stepK])
      have HST := hid (show stepT z T 5 (t1, t2, t3) s = (settleD T (t1, t2, t3) s).2 by simp [stepT])
      obtain ⟨r1, hr1⟩ : ∃ r, (settleR K (t1, t2, t3) s).1 = r := ⟨_, rfl⟩
      have HR1 := hid hr1
      have HR2 := hid ((B1.out.rel.settle (t1, t2, t3) s).1.symm.trans hr1)
      clear hr1 hk1 hk2 hk3 hk4
      have BD := hid (B1.out.same (Kept.refl _ _).drew)
      have RD := hid (show w1.drew.heap[ob]? = _ from R1.out)
      have s1 := cells8 RD.out
      clear c0 c1 c2 c3 c4 c5 c6 c7
      go_wp2_with fail
      go_region_held3 (fun w' => w'.cell? ⟨ob, 0, none⟩ = some (.int .u8 5) ∧ w'.cell? ⟨ob, 1, none⟩ = some (.int .u8 t1) ∧ w'.cell? ⟨ob, 2, none⟩ = some (.int .u32 t2) ∧ w'.cell? ⟨ob, 3, none⟩ = some (.int .u32 t3) ∧ w'.cell? ⟨ob, 4, none⟩ = some (.slice na N nc) ∧ w'.cell? ⟨ob, 5, none⟩ = some (.int .u8 x) ∧ w'.cell? ⟨ob, 6, none⟩ = some (.bool yes) ∧ w'.cell? ⟨ob, 7, none⟩ = some (.int .i64 s)) (first | exact s1 | exact s2 | exact s3)
        (first
          | (go_at_call 28; refine (bsettle BD.out.b s).mono ?_; rintro e w2 ⟨he, hb, hk⟩; rw [HR1.out] at he; subst he; have HB2 := hid hb; have K2 := hid hk; have D2 := hid (BD.out.d.kept hk (fun i hi hp => BD.out.pq i hp hi)); have R2 := hid ((hk.block ob (row_lt RD.out) HPO.out).trans RD.out); have s2 := cells8 R2.out; clear hb hk s1)
          | (go_at_call 29; refine (kdsettle D2.out (by omega) s).mono ?_; rintro e w3 ⟨he, hd, hk⟩; rw [HR2.out] at he; subst he; have HD3 := hid hd; have K3 := hid hk; have R3 := hid ((hk.block ob (row_lt R2.out) HQO.out).trans R2.out); have s3 := cells8 R3.out; clear hd hk s2))
      clear s3
      go_wp2
      go_meet
      refine ⟨rfl, P, Q, ⟨?_, ?_, B1.out.pq, HOKG.out 5, HRKT.out 5⟩, fun i h => .inl h, fun i h => .inl h, ((Kept.refl _ w1).drew).trans ((K2.out.mono (fun _ _ h => .inl h)).trans (K3.out.mono (fun _ _ h => .inr h)))⟩
      · rw [HSG.out, HSK.out]; exact HB2.out.kept K3.out (fun i hi hq => B1.out.pq i hi hq)
      · rw [HSG.out, HST.out]; exact HD3.out
    by_cases hk0 : kd = 0
    · subst hk0
      have HSG := hid (show stG z G 0 (t1, t2, t3) ns x yes = begG (begZ z ns (lookG G (t1, t2, t3)).isSome) G (t1, t2, t3) ns by simp [stG])
      have HSK := hid (show stepK z K 0 (t1, t2, t3) s = K by simp [stepK])
      have HST := hid (show stepT z T 0 (t1, t2, t3) s = T by simp [stepT])
      obtain ⟨r1, hr1⟩ : ∃ r, begZ z ns (lookG G (t1, t2, t3)).isSome = r := ⟨_, rfl⟩
      have HR1 := hid hr1
      clear hr1 hk1 hk2 hk3 hk4 hk5
      have hNl : ns.length = N := by
        obtain ⟨_, _, e, _⟩ := HN1.out
        simp only [Value.slice.injEq] at e
        exact e.2.1.symm
      have HNL := hid hNl
      clear hNl
      go_wp2_with fail
      refine (spare_any HN1.out.bts (by rw [HNL.out]; omega)).mono ?_
      rintro e w2 ⟨fg, fc, rfl, hfo, hfg, hk⟩
      rw [HNL.out] at hfo ⊢
      have B2 := hid (B1.out.same hk)
      have R2 := hid ((hk.block ob (row_lt R1.out) id).trans R1.out)
      have K2 := hid hk; have HN2 := hid (HN1.out.kept hk (fun _ _ => id))
      have HFO2 := hid hfo; have HFG := hid hfg
      obtain ⟨hcap1, hcap2⟩ := cap_of (byt_lies hfo.byt)
      unfold maxLen at hcap2
      clear hk hfo hfg c0 c1 c2 c3 c4 c5 c6 c7
      obtain ⟨c0, c1, c2, c3, c4, c5, c6, c7⟩ := cells8 R2.out
      go_wp2_with fail
      have BD := hid (B2.out.same (Kept.refl _ _).drew)
      have RD := hid (show w2.drew.heap[ob]? = _ from R2.out)
      have HFL := hid (show Lies (fun _ => False) w2.drew 1 (.slice (some ⟨fg, 0, none⟩) N fc) N (bcells ns) from by
        have h := lies_pre (n := N) (byt_lies (HFO2.out.byt)) (by omega) (fun e => by cases e)
        have e : (bcells (ns ++ mark)).take N = bcells ns := by
          simp only [bcells, List.map_append]
          rw [List.take_append_of_le_length (by simp [HNL.out]), List.take_of_length_le (by simp [HNL.out])]
        rw [e] at h
        exact h)
      have s1 := cells8 RD.out
      clear c0 c1 c2 c3 c4 c5 c6 c7
      have HPF := hid (show ¬ P fg ∧ ¬ Q fg from ⟨fun hp => by have := B1.out.b.lt fg hp; have := HFG.out; omega, fun hp => by have := B1.out.d.lt fg hp; have := HFG.out; omega⟩)
      go_region_held3 (fun w' => w'.cell? ⟨ob, 0, none⟩ = some (.int .u8 0) ∧ w'.cell? ⟨ob, 1, none⟩ = some (.int .u8 t1) ∧ w'.cell? ⟨ob, 2, none⟩ = some (.int .u32 t2) ∧ w'.cell? ⟨ob, 3, none⟩ = some (.int .u32 t3) ∧ w'.cell? ⟨ob, 4, none⟩ = some (.slice na N nc) ∧ w'.cell? ⟨ob, 5, none⟩ = some (.int .u8 x) ∧ w'.cell? ⟨ob, 6, none⟩ = some (.bool yes) ∧ w'.cell? ⟨ob, 7, none⟩ = some (.int .i64 s)) (first | exact s1 | exact s2 | exact s3 | exact s4)
        (first
          | (go_at_call 9; refine (bbegin BD.out.b HFL.out HR.out).mono ?_; rintro e w3 ⟨he, hb, hk⟩; rw [HR1.out] at he; subst he; have HB3 := hid hb; have K3 := hid hk; have D3 := hid (BD.out.d.kept hk (fun i hi hp => BD.out.pq i hp hi)); have R3 := hid ((hk.block ob (row_lt RD.out) HPO.out).trans RD.out); have HN3 := hid (HN2.out.kept2 (Kept.of_drew hk) (fun h0 g hg => (HNF.out h0 g hg).1)); have HFO3 := hid (HFO2.out.kept (Kept.of_drew hk) (fun g hg hp => HPF.out.1 (by simp [Value.ownBlock] at hg; rw [hg]; exact hp))); have s2 := cells8 R3.out; clear hb hk s1)
          | (go_at_call 20; refine (kdbegin D3.out (by omega) (byt_lies HN3.out) HR.out).mono ?_; rintro e w4 ⟨he, hd, hk⟩; rw [HR1.out] at he; subst he; have HD4 := hid hd; have K4 := hid hk; have R4 := hid ((hk.block ob (row_lt R3.out) HQO.out).trans R3.out); have HN4 := hid (HN3.out.kept2 hk (fun h0 g hg => (HNF.out h0 g hg).2)); have HFO4 := hid (HFO3.out.kept hk (fun g hg hp => HPF.out.2 (by simp [Value.ownBlock] at hg; rw [hg]; exact hp))); have s3 := cells8 R4.out; clear hd hk s2)
          | (go_at_call 21; refine (kept_yes HFO4.out.byt HN4.out).mono ?_; rintro e w5 ⟨he, hk⟩; subst he; have K5 := hid hk; have R5 := hid ((hk.block ob (row_lt R4.out) id).trans R4.out); have HFO5 := hid (HFO4.out.kept hk (fun _ _ => id)); have s4 := cells8 R5.out; clear hk s3))
      clear s4
      have HXB := hid (show XorB w5 fg (N + 3) from HFO5.out.xorB)
      have hs12 : w1.heap.size ≤ w2.heap.size := K2.out.size
      have hs23 : w2.heap.size ≤ w3.heap.size := K3.out.size
      have hPP : ∀ i, Gr P w2.drew w3 i → ¬ Gr Q w3 w4 i := fun i hp hq => by
        rcases hp with hp | hp
        · exact hq.elim (fun h => B1.out.pq i hp h) (fun h => by have := B1.out.b.lt i hp; omega)
        · exact hq.elim (fun h => by have := B1.out.d.lt i h; have hp1 : w2.heap.size ≤ i := hp.1; omega) (fun h => by omega)
      have HB5 := hid (⟨?_, ?_, hPP, HOKG.out 0, HRKT.out 0⟩ : Both (Gr P w2.drew w3) (Gr Q w3 w4) w5 z ba xa (stG z G 0 (t1, t2, t3) ns x yes) (stepK z K 0 (t1, t2, t3) s) (stepT z T 0 (t1, t2, t3) s))
      rotate_left
      · rw [HSG.out, HSK.out]
        exact ((show Bk (Gr P w2.drew w3) w3 z ba (begG (begZ z ns (lookG G (t1, t2, t3)).isSome) G (t1, t2, t3) ns) K from HB3.out).kept K4.out (fun i hi hq => hi.elim (fun h => B1.out.pq i h hq) (fun h => by have := B1.out.d.lt i hq; have h1 : w2.heap.size ≤ i := h.1; omega))).same K5.out
      · rw [HSG.out, HST.out]
        exact HD4.out.same K5.out
      have K15 := hid (show Kept (fun i => P i ∨ Q i) w1 w5 from (K2.out.drew.mono (fun _ _ h => h.elim)).trans (((K3.out.mono (fun _ _ h => .inl h)).trans (K4.out.mono (fun _ _ h => .inr h))).trans (K5.out.mono (fun _ _ h => h.elim))))
      have HS12 := hid hs12; have HS23 := hid hs23
      have HFN := hid (show ¬ Gr P w2.drew w3 fg ∧ ¬ Gr Q w3 w4 fg from by
        have hl := HFO2.out.lt (g := fg) rfl
        exact ⟨fun h => h.elim HPF.out.1 (fun h => by have h1 : w2.heap.size ≤ fg := h.1; omega), fun h => h.elim HPF.out.2 (fun h => by omega)⟩)
      have HFG1 := hid (show w1.heap.size ≤ fg from HFG.out)
      clear hs12 hs23 hPP HB3 K3 D3 R3 HN3 HFO3 HD4 K4 R4 HN4 HFO4 K5 R5 HFO5 HFO2 R2 RD BD HFL K2 HN2 B2
      go_wp2_with fail
      go_loopw [53] (fun i wr => ∃ k : Nat, k ≤ N + 3 ∧ i = .int .i64 k ∧ XorB wr fg (N + 3) ∧ Kept (fun i => i = fg) w5 wr) (fun i _ => N + 3 - (RowKit.intOf i).toNat)
      case atStart => exact ⟨0, Nat.zero_le _, rfl, HXB.out, Kept.refl _ _⟩
      case round =>
        rename World => wr
        obtain ⟨k, hk, rfl, hx, hkp⟩ := hrel
        have HX := hid hx; have KR := hid hkp
        clear hx hkp
        by_cases hlt : k < N + 3
        · have hltI : (k : Int) < (N : Int) + 3 := by omega
          obtain ⟨⟨m, hm⟩, hf⟩ := HX.out k hlt
          go_wp2
          go_roundw
          case rel => exact ⟨k + 1, by omega, by go_num, HX.out.set _ _, KR.out.setCell (F := fun i => i = fg) (.inl rfl) _⟩
          case measure => (simp only [RowKit.intOf]; omega)
        · obtain rfl : k = N + 3 := by omega
          go_wp2
          go_meet
          exact ⟨rfl, _, _, HB5.out.kept KR.out (fun i e _ => by rw [e]; exact HFN.out), fun i h => h.imp id (fun h => Nat.le_trans HS12.out h.1), fun i h => h.imp id (fun h => Nat.le_trans HS12.out (Nat.le_trans HS23.out h.1)), K15.out.trans' KR.out (fun i e => .inr (by rw [e]; exact HFG1.out))⟩
    · have HSG := hid (show stG z G kd (t1, t2, t3) ns x yes = G by simp [stG, hk0, hk1, hk2, hk3])
      have HSK := hid (show stepK z K kd (t1, t2, t3) s = K by simp [stepK, hk4, hk5])
      have HST := hid (show stepT z T kd (t1, t2, t3) s = T by simp [stepT, hk4, hk5])
      have q0 : (kd == 0) = false := by simpa using hk0
      have q1 : (kd == 1) = false := by simpa using hk1
      have q2 : (kd == 2) = false := by simpa using hk2
      have q3 : (kd == 3) = false := by simpa using hk3
      have q4 : (kd == 4) = false := by simpa using hk4
      have q5 : (kd == 5) = false := by simpa using hk5
      clear hk0 hk1 hk2 hk3 hk4 hk5
      go_wp2
      go_meet
      refine ⟨rfl, P, Q, ⟨?_, ?_, B1.out.pq, HOKG.out kd, HRKT.out kd⟩, fun i h => .inl h, fun i h => .inl h, Kept.refl _ _⟩
      · rw [HSG.out, HSK.out]; exact B1.out.b
      · rw [HSG.out, HST.out]; exact B1.out.d
  case rest =>
    obtain ⟨rfl, P', Q', hB, hPi, hQi, hkc⟩ := hcut
    rename World => wc
    have BC := hid hB; have HPI := hid hPi; have HQI := hid hQi; have KC := hid hkc
    have RC := hid ((hkc.block ob (row_lt R1.out) (fun h => h.elim HPO.out HQO.out)).trans R1.out)
    obtain ⟨G', hG'⟩ : ∃ G', stG z G kd (t1, t2, t3) ns x yes = G' := ⟨_, rfl⟩
    obtain ⟨K', hK'⟩ : ∃ K', stepK z K kd (t1, t2, t3) s = K' := ⟨_, rfl⟩
    obtain ⟨T', hT'⟩ : ∃ T', stepT z T kd (t1, t2, t3) s = T' := ⟨_, rfl⟩
    have hGl : G'.length ≤ 1001 := by rw [← hG']; have := stG_len z G kd (t1, t2, t3) ns x yes; omega
    have hKl : K'.length ≤ 1001 := by rw [← hK']; have := stepK_len z K kd (t1, t2, t3) s; omega
    rw [hG', hK', hT'] at BC
    have HEG := hid hG'; have HEK := hid hK'; have HET := hid hT'
    have hTl : T'.length ≤ 1001 := by have := BC.out.rel.len; omega
    have HOW4 := hid (show ∀ p ∈ G', p.2.ns.length ≤ 4 from fun p hp => (BC.out.ok.2 p hp).2)
    clear hB hPi hQi hkc hG' hK' hT' c0 c1 c2 c3 c4 c5 c6 c7
    obtain ⟨c0, c1, c2, c3, c4, c5, c6, c7⟩ := cells8 RC.out
    go_wp2_with fail
    refine (bowing BC.out.b HOW4.out).mono ?_
    rintro e w2 ⟨la, ln, lc, rfl, hln, hlo, hlf, hk⟩
    have B2 := hid (BC.out.same hk)
    have K2 := hid hk
    have HLO := hid hlo; have HLF := hid hlf
    have HLL := hid (fun g (hg : (Value.slice la ln lc).ownBlock = some g) => hlo.lt hg)
    clear hk hlo hlf c0 c1 c2 c3 c4 c5 c6 c7
    go_wp2_with fail
    refine (bdoubt B2.out.b (by omega)).mono ?_
    rintro e w3 ⟨da, dn, dc, D, rfl, hsl, hdp, hdw, hk⟩
    have B3 := hid (B2.out.same hk)
    have K3 := hid (K2.out.trans hk)
    have HLO3 := hid (HLO.out.same hk)
    have HSL := hid hsl
    have HDT := hid (held_eq B2.out.rel hdp hdw)
    have HS2 := hid K2.out.size
    have R3 := hid ((K3.out.block ob (row_lt RC.out) id).trans RC.out)
    clear hk hsl hdp hdw HLO K2 B2
    obtain ⟨o1, ho1⟩ : ∃ r, oweR (lookG G' (t1, t2, t3)) = r := ⟨_, rfl⟩
    obtain ⟨r1, hr1⟩ : ∃ r, stR (lookG G' (t1, t2, t3)) = r := ⟨_, rfl⟩
    obtain ⟨r2, hr2⟩ : ∃ r, stK K' (t1, t2, t3) = r := ⟨_, rfl⟩
    have HO1 := hid ho1; have HR1 := hid hr1; have HR2 := hid hr2
    have HR3 := hid ((B3.out.rel.stK (t1, t2, t3)).trans hr2)
    clear ho1 hr1 hr2
    go_wp2_with fail
    have RD := hid (show w3.drew.heap[ob]? = _ from R3.out)
    have s1 := cells8 RD.out
    have K0 := hid (show Kept (fun _ => False) w3 w3.drew from (Kept.refl _ _).drew)
    go_region_held3 (fun w' => w'.cell? ⟨ob, 0, none⟩ = some (.int .u8 kd) ∧ w'.cell? ⟨ob, 1, none⟩ = some (.int .u8 t1) ∧ w'.cell? ⟨ob, 2, none⟩ = some (.int .u32 t2) ∧ w'.cell? ⟨ob, 3, none⟩ = some (.int .u32 t3) ∧ w'.cell? ⟨ob, 4, none⟩ = some (.slice na N nc) ∧ w'.cell? ⟨ob, 5, none⟩ = some (.int .u8 x) ∧ w'.cell? ⟨ob, 6, none⟩ = some (.bool yes) ∧ w'.cell? ⟨ob, 7, none⟩ = some (.int .i64 s)) (first | exact s1 | exact s2 | exact s3 | exact s4 | exact s5 | exact s6 | exact s7 | exact s8 | exact s9)
      (first
        | (go_at_call 31; refine (kdowing (B3.out.same K0.out).d (by omega) HOW4.out).mono ?_; rintro e w4 ⟨⟨pa, pn, pc, he, hpn, hpo, hpf⟩, hk⟩; subst he; have KA := hid (K0.out.trans hk); have HPO1 := hid hpo; have s2 := cells8 ((KA.out.block ob (row_lt R3.out) id).trans R3.out); clear hk hpo hpf s1)
        | (go_at_call 15; refine (same_bytes (HLO3.out.same KA.out).byt HPO1.out.byt).mono ?_; rintro e w5 ⟨he, hk⟩; rw [decide_eq_true rfl] at he; subst he; have KB := hid (KA.out.trans hk); have s3 := cells8 ((KB.out.block ob (row_lt R3.out) id).trans R3.out); clear hk s2)
        | (go_at_call 13; refine (bruns (B3.out.same KB.out).b).mono ?_; rintro e w6 ⟨he, hk⟩; rw [HR1.out] at he; subst he; have KE := hid (KB.out.trans hk); have s4 := cells8 ((KE.out.block ob (row_lt R3.out) id).trans R3.out); clear hk s3)
        | (go_at_call 32; refine (dstate (B3.out.same KE.out).d (by omega)).mono ?_; rintro e w7 ⟨he, hk⟩; rw [HR1.out] at he; subst he; have KF := hid (KE.out.trans hk); have s5 := cells8 ((KF.out.block ob (row_lt R3.out) id).trans R3.out); clear hk s4)
        | (go_at_call 14; refine (bstands (B3.out.same KF.out).b).mono ?_; rintro e w8 ⟨he, hk⟩; rw [HR2.out] at he; subst he; have KG := hid (KF.out.trans hk); have s6 := cells8 ((KG.out.block ob (row_lt R3.out) id).trans R3.out); clear hk s5)
        | (go_at_call 33; refine (kdstands (B3.out.same KG.out).d (by omega)).mono ?_; rintro e w9 ⟨he, hk⟩; rw [HR3.out] at he; subst he; have KH := hid (KG.out.trans hk); have s7 := cells8 ((KH.out.block ob (row_lt R3.out) id).trans R3.out); clear hk s6)
        | (go_at_call 35; refine (kddoubt (B3.out.same KH.out).d (by omega)).mono ?_; rintro e w10 ⟨⟨ea, en, ec, he, hen, he6, heo, hef⟩, hk⟩; subst he; have KI := hid (KH.out.trans hk); have HEN := hid hen; have HEO := hid heo; have s8 := cells8 ((KI.out.block ob (row_lt R3.out) id).trans R3.out); clear hk hen heo hef s7)
        | (go_at_call 34; obtain rfl : en = dn := (HEN.out.symm.trans (by rw [← HDT.out]; exact HSL.out.1)); refine (same_txs (HSL.out.lies.same KI.out) (by rw [HDT.out]; exact HEO.out.lies (F := fun _ => False) (encT_one _) (fun _ _ => id)) HSL.out.1 he6).mono ?_; rintro e w11 ⟨he, hk⟩; subst he; have KJ := hid (KI.out.trans hk); have s9 := cells8 ((KJ.out.block ob (row_lt R3.out) id).trans R3.out); clear hk s8))
    clear s9
    have B4 := hid (B3.out.same KJ.out)
    have KX := hid (KC.out.trans' (K3.out.trans KJ.out) (fun _ h => h.elim))
    have HSZ := hid (K3.out.trans KJ.out).size
    have HLO4 := hid ((HLO3.out.same KJ.out))
    have hxl : ln = 0 ∨ ∃ lg, la = some ⟨lg, 0, none⟩ ∧ XorB w11 lg ln ∧ wc.heap.size ≤ lg ∧ lg < w2.heap.size := by
      rcases Nat.eq_zero_or_pos ln with h0 | h0
      · exact .inl h0
      · obtain ⟨lg, lc', e, _, _⟩ := HLO4.out.some_of_pos h0
        simp only [Value.slice.injEq] at e
        obtain ⟨rfl, _, rfl⟩ := e
        exact .inr ⟨lg, rfl, HLO4.out.xorB, HLF.out lg rfl, HLL.out lg rfl⟩
    have HSL4 : SlT w2.heap.size w11 da en dc D := by
      obtain ⟨h1, h2, h3, h4⟩ := HSL.out
      refine ⟨h1, h2, h3, h4.imp id (fun ⟨g, e, hb, hg, hH⟩ => ⟨g, e, hb, Nat.lt_of_lt_of_le hg KJ.out.size, fun j hj => ⟨KJ.out.cell (hH j hj).1 id, (KJ.out.frozen hg id).trans (hH j hj).2⟩⟩)⟩
    have hxd : en = 0 ∨ ∃ dg, da = some ⟨dg, 0, none⟩ ∧ XorT w11 dg en ∧ w2.heap.size ≤ dg := by
      obtain ⟨h1, h2, h3, h4⟩ := HSL4
      rcases h4 with ⟨h0, _⟩ | ⟨dg, e, hb, hg, hH⟩
      · exact .inl h0
      · subst e
        exact .inr ⟨dg, rfl, SlT.xorT (B := w2.heap.size) ⟨h1, h2, h3, .inr ⟨dg, rfl, hb, hg, hH⟩⟩, hb⟩
    have HXL := hid hxl; have HXD := hid hxd
    clear HSL4 hxl hxd HLO3 HSL HLO4 KA KB KE KF KG KH KI KJ HPO1 HEO HEN B3 K3 K0 RD R3 RC
    go_wp2_with fail
    go_loopw [205] (fun i wr => ∃ k : Nat, k ≤ ln ∧ i = .int .i64 k ∧ (ln = 0 ∨ ∃ lg, la = some ⟨lg, 0, none⟩ ∧ XorB wr lg ln ∧ wc.heap.size ≤ lg ∧ lg < w2.heap.size) ∧ Kept (fun i => la = some ⟨i, 0, none⟩ ∧ wc.heap.size ≤ i) w11 wr ∧ (en = 0 ∨ ∃ dg, da = some ⟨dg, 0, none⟩ ∧ XorT wr dg en ∧ w2.heap.size ≤ dg)) (fun i _ => ln - (RowKit.intOf i).toNat)
    case atStart => exact ⟨0, Nat.zero_le _, rfl, HXL.out, Kept.refl _ _, HXD.out⟩
    case round =>
      rename World => wr
      obtain ⟨k, hk, rfl, hx, hkp, hxd⟩ := hrel
      have HX := hid hx; have KR := hid hkp; have HXR := hid hxd
      clear hx hkp hxd
      by_cases hlt : k < ln
      · have hltI : (k : Int) < (ln : Int) := by omega
        obtain ⟨lg, rfl, hxb, hlg, hlg2⟩ : ∃ lg, la = some ⟨lg, 0, none⟩ ∧ XorB wr lg ln ∧ wc.heap.size ≤ lg ∧ lg < w2.heap.size := HX.out.resolve_left (by omega)
        obtain ⟨⟨m, hm⟩, hf⟩ := hxb k hlt
        have HXB := hid hxb
        have hcp : ln ≤ 4 := hln
        clear hxb
        go_wp2
        go_roundw
        case rel =>
          refine ⟨k + 1, by omega, by go_num, .inr ⟨lg, rfl, HXB.out.set _ _, hlg, hlg2⟩, KR.out.setCell (F := fun i => some (⟨lg, 0, none⟩ : Addr) = some ⟨i, 0, none⟩ ∧ wc.heap.size ≤ i) (.inl ⟨rfl, hlg⟩) _, ?_⟩
          rcases HXR.out with h | ⟨dg, e, h, hb⟩
          · exact .inl h
          · exact .inr ⟨dg, e, h.other (by show lg ≠ dg; omega) _, hb⟩
        case measure => (simp only [RowKit.intOf]; omega)
      · obtain rfl : k = ln := by omega
        have B5 := hid (B4.out.kept KR.out (fun i e hi => ⟨fun hp => by have := BC.out.b.lt i hp; omega, fun hq => by have := BC.out.d.lt i hq; omega⟩))
        have KY := hid (KX.out.trans' KR.out (fun i e => .inr (Nat.le_trans KC.out.size e.2)))
        go_wp2_with fail
        go_loopw [217] (fun i wx => ∃ q : Nat, q ≤ en ∧ i = .int .i64 q ∧ (en = 0 ∨ ∃ dg, da = some ⟨dg, 0, none⟩ ∧ XorT wx dg en ∧ w2.heap.size ≤ dg) ∧ Kept (fun i => w2.heap.size ≤ i) wr wx) (fun i _ => en - (RowKit.intOf i).toNat)
        case atStart => exact ⟨0, Nat.zero_le _, rfl, HXR.out, Kept.refl _ _⟩
        case round =>
          rename World => wx
          obtain ⟨q, hq, rfl, hx, hkp⟩ := hrel
          have HXX := hid hx; have KRX := hid hkp
          clear hx hkp
          by_cases hqt : q < en
          · have hqtI : (q : Int) < (en : Int) := by omega
            obtain ⟨dg, rfl, hxb, hdg⟩ : ∃ dg, da = some ⟨dg, 0, none⟩ ∧ XorT wx dg en ∧ w2.heap.size ≤ dg := HXX.out.resolve_left (by omega)
            obtain ⟨⟨m, hm⟩, hf⟩ := hxb q hqt
            have HXB := hid hxb
            clear hxb
            go_wp2
            go_roundw
            case rel => exact ⟨q + 1, by omega, by go_num, .inr ⟨dg, rfl, HXB.out.set _ _, hdg⟩, KRX.out.setCell (F := fun i => w2.heap.size ≤ i) (.inl hdg) _⟩
            case measure => (simp only [RowKit.intOf]; omega)
          · go_wp2
            go_ret
            rw [HEG.out, HEK.out, HET.out]
            have hs1 := K1.out.size
            have hsc := KC.out.size
            refine ⟨rfl, P', Q', B5.out.kept KRX.out (fun i e hi => ⟨fun hp => by have := BC.out.b.lt i hp; have := HS2.out; omega, fun hq => by have := BC.out.d.lt i hq; have := HS2.out; omega⟩), fun i h => (HPI.out i h).imp id (fun h => Nat.le_trans hs1 h), fun i h => (HQI.out i h).imp id (fun h => Nat.le_trans hs1 h), (K1.out.mono (fun _ _ h => h.elim)).trans (KY.out.trans' KRX.out (fun i e => .inr (by have := HS2.out; omega)))⟩
end Go.Proofs.Ytaobioleodfafaa
/- A script as plain data. -/
namespace Go.Proofs.Ytaobioleodfafaa
open Go.RowKit
structure OpD where
  kd : Int
  t : Tx
  l : List Int
  x : Int
  yes : Bool
  s : Int
structure OpOk (w : World) (o : OpD) (bo : Option Addr) (bc : Nat) : Prop where
  b : Byt w (.slice bo o.l.length bc) o.l
  r : ∀ y ∈ o.l, 0 ≤ y ∧ y ≤ 255
  len : o.l.length ≤ 140737488351232
  n : 0 < o.l.length → ∀ g, (Value.slice bo o.l.length bc).ownBlock = some g → g < w.heap.size
def opC (o : OpD) (bo : Option Addr) (bc : Nat) : List Value := [.int .u8 o.kd, .int .u8 o.t.1, .int .u32 o.t.2.1, .int .u32 o.t.2.2, .slice bo o.l.length bc, .int .u8 o.x, .bool o.yes, .int .i64 o.s]
def ScrAt (w : World) (v : Value) (ops : List OpD) : Prop :=
  ∃ ao c, v = .slice ao ops.length c ∧ ops.length ≤ c ∧ c ≤ maxLen ∧ ∀ (k : Nat) (o : OpD), ops[k]? = some o → ∃ b off bo bc, ao = some ⟨b, off, none⟩ ∧ (∀ j u, (opC o bo bc)[j]? = some u → w.cell? ⟨b, off + (k * 8 + j), none⟩ = some u) ∧ OpOk w o bo bc
theorem OpOk.kept {F : Nat → Prop} {w w' : World} {o : OpD} {bo : Option Addr} {bc : Nat} (h : OpOk w o bo bc) (k : Kept F w w') (hF : ∀ i, F i → w.heap.size ≤ i) : OpOk w' o bo bc :=
  ⟨h.b.kept2 k (fun h0 g hg hf => by have := h.n h0 g hg; have := hF g hf; omega), h.r, h.len, fun h0 g hg => Nat.lt_of_lt_of_le (h.n h0 g hg) k.size⟩
theorem ScrAt.kept {F : Nat → Prop} {w w' : World} {v : Value} {ops : List OpD} (h : ScrAt w v ops) (k : Kept F w w') (hF : ∀ i, F i → w.heap.size ≤ i) : ScrAt w' v ops := by
  obtain ⟨ao, c, e, h1, h2, h3⟩ := h
  refine ⟨ao, c, e, h1, h2, fun j o ho => ?_⟩
  obtain ⟨b, off, bo, bc, q1, q2, q3⟩ := h3 j o ho
  exact ⟨b, off, bo, bc, q1, fun i u hu => k.cell (q2 i u hu) (fun hf => by have := cell_lt (q2 i u hu); have := hF b hf; omega), q3.kept k hF⟩
theorem cellsU8 : Try.prog.cellsOf 5 = 1 := by kernel_rfl
theorem cellsU32 : Try.prog.cellsOf 26 = 1 := by kernel_rfl
theorem cellsBo : Try.prog.cellsOf 4 = 1 := by kernel_rfl
theorem cellsI : Try.prog.cellsOf 3 = 1 := by kernel_rfl
theorem cellsB : Try.prog.cellsOf 22 = 1 := by kernel_rfl
theorem cellsTx : Try.prog.cellsOf 28 = 3 := by kernel_rfl
theorem cellsOp : Try.prog.cellsOf 43 = 8 := by kernel_rfl
theorem bytesU8 : Try.prog.bytesOf 5 = 1 := by kernel_rfl
theorem tx_read {w : World} {es : List Value} (hl : es.length = 3) (h : Rd Try.prog w 28 es) : ∃ t : Tx, es = [.int .u8 t.1, .int .u32 t.2.1, .int .u32 t.2.2] := by
  match es, hl with
  | [x0, x1, x2], _ =>
    have h0 : Rd Try.prog w 5 [x0] := h.field Try.underlying28 0 5 0 1 rfl cellsU8
    have h1 : Rd Try.prog w 26 [x1] := h.field Try.underlying28 1 26 1 1 rfl cellsU32
    have h2 : Rd Try.prog w 26 [x2] := h.field Try.underlying28 2 26 2 1 rfl cellsU32
    obtain ⟨a, e0, _⟩ := h0.int Try.underlying5
    obtain ⟨b, e1, _⟩ := h1.int Try.underlying26
    obtain ⟨c, e2, _⟩ := h2.int Try.underlying26
    simp only [List.cons.injEq, and_true] at e0 e1 e2
    subst e0 e1 e2
    exact ⟨(a, b, c), rfl⟩
theorem op_read {w : World} {es : List Value} (hl : es.length = 8) (h : Rd Try.prog w 43 es) : ∃ (o : OpD) (bo : Option Addr) (bc : Nat), es = opC o bo bc ∧ OpOk w o bo bc := by
  match es, hl with
  | [x0, x1, x2, x3, x4, x5, x6, x7], _ =>
    have h0 : Rd Try.prog w 5 [x0] := h.field Try.underlying43 0 5 0 1 rfl cellsU8
    have h1 : Rd Try.prog w 28 [x1, x2, x3] := h.field Try.underlying43 1 28 1 3 rfl cellsTx
    have h2 : Rd Try.prog w 22 [x4] := h.field Try.underlying43 2 22 4 1 rfl cellsB
    have h3 : Rd Try.prog w 5 [x5] := h.field Try.underlying43 3 5 5 1 rfl cellsU8
    have h4 : Rd Try.prog w 4 [x6] := h.field Try.underlying43 4 4 6 1 rfl cellsBo
    have h5 : Rd Try.prog w 3 [x7] := h.field Try.underlying43 5 3 7 1 rfl cellsI
    obtain ⟨kd, e0, _⟩ := h0.int Try.underlying5
    obtain ⟨t, e1⟩ := tx_read rfl h1
    obtain ⟨ao, n, c, e2⟩ := h2.isSlice Try.underlying22
    obtain ⟨x, e3, _⟩ := h3.int Try.underlying5
    obtain ⟨yes, e4⟩ := h4.bool Try.underlying4
    obtain ⟨s, e5, _⟩ := h5.int Try.underlying3
    simp only [List.cons.injEq, and_true] at e0 e1 e2 e3 e4 e5
    obtain ⟨e10, e11, e12⟩ := e1
    subst e0 e10 e11 e12 e2 e3 e4 e5
    obtain ⟨l, rfl, q1, q2⟩ := h2.byt
    have h9 : l.length ≤ 140737488351232 := by
      obtain ⟨_, _, q3, _⟩ := h2.row1 Try.underlying22 cellsU8
      rw [bytesU8] at q3
      unfold reachBytes at q3
      omega
    refine ⟨⟨kd, t, l, x, yes, s⟩, ao, c, rfl, q1, q2, h9, fun h0 g hg => ?_⟩
    obtain ⟨ao', c', e, _, _, q3⟩ := q1
    simp only [Value.slice.injEq] at e
    obtain ⟨rfl, _, rfl⟩ := e
    obtain ⟨b, off, rfl, hc⟩ := q3 0 _ (List.getElem?_eq_getElem h0)
    simp [Value.ownBlock] at hg
    subst hg
    exact cell_lt hc
theorem scr_read {w : World} {a : Option Addr} {len cap : Nat} (h : Rd Try.prog w 36 [.slice a len cap]) : ∃ ops : List OpD, ops.length = len ∧ ScrAt w (.slice a len cap) ops := by
  obtain ⟨q1, q2, q3, q4, q5⟩ := h.row Try.underlying36 cellsOp (by decide)
  have hex : ∀ i, ∃ o : OpD, i < len → ∃ b off bo bc, a = some ⟨b, off, none⟩ ∧ (∀ j u, (opC o bo bc)[j]? = some u → w.cell? ⟨b, off + (i * 8 + j), none⟩ = some u) ∧ OpOk w o bo bc := by
    intro i
    by_cases hi : i < len
    · obtain ⟨b, off, es, e1, e2, e3, e4, e5⟩ := q5 i (by omega)
      obtain ⟨x, bo, bc, rfl, hok⟩ := op_read e3 e5
      refine ⟨x, fun _ => ⟨b, off, bo, bc, e1, fun j u hu => ?_, hok⟩⟩
      obtain ⟨hj, e⟩ := List.getElem?_eq_some_iff.1 hu
      have h := e4 j (by simpa [opC] using hj)
      rw [← e]
      rw [show off + (i * 8 + j) = off + i * 8 + j by omega]
      exact h.trans (List.getElem?_eq_getElem hj)
    · exact ⟨⟨0, (0, 0, 0), [], 0, false, 0⟩, fun h => absurd h hi⟩
  refine ⟨(List.range len).map fun i => (hex i).choose, by simp, a, cap, by simp, by simpa using q1, q2, fun k x hx => ?_⟩
  rw [List.getElem?_map, Option.map_eq_some_iff] at hx
  obtain ⟨i, hi, rfl⟩ := hx
  obtain ⟨hk, e⟩ := List.getElem?_eq_some_iff.1 hi
  simp at hk e
  subst e
  exact (hex k).choose_spec hk
/-- the state behind some calls -/
def runG (z : Bool) (ops : List OpD) (G : List (Tx × Rn)) : List (Tx × Rn) := ops.foldl (fun G o => stG z G o.kd o.t o.l o.x o.yes) G
def runK (z : Bool) (ops : List OpD) (K : List (Tx × Int)) : List (Tx × Int) := ops.foldl (fun K o => stepK z K o.kd o.t o.s) K
def runT (z : Bool) (ops : List OpD) (T : List (Tx × Int)) : List (Tx × Int) := ops.foldl (fun T o => stepT z T o.kd o.t o.s) T
theorem runG_len (z : Bool) : ∀ (ops : List OpD) (G : List (Tx × Rn)), (runG z ops G).length ≤ G.length + ops.length
  | [], _ => Nat.le_refl _
  | o :: ops, G => by
    have h1 := runG_len z ops (stG z G o.kd o.t o.l o.x o.yes)
    have h2 := stG_len z G o.kd o.t o.l o.x o.yes
    show (runG z ops (stG z G o.kd o.t o.l o.x o.yes)).length ≤ _
    rw [List.length_cons]; omega
theorem runK_len (z : Bool) : ∀ (ops : List OpD) (K : List (Tx × Int)), (runK z ops K).length ≤ K.length + ops.length
  | [], _ => Nat.le_refl _
  | o :: ops, K => by
    have h1 := runK_len z ops (stepK z K o.kd o.t o.s)
    have h2 := stepK_len z K o.kd o.t o.s
    show (runK z ops (stepK z K o.kd o.t o.s)).length ≤ _
    rw [List.length_cons]; omega
theorem runG_snoc (z : Bool) (ops : List OpD) (o : OpD) (G : List (Tx × Rn)) : runG z (ops ++ [o]) G = stG z (runG z ops G) o.kd o.t o.l o.x o.yes := by simp [runG, List.foldl_append]
theorem runK_snoc (z : Bool) (ops : List OpD) (o : OpD) (K : List (Tx × Int)) : runK z (ops ++ [o]) K = stepK z (runK z ops K) o.kd o.t o.s := by simp [runK, List.foldl_append]
theorem runT_snoc (z : Bool) (ops : List OpD) (o : OpD) (T : List (Tx × Int)) : runT z (ops ++ [o]) T = stepT z (runT z ops T) o.kd o.t o.s := by simp [runT, List.foldl_append]
end Go.Proofs.Ytaobioleodfafaa
/- Owing, of what is committed: as many as there are nodes. -/
namespace Go.Proofs.Ytaobioleodfafaa
open Go.RowKit
theorem infoB : (Try.prog.info? 5).map (fun i => (i.zero, i.size, i.bytes)) = some (some (.int .u8 0), 1, 1) := by kernel_rfl
theorem byte_src (w : World) (x : Int) {b : Nat} (hb : w.heap.size = b) : Src (w.alloc (.cells #[.int .u8 x] 5)) 1 (.slice (some ⟨b, 0, none⟩) 1 1) 1 [.int .u8 x] := by
  subst hb
  exact src_row rfl (fun j u hu => by rw [row_cell (row_new w _)]; simpa using hu) (by simp [Value.oneCell'])
set_option maxRecDepth 100000 in
set_option maxHeartbeats 1000000 in
theorem owing_len {B T B' T' : Nat} {w : World} {bb m1 rb mp : Nat} {ns : List Int} {pb : Int → Nat} {Y : Int → Bool} {t1 t2 t3 : Int} (hb : BookAt B T w bb m1 [((t1, t2, t3), ptr rb)]) (hr : RunAt B' T' w rb mp ns pb Y 3) (hn : ns.length ≤ 4) :
    Calls Try.prog 16 #[.pointer (some ⟨bb, 0, none⟩), .agg #[.int .u8 t1, .int .u32 t2, .int .u32 t3]] w fun e w' => (∃ a c, e = .returned (.slice a ns.length c)) ∧ Kept (fun _ => False) w w' := by
  have hk1 := (Kept.refl (fun _ => False) w).alloc (.cells #[.int .u8 t1, .int .u32 t2, .int .u32 t3] 28)
  have hkb := row_new w (.cells #[.int .u8 t1, .int .u32 t2, .int .u32 t3] 28)
  obtain ⟨w1, hw1⟩ : ∃ w1, w.alloc (.cells #[.int .u8 t1, .int .u32 t2, .int .u32 t3] 28) = w1 := ⟨_, rfl⟩
  obtain ⟨kb, hkb'⟩ : ∃ kb, w.heap.size = kb := ⟨_, rfl⟩
  rw [hw1] at hk1 hkb
  rw [hkb'] at hkb
  have HB := hid (hb.same hk1); have HR := hid (hr.same hk1); have K1 := hid hk1; have HK := hid hkb
  obtain ⟨c0, l0⟩ := HB.out.facts
  obtain ⟨d0, d1, d2⟩ := cells3 HK.out
  obtain ⟨N, hN⟩ : ∃ N, ns.length = N := ⟨_, rfl⟩
  rw [hN] at hn ⊢
  have HN := hid hN
  clear hb hr hkb hk1 hN
  go_enter Try.func16, Try.ntmps16
  go_wp2_with fail
  try rw [hw1, hkb']
  clear hw1 hkb'
  go_quiet (fail)
  have KQ := kept_drewN (F := fun _ => False) w1 nq
  have HB2 := hid (HB.out.same KQ); have HR2 := hid (HR.out.same KQ); have HK2 := hid ((KQ.block _ (row_lt HK.out) id).trans HK.out); have K2 := hid (K1.out.trans KQ)
  obtain ⟨w2, hw2⟩ : ∃ w2, w1.drewN nq = w2 := ⟨_, rfl⟩
  rw [hw2] at HB2 HR2 HK2 K2 ⊢
  obtain ⟨c0, l0⟩ := HB2.out.facts
  obtain ⟨d0, d1, d2⟩ := cells3 HK2.out
  clear HB HR HK K1 KQ hw2
  go_wp2_with fail
  go_quiet (fail)
  have KQ := kept_drewN (F := fun _ => False) w2 nq
  have HR3 := hid (HR2.out.same KQ); have K3 := hid (K2.out.trans KQ)
  obtain ⟨w3, hw3⟩ : ∃ w3, w2.drewN nq = w3 := ⟨_, rfl⟩
  rw [hw3] at HR3 K3 ⊢
  obtain ⟨r0, r1, _⟩ := HR3.out.facts
  clear HB2 HR2 HK2 K2 KQ hw3 c0 l0 d0 d1 d2 r1
  go_wp2_with fail
  refine (keys_any (some mp) w3).mono ?_
  rintro e w4 ⟨rfl, hw4⟩
  have hb := row_new w3 (.cells #[.map (some mp)] 55)
  have hk4 := (Kept.refl (fun _ => False) w3).alloc (.cells #[.map (some mp)] 55)
  rw [← hw4] at hb hk4
  have cb := row_cell hb 0
  simp only [List.getElem?_toArray, List.getElem?_cons_zero] at cb
  obtain ⟨bm, hbm⟩ : ∃ bm, w3.heap.size = bm := ⟨_, rfl⟩
  rw [hbm] at cb ⊢
  have HR4 := hid (HR3.out.same hk4); have K4 := hid (K3.out.trans hk4)
  clear hb hk4 hw4 hbm HR3 K3 r0
  go_wp2_with fail
  have hpl : (pents ns pb).length = N := by simp [pents, HN.out]
  have hpk : (pents ns pb).map (·.1) = ns := by
    simp only [pents, List.map_map]
    have e : ((fun p : Int × Value => p.1) ∘ fun v => (v, ptr (pb v))) = id := rfl
    rw [e, List.map_id]
  refine (sorted_any cb (L := pents ns pb) (by exact HR4.out.map.mapOf) (by rw [hpl]; omega)).mono ?_
  rintro e w5 ⟨sa, sc, rfl, hs, hf, hk5⟩
  rw [hpk] at hs
  rw [hpl] at hs hf ⊢
  have HOM := hid (fun (x : Int) (hx : x ∈ ordered ns) => show x ∈ ns from (List.mergeSort_perm ns _).mem_iff.1 hx)
  obtain ⟨D, hD⟩ : ∃ D, ordered ns = D := ⟨_, rfl⟩
  have hDl : D.length = N := by rw [← hD, ordered_len]; exact HN.out
  rw [hD] at hs HOM
  have HS := hid hs; have HF := hid hf; have HR5 := hid (HR4.out.same hk5); have K5 := hid (K4.out.trans hk5); have HDL := hid hDl
  clear hs hf hk5 cb hpl hpk hD hDl HR4 K4
  go_wp2_with fail
  go_loopw [6, 34] (fun o i wr => ∃ (k : Nat) (a : Option Addr) (c : Nat) (xs : List Value), i = .int .i64 k ∧ k ≤ N ∧ o = .slice a k c ∧ Own wr 5 1 (.slice a k c) k xs ∧ (∀ b, (Value.slice a k c).ownBlock = some b → w5.heap.size ≤ b) ∧ Kept (fun _ => False) w5 wr) (fun _ i _ => N - (RowKit.intOf i).toNat)
  case atStart => exact ⟨0, none, 0, [], rfl, Nat.zero_le _, rfl, Own.nil _ _ _, fun b hb => by simp [Value.ownBlock] at hb, Kept.refl _ _⟩
  case round =>
    rename World => wA
    obtain ⟨k, a, c, xs, rfl, hk, rfl, ho, hf, hkp⟩ := hrel
    have HA := hid ho; have HAF := hid hf; have KA := hid hkp
    clear ho hf hkp
    by_cases hlt : k < N
    · have hltI : (k : Int) < (N : Int) := by omega
      obtain ⟨v, hv⟩ : ∃ v, D[k]? = some v := ⟨_, List.getElem?_eq_getElem (by rw [HDL.out]; exact hlt)⟩
      have hvn := HOM.out v (List.mem_of_getElem? hv)
      have HRA := hid (HR5.out.same KA.out)
      obtain ⟨r0, r1, _⟩ := HRA.out.facts
      obtain ⟨p0, p1, _⟩ := HRA.out.pcell hvn
      have lk0 : (Instr.lookup 55 (.map (some mp)) (.int .u8 v) false).run Try.prog wA = .ok (.pointer (some ⟨pb v, 0, none⟩)) wA := HRA.out.look hvn 0
      obtain ⟨gs, sc', hse, hs1, hs2⟩ := HS.out.some_of_pos (by omega)
      simp only [Value.slice.injEq] at hse
      obtain ⟨rfl, _, rfl⟩ := hse
      have cs : wA.cell? ⟨gs, k, none⟩ = some (.int .u8 v) := by
        have := KA.out.cell (HS.out.cells rfl k (by simp [HDL.out]; exact hlt)) id
        rw [this]
        simp only [List.getElem_map]
        rw [(List.getElem?_eq_some_iff.1 hv).2]
      unfold maxLen at hs2
      clear hv hvn hs1
      go_wp2_with (at_builtin; refine wpList_app rfl _ _ 22 rfl 5 _ 1 1 Try.underlying22 infoB rfl (by decide) _ k xs rfl (by exact HA.out.alloc _) _ rfl 1 _ (byte_src _ v (by simp)) (by unfold maxLen; omega) (by omega) ?_; intro a' c' w6 ho3 hk3 hf3 _; have HA3 := hid ho3; have HK3 := hid hk3; have HF3 := hid hf3; clear ho3 hk3 hf3)
      go_roundw
      case rel =>
        refine ⟨k + 1, a', c', _, by go_num, by omega, rfl, HA3.out, fun b hb => ?_, (KA.out.alloc _).trans' HK3.out (fun i hi => .inr (HAF.out i hi))⟩
        rcases HF3.out b hb with h | h
        · exact HAF.out b h
        · simp at h; have := KA.out.size; omega
      case measure => (simp only [RowKit.intOf]; omega)
    · obtain rfl : k = N := by omega
      go_wp2
      go_ret
      exact ⟨⟨a, c, rfl⟩, K5.out.trans KA.out⟩
end Go.Proofs.Ytaobioleodfafaa
/- awake. -/
namespace Go.Proofs.Ytaobioleodfafaa
open Go.RowKit
/-- the book with its one run, and the block that holds the TxID -/
structure St (B U : Nat) (w : World) (bb m1 rb mp tb : Nat) (ns : List Int) (pb : Int → Nat) (Y : Int → Bool) (st : Int) : Prop where
  book : ∃ T B' T', BookAt B T w bb m1 [((0, 0, 1), ptr rb)] ∧ RunAt B' T' w rb mp ns pb Y st ∧ T ≤ B' ∧ B ≤ B' ∧ tb < B' ∧ T' ≤ U
  tx : w.heap[tb]? = some (.cells #[.int .u8 0, .int .u32 0, .int .u32 1] 28 (0, 0))
section
variable {B U : Nat} {w : World} {bb m1 rb mp tb : Nat} {ns : List Int} {pb : Int → Nat} {Y : Int → Bool} {st : Int}
theorem St.same {w' : World} (h : St B U w bb m1 rb mp tb ns pb Y st) (k : Kept (fun _ => False) w w') : St B U w' bb m1 rb mp tb ns pb Y st := by
  obtain ⟨⟨T, B', T', h1, h2, h3, h4, h5, h6⟩, h7⟩ := h
  exact ⟨⟨T, B', T', h1.same k, h2.same k, h3, h4, h5, h6⟩, (k.block _ (row_lt h7) id).trans h7⟩
theorem St.kept {w' : World} {F : Nat → Prop} (h : St B U w bb m1 rb mp tb ns pb Y st) (k : Kept F w w') (hF : ∀ i, i < U → ¬ F i) : St B U w' bb m1 rb mp tb ns pb Y st := by
  obtain ⟨⟨T, B', T', h1, h2, h3, h4, h5, h6⟩, h7⟩ := h
  have hin := h2.inn.1
  unfold In at hin
  exact ⟨⟨T, B', T', h1.kept k (fun i hi => hF i (by unfold In at hi; omega)), h2.kept k (fun i hi => hF i (by unfold In at hi; omega)), h3, h4, h5, h6⟩, (k.block _ (row_lt h7) (hF tb (by omega))).trans h7⟩
theorem St.vote (h : St B U w bb m1 rb mp tb ns pb Y st) {x : Int} (hx : x ∈ ns) (yes : Bool) :
    Calls Try.prog 10 #[.pointer (some ⟨bb, 0, none⟩), .agg #[.int .u8 0, .int .u32 0, .int .u32 1], .int .u8 x, .bool yes] w fun e w' => e = .returned (.tuple #[.int .i64 (vt ns Y st x yes).1, .int .i64 (vt ns Y st x yes).2.1]) ∧
      St B U w' bb m1 rb mp tb ns pb (vt ns Y st x yes).2.2.2 (vt ns Y st x yes).2.2.1 ∧ Kept (fun i => B ≤ i ∧ i ≠ tb ∧ i < U) w w' := by
  obtain ⟨⟨T, B', T', h1, h2, h3, h4, h5, h6⟩, h7⟩ := h
  refine (vote_any h1 h2 h3 hx yes).mono ?_
  rintro e w' ⟨rfl, hb, hr, hk⟩
  exact ⟨rfl, ⟨⟨T, B', T', hb, hr, h3, h4, h5, h6⟩, (hk.block _ (row_lt h7) (fun h => by unfold In at h; omega)).trans h7⟩, hk.mono (fun i _ hi => by unfold In at hi; exact ⟨by omega, by omega, by omega⟩)⟩
theorem St.commit (h : St B U w bb m1 rb mp tb ns pb Y st) :
    Calls Try.prog 11 #[.pointer (some ⟨bb, 0, none⟩), .agg #[.int .u8 0, .int .u32 0, .int .u32 1]] w fun e w' => e = .returned (.int .i64 (cm ns Y st).1) ∧
      St B U w' bb m1 rb mp tb ns pb Y (cm ns Y st).2 ∧ Kept (fun i => B ≤ i ∧ i ≠ tb ∧ i < U) w w' := by
  obtain ⟨⟨T, B', T', h1, h2, h3, h4, h5, h6⟩, h7⟩ := h
  refine (commit_any h1 h2 h3).mono ?_
  rintro e w' ⟨rfl, hb, hr, hk⟩
  exact ⟨rfl, ⟨⟨T, B', T', hb, hr, h3, h4, h5, h6⟩, (hk.block _ (row_lt h7) (fun h => by unfold In at h; omega)).trans h7⟩, hk.mono (fun i _ hi => by unfold In at hi; exact ⟨by omega, by omega, by omega⟩)⟩
theorem St.runs (h : St B U w bb m1 rb mp tb ns pb Y st) :
    Calls Try.prog 13 #[.pointer (some ⟨bb, 0, none⟩), .agg #[.int .u8 0, .int .u32 0, .int .u32 1]] w fun e w' => e = .returned (.int .i64 st) ∧ Kept (fun _ => False) w w' := by
  obtain ⟨⟨T, B', T', h1, h2, _⟩, _⟩ := h
  exact runs_any h1 h2
theorem St.owing (h : St B U w bb m1 rb mp tb ns pb Y 3) (hn : ns.length ≤ 4) :
    Calls Try.prog 16 #[.pointer (some ⟨bb, 0, none⟩), .agg #[.int .u8 0, .int .u32 0, .int .u32 1]] w fun e w' => (∃ a c, e = .returned (.slice a ns.length c)) ∧ Kept (fun _ => False) w w' := by
  obtain ⟨⟨T, B', T', h1, h2, _⟩, _⟩ := h
  exact owing_len h1 h2 hn
theorem St.cells (h : St B U w bb m1 rb mp tb ns pb Y st) : w.cell? ⟨tb, 0, none⟩ = some (.int .u8 0) ∧ w.cell? ⟨tb, 1, none⟩ = some (.int .u32 0) ∧ w.cell? ⟨tb, 2, none⟩ = some (.int .u32 1) := cells3 h.tx
end
set_option maxHeartbeats 400000 in
/-- Begin of (0, 0, 1) -/
theorem st_begin {B T : Nat} {w : World} {F : Nat → Prop} {bb m1 tb : Nat} (hb : BookAt B T w bb m1 []) (hT : T ≤ w.heap.size) (ht : w.heap[tb]? = some (.cells #[.int .u8 0, .int .u32 0, .int .u32 1] 28 (0, 0))) {a : Option Addr} {N c : Nat} {ns : List Int} (hl : Lies F w 1 (.slice a N c) N (bcells ns)) (h4 : 1 ≤ N ∧ N ≤ 4) (hn : ns.Nodup) (hr : ∀ v ∈ ns, 0 ≤ v ∧ v < 4) :
    Calls Try.prog 9 #[.pointer (some ⟨bb, 0, none⟩), .agg #[.int .u8 0, .int .u32 0, .int .u32 1], .slice a N c] w fun e w' => e = .returned (.int .i64 0) ∧ (∃ rb mp pb, St B w'.heap.size w' bb m1 rb mp tb ns pb (fun _ => false) 1) ∧ Kept (fun i => B ≤ i ∧ i ≠ tb ∧ i < w.heap.size) w w' := by
  have hne : m1 ≠ tb := fun e => by
    obtain ⟨es, cl, hm, _⟩ := hb.map
    rw [e, ht] at hm
    simp at hm
  have hin := hb.inn
  unfold In at hin
  refine (begin_any hb (0, 0, 1) hl h4 hn hr).mono ?_
  rintro e w' ⟨rfl, ⟨rb, mp, pb, h1, h2⟩, hk⟩
  exact ⟨rfl, ⟨rb, mp, pb, ⟨⟨T, w.heap.size, w'.heap.size, h1, h2, hT, by omega, row_lt ht, Nat.le_refl _⟩, (hk.block _ (row_lt ht) (fun e => hne e.symm)).trans ht⟩⟩, hk.mono (fun i _ e => ⟨by omega, by omega, by omega⟩)⟩
set_option maxRecDepth 100000 in
set_option maxHeartbeats 1000000 in
theorem awake_any (w : World) :
    Calls Try.prog 7 #[] w fun e w' => e = .returned (.bool true) ∧ Below w.heap.size w w' := by
  go_enter Try.func7, Try.ntmps7
  go_wp2_with fail
  refine (new_any _).mono ?_; rintro e w1 ⟨rfl, hb1, hk1⟩
  simp only [ptr]
  have HB1 := hid hb1; have K1 := hid hk1
  have hz : w.heap.size + 2 < w1.heap.size := by obtain ⟨m2, h⟩ := hb1.obj; exact row_lt h
  clear hb1 hk1
  obtain ⟨bb, hbb⟩ : ∃ bb, w.heap.size + 2 = bb := ⟨_, rfl⟩
  rw [hbb] at HB1 hz ⊢
  have HZ := hid (show w.heap.size + 3 ≤ w1.heap.size by omega)
  clear hz hbb
  go_wp2_with fail
  have htw := two_new w1 (.cells #[.int .u8 0, .int .u32 0, .int .u32 1] 28) (.cells #[.int .u8 0, .int .u8 2] 5)
  have hk2 := (((Kept.refl (fun _ => False) w1).alloc (.cells #[.int .u8 0, .int .u32 0, .int .u32 1] 28)).alloc (.cells #[.int .u8 0, .int .u8 2] 5))
  obtain ⟨w2, hw2⟩ : ∃ w2, (w1.alloc (.cells #[.int .u8 0, .int .u32 0, .int .u32 1] 28)).alloc (.cells #[.int .u8 0, .int .u8 2] 5) = w2 := ⟨_, rfl⟩
  rw [hw2] at htw hk2 ⊢
  obtain ⟨tb, htb⟩ : ∃ tb, w1.heap.size = tb := ⟨_, rfl⟩
  rw [htb] at htw HZ ⊢
  have HTW := hid htw; have HB2 := hid (HB1.out.same hk2); have K2 := hid (K1.out.trans hk2)
  have hz2 : w.heap.size + 3 ≤ w2.heap.size := by have := row_lt htw.1; have := HZ.out; omega
  have hls : Lies (fun _ => False) w2 1 (.slice (some ⟨tb + 1, 0, none⟩) 2 2) 2 (bcells [0, 2]) := (Own.mk (n := 2) htw.2 (Nat.le_refl _) (by decide) rfl).lies (by simp [Value.oneCell']) (fun _ _ => id)
  have HLS := hid hls; have HZ2 := hid hz2
  clear htw hk2 hls hz2 hw2 htb HB1 K1
  refine (st_begin HB2.out HZ2.out HTW.out.1 HLS.out (by omega) (by decide) (by decide)).mono ?_
  rintro e w3 ⟨rfl, ⟨rb, mp, pb, hst⟩, hk⟩
  have S3 := hid hst
  have K3 := hid (K2.out.trans' hk (fun i h => .inr h.1))
  obtain ⟨d0, d1, d2⟩ := S3.out.cells
  clear hst hk HTW HB2 HLS HZ2 K2 HZ
  have v1 : vt [0, 2] (fun _ => false) 1 0 true = (1, 0, 1, setY (fun _ => false) 0) := by simp [vt, setY]
  have v2 : cm [0, 2] (setY (fun _ => false) 0) 1 = (9, 1) := by simp [cm, setY]
  have v3 : vt [0, 2] (setY (fun _ => false) 0) 1 2 true = (3, 0, 1, setY (setY (fun _ => false) 0) 2) := by simp [vt, setY]
  have v4 : cm [0, 2] (setY (setY (fun _ => false) 0) 2) 1 = (0, 3) := by simp [cm, setY]
  obtain ⟨Y1, hY1⟩ : ∃ Y, setY (fun _ => false) 0 = Y := ⟨_, rfl⟩
  rw [hY1] at v1 v2 v3 v4
  obtain ⟨Y2, hY2⟩ : ∃ Y, setY Y1 2 = Y := ⟨_, rfl⟩
  rw [hY2] at v3 v4
  have V1 := hid v1; have V2 := hid v2; have V3 := hid v3; have V4 := hid v4
  clear v1 v2 v3 v4 hY1 hY2
  go_wp2_with fail
  refine (S3.out.vote (x := 0) (by decide) true).mono ?_
  rintro e w4 ⟨rfl, hst, hk⟩
  rw [V1.out] at hst ⊢
  have S4 := hid hst; have K4 := hid (K3.out.trans' hk (fun i h => .inr h.1))
  obtain ⟨d0, d1, d2⟩ := S4.out.cells
  clear hst hk S3 K3
  go_wp2_with fail
  refine (S4.out.commit).mono ?_
  rintro e w5 ⟨rfl, hst, hk⟩
  rw [V2.out] at hst ⊢
  have S5 := hid hst; have K5 := hid (K4.out.trans' hk (fun i h => .inr h.1))
  obtain ⟨d0, d1, d2⟩ := S5.out.cells
  clear hst hk S4 K4
  go_wp2_with fail
  refine (S5.out.vote (x := 2) (by decide) true).mono ?_
  rintro e w6 ⟨rfl, hst, hk⟩
  rw [V3.out] at hst ⊢
  have S6 := hid hst; have K6 := hid (K5.out.trans' hk (fun i h => .inr h.1))
  obtain ⟨d0, d1, d2⟩ := S6.out.cells
  clear hst hk S5 K5
  go_wp2_with fail
  refine (S6.out.commit).mono ?_
  rintro e w7 ⟨rfl, hst, hk⟩
  rw [V4.out] at hst ⊢
  have S7 := hid hst; have K7 := hid (K6.out.trans' hk (fun i h => .inr h.1))
  obtain ⟨d0, d1, d2⟩ := S7.out.cells
  clear hst hk S6 K6
  go_wp2_with fail
  refine (S7.out.runs).mono ?_
  rintro e w8 ⟨rfl, hk⟩
  have S8 := hid (S7.out.same hk); have K8 := hid (K7.out.trans hk)
  obtain ⟨d0, d1, d2⟩ := S8.out.cells
  clear hk S7 K7
  go_wp2_with fail
  refine (S8.out.owing (by decide)).mono ?_
  rintro e w9 ⟨⟨a, c, rfl⟩, hk⟩
  have K9 := hid (K8.out.trans hk)
  clear hk S8 K8
  go_wp2
  go_ret
  exact ⟨rfl, K9.out.below (Nat.le_refl _) (fun _ h => h.elim)⟩
end Go.Proofs.Ytaobioleodfafaa
/- CommitPlays' walk. -/
namespace Go.Proofs.Ytaobioleodfafaa
open Go.RowKit
theorem ScrAt.shape {w : World} {v : Value} {ops : List OpD} (h : ScrAt w v ops) : ∃ ao c, v = .slice ao ops.length c ∧ ops.length ≤ 9223372036854775807 := by
  obtain ⟨ao, c, e, h1, h2, _⟩ := h
  unfold maxLen at h2
  exact ⟨ao, c, e, by omega⟩
theorem ScrAt.at {w : World} {a : Option Addr} {n c : Nat} {ops : List OpD} (h : ScrAt w (.slice a n c) ops) {k : Nat} {o : OpD} (hk : ops[k]? = some o) :
    ∃ b off bo bc, a = some ⟨b, off, none⟩ ∧ (w.cell? ⟨b, off + k * 8, none⟩ = some (.int .u8 o.kd) ∧ w.cell? ⟨b, off + k * 8 + 1, none⟩ = some (.int .u8 o.t.1) ∧ w.cell? ⟨b, off + k * 8 + 2, none⟩ = some (.int .u32 o.t.2.1) ∧ w.cell? ⟨b, off + k * 8 + 3, none⟩ = some (.int .u32 o.t.2.2) ∧
      w.cell? ⟨b, off + k * 8 + 4, none⟩ = some (.slice bo o.l.length bc) ∧ w.cell? ⟨b, off + k * 8 + 5, none⟩ = some (.int .u8 o.x) ∧ w.cell? ⟨b, off + k * 8 + 6, none⟩ = some (.bool o.yes) ∧ w.cell? ⟨b, off + k * 8 + 7, none⟩ = some (.int .i64 o.s)) ∧ OpOk w o bo bc := by
  obtain ⟨ao, c', e, h1, h2, h3⟩ := h
  simp only [Value.slice.injEq] at e
  obtain ⟨rfl, _, _⟩ := e
  obtain ⟨b, off, bo, bc, rfl, q1, q2⟩ := h3 k o hk
  exact ⟨b, off, bo, bc, rfl, ⟨q1 0 _ rfl, q1 1 _ rfl, q1 2 _ rfl, q1 3 _ rfl, q1 4 _ rfl, q1 5 _ rfl, q1 6 _ rfl, q1 7 _ rfl⟩, q2⟩
theorem infoOps : (Try.prog.info? 43).map (·.size) = some 8 := by kernel_rfl
/-- the document's book, new -/
theorem dk_new (w : World) : Dk (fun i => i = w.heap.size) (w.alloc (.cells #[.slice none 0 0, .slice none 0 0] 41)) false (some ⟨w.heap.size, 0, none⟩) [] [] := by
  refine ⟨fun i hi => by subst hi; simp, .inr ⟨rfl, fun _ => none, w.heap.size, none, none, 0, 0, fun _ => ⟨0, 0, 0, 0⟩, rfl, ⟨row_new w _, Own.nil _ _ _, Own.nil _ _ _, (fun p hp => nomatch hp), ⟨rfl, fun g hg => rfl, fun g hg => rfl⟩, fun i _ => rfl⟩, ?_⟩⟩
  rintro i (h | h | h | h)
  · exact h
  · simp [Value.ownBlock] at h
  · simp [Value.ownBlock] at h
  · exact absurd rfl h
theorem okay_nil : Okay [] := ⟨by simp, fun p hp => by cases hp⟩
theorem rel_nil : Rel [] [] := ⟨List.Perm.refl _, by simp, by simp, fun p hp => by cases hp⟩
theorem both_nil (w : World) : Both (fun _ => False) (fun _ => False) w true none none [] [] [] :=
  ⟨⟨fun _ h => h.elim, .inl ⟨rfl, rfl, rfl, rfl⟩⟩, ⟨fun _ h => h.elim, .inl ⟨rfl, rfl, rfl, rfl⟩⟩, fun _ h => h.elim, okay_nil, rel_nil⟩
-- the range variable's block: $1 its slot, $2 the slot of what is loaded
set_option maxRecDepth 100000 in
set_option maxHeartbeats 2000000 in
theorem plays_walk (W : World) (args : Array Value) (h : RdAll Try.prog W Try.f4.params.toList args.toList) :
    Calls Try.prog 4 args W fun e W' => e = .returned (.bool true) ∧ Below W.heap.size W W' := by
  rw [Try.params4] at h
  obtain ⟨v0, rfl⟩ : ∃ v0, args = #[v0] := by
    rcases args with ⟨_ | ⟨v0, _ | ⟨v1, l⟩⟩⟩ <;> simp [RdAll] at h
    exact ⟨v0, rfl⟩
  obtain ⟨r0, _⟩ := h
  obtain ⟨sa, sl, sc, rfl, h0⟩ := r0.slice Try.underlying36
  obtain ⟨ops, hlen, hscr⟩ := scr_read h0
  have hsz : sl ≤ 9223372036854775807 := by
    obtain ⟨_, _, e, h⟩ := hscr.shape
    omega
  have HSC := hid hscr; have HLEN := hid hlen
  clear r0 h0 hscr hlen
  go_enter Try.func4, Try.ntmps4
  go_wp2_with fail
  refine (awake_any _).mono ?_; rintro e w1 ⟨rfl, hb1⟩
  have K1 := hid (Kept.of_below hb1 (fun _ => False))
  clear hb1
  go_wp2_with fail
  refine (bnew _).mono ?_; rintro e w2 ⟨ba, rfl, hbn, hbk, hk⟩
  have hd := dk_new w2
  have hb2 := hbk.same ((Kept.refl (fun _ => False) w2).alloc (.cells #[.slice none 0 0, .slice none 0 0] 41))
  have hbo : Both (fun i => w1.heap.size ≤ i ∧ i < w2.heap.size) (fun i => i = w2.heap.size) (w2.alloc (.cells #[.slice none 0 0, .slice none 0 0] 41)) false ba (some ⟨w2.heap.size, 0, none⟩) [] [] [] :=
    ⟨hb2, hd, fun i h e => by omega, okay_nil, rel_nil⟩
  have K2 := hid ((K1.out.trans hk).alloc (.cells #[.slice none 0 0, .slice none 0 0] 41))
  have HS := hid (show W.heap.size ≤ w1.heap.size ∧ w1.heap.size ≤ w2.heap.size from ⟨K1.out.size, hk.size⟩)
  go_wp2_with fail
  obtain ⟨w3, hw3⟩ : ∃ w3, w2.alloc (.cells #[.slice none 0 0, .slice none 0 0] 41) = w3 := ⟨_, rfl⟩
  obtain ⟨xb, hxb⟩ : ∃ xb, w2.heap.size = xb := ⟨_, rfl⟩
  rw [hw3, hxb] at hbo
  rw [hw3] at K2
  rw [hxb] at HS
  try rw [hw3]
  try rw [hxb]
  have B3 := hid hbo
  clear hbo hb2 hd hbk hk hw3 hxb K1
  go_loopw [15] (fun i wr => ∃ (k : Nat) (P Q : Nat → Prop), k ≤ sl ∧ i = .int .i64 k ∧ (k ≤ 150 → Both P Q wr false ba (some ⟨xb, 0, none⟩) (runG false (ops.take k) []) (runK false (ops.take k) []) (runT false (ops.take k) [])) ∧ (∀ i, P i → W.heap.size ≤ i) ∧ (∀ i, Q i → W.heap.size ≤ i) ∧ Kept (fun _ => False) W wr) (fun i _ => sl - (RowKit.intOf i).toNat)
  case atStart => exact ⟨0, _, _, Nat.zero_le _, rfl, fun _ => B3.out, fun i h => by have := HS.out; omega, fun i h => by have := HS.out; omega, K2.out⟩
  case round =>
    rename World => wr
    obtain ⟨k, P, Q, hk, rfl, hbo, hPW, hQW, hkp⟩ := hrel
    have HBO := hid hbo; have HPW := hid hPW; have HQW := hid hQW; have KR := hid hkp
    clear hbo hPW hQW hkp
    by_cases hlt : k < sl
    · have hltI : (k : Int) < (sl : Int) := by omega
      obtain ⟨o, ho⟩ : ∃ o, ops[k]? = some o := ⟨_, List.getElem?_eq_getElem (by rw [HLEN.out]; exact hlt)⟩
      have HO := hid ho
      obtain ⟨gb, off, bo, bc, rfl, ⟨e0, e1, e2, e3, e4, e5, e6, e7⟩, hok⟩ := HSC.out.at ho
      have e0 := KR.out.cell e0 id; have e1 := KR.out.cell e1 id; have e2 := KR.out.cell e2 id; have e3 := KR.out.cell e3 id; have e4 := KR.out.cell e4 id; have e5 := KR.out.cell e5 id; have e6 := KR.out.cell e6 id; have e7 := KR.out.cell e7 id
      have HOK := hid hok
      clear ho hok
      by_cases h150 : k < 150
      · have hge : ¬ (150 : Int) ≤ (k : Int) := by omega
        have B := hid (HBO.out (by omega))
        have hGl := runG_len false (ops.take k) []
        have hKl := runK_len false (ops.take k) []
        have htl : (ops.take k).length ≤ 150 := by rw [List.length_take]; omega
        have HGL := hid (show (runG false (ops.take k) []).length ≤ 1000 by simp at hGl; omega)
        have HKL := hid (show (runK false (ops.take k) []).length ≤ 1000 by simp at hKl; omega)
        clear hGl hKl htl HBO
        obtain ⟨kd, ⟨t1, t2, t3⟩, l, x, yes, s⟩ := o
        obtain ⟨N, hN⟩ : ∃ N, l.length = N := ⟨_, rfl⟩
        simp only [hN] at e0 e1 e2 e3 e4 e5 e6 e7
        have HNN := hid hN
        clear hN
        go_wp2_with (first | (refine wpList_store_row rfl 43 (.tmp 7) (.tmp 19) rfl #[.int .u8 kd, .int .u8 t1, .int .u32 t2, .int .u32 t3, .slice bo N bc, .int .u8 x, .bool yes, .int .i64 s] #[.int .u8 0, .int .u8 0, .int .u32 0, .int .u32 0, .slice none 0 0, .int .u8 0, .bool false, .int .i64 0] (by rfl) (by rfl) (by exact row_new _ _) rfl infoOps (by simp [Value.oneCell']) ?_; intro w3 hb3 hk3; obtain ⟨y0, y1, y2, y3, y4, y5, y6, y7⟩ := cells8 hb3; have k3 := ((Kept.refl (fun _ => False) wr).alloc (.cells #[.int .u8 0, .int .u8 0, .int .u32 0, .int .u32 0, .slice none 0 0, .int .u8 0, .bool false, .int .i64 0] 43)).trans' hk3 (fun i e => .inr (by rw [e]; exact Nat.le_refl _)); have HB3 := hid hb3; have K3 := hid k3; clear hb3 hk3 k3))
        have HNB := hid (show Byt W (.slice bo N bc) l from by rw [← HNN.out]; exact HOK.out.b)
        have HNF := hid (show 0 < l.length → ∀ g, (Value.slice bo N bc).ownBlock = some g → g < W.heap.size from fun h0 g hg => HOK.out.n h0 g (by show (Value.slice bo l.length bc).ownBlock = some g; rw [HNN.out]; exact hg))
        have HNL := hid (show N ≤ 140737488351232 by rw [← HNN.out]; exact HOK.out.len)
        refine (play_any (B.out.same K3.out) HGL.out HKL.out (HNB.out.kept (KR.out.trans K3.out) (fun _ _ => id)) (fun h0 g hg => ⟨fun hp => by have := HNF.out h0 g hg; have := HPW.out g hp; omega, fun hq => by have := HNF.out h0 g hg; have := HQW.out g hq; omega⟩) HOK.out.r HNL.out).mono ?_
        rintro e w4 ⟨rfl, P', Q', hb4, hP4, hQ4, hk4⟩
        have hq1 := runG_snoc false (ops.take k) ⟨kd, (t1, t2, t3), l, x, yes, s⟩ []
        have hq2 := runK_snoc false (ops.take k) ⟨kd, (t1, t2, t3), l, x, yes, s⟩ []
        have hq3 := runT_snoc false (ops.take k) ⟨kd, (t1, t2, t3), l, x, yes, s⟩ []
        have htk : ops.take (k + 1) = ops.take k ++ [⟨kd, (t1, t2, t3), l, x, yes, s⟩] := by rw [List.take_add_one, HO.out]; rfl
        rw [← htk] at hq1 hq2 hq3
        have hz3 : W.heap.size ≤ w3.heap.size := Nat.le_trans KR.out.size K3.out.size
        have B4 := hid (show Both P' Q' w4 false ba (some ⟨xb, 0, none⟩) (runG false (ops.take (k + 1)) []) (runK false (ops.take (k + 1)) []) (runT false (ops.take (k + 1)) []) from by rw [hq1, hq2, hq3]; exact hb4)
        have HP4 := hid (show ∀ i, P' i → W.heap.size ≤ i from fun i h => (hP4 i h).elim (HPW.out i) (fun h => Nat.le_trans hz3 h))
        have HQ4 := hid (show ∀ i, Q' i → W.heap.size ≤ i from fun i h => (hQ4 i h).elim (HQW.out i) (fun h => Nat.le_trans hz3 h))
        have K4 := hid (show Kept (fun _ => False) W w4 from (KR.out.trans K3.out).trans' hk4 (fun i h => .inr (h.elim (HPW.out i) (HQW.out i))))
        have hb5 : w4.heap[wr.heap.size]? = _ := (hk4.block _ (row_lt HB3.out) (fun h => h.elim (fun h => Nat.lt_irrefl _ (B.out.b.lt _ h)) (fun h => Nat.lt_irrefl _ (B.out.d.lt _ h)))).trans HB3.out
        have HB5 := hid hb5
        obtain ⟨y0, y1, y2, y3, y4, y5, y6, y7⟩ := cells8 hb5
        clear hb4 hP4 hQ4 hk4 hq1 hq2 hq3 htk hz3 hb5 B HPW HQW
        by_cases h8 : k < 8
        · have h8I : (k : Int) < 8 := by omega
          go_wp2_with fail
          refine (play_any (both_nil w4) (by simp) (by simp) (HNB.out.kept K4.out (fun _ _ => id)) (fun _ _ _ => ⟨id, id⟩) HOK.out.r HNL.out).mono ?_
          rintro e w5 ⟨rfl, _, _, _, _, _, hk5⟩
          have K5 := hid (show Kept (fun _ => False) w4 w5 from hk5.mono (fun _ _ h => h.elim id id))
          clear hk5
          go_wp2
          go_roundw
          case rel => exact ⟨k + 1, P', Q', by omega, by go_num, fun _ => B4.out.same K5.out, HP4.out, HQ4.out, K4.out.trans K5.out⟩
          case measure => (simp only [RowKit.intOf]; omega)
        · have h8I : ¬ (k : Int) < 8 := by omega
          go_wp2
          go_roundw
          case rel => exact ⟨k + 1, P', Q', by omega, by go_num, fun _ => B4.out, HP4.out, HQ4.out, K4.out⟩
          case measure => (simp only [RowKit.intOf]; omega)
      · have hge : (150 : Int) ≤ (k : Int) := by omega
        obtain ⟨kd, ⟨t1, t2, t3⟩, l, x, yes, s⟩ := o
        obtain ⟨N, hN⟩ : ∃ N, l.length = N := ⟨_, rfl⟩
        simp only [hN] at e0 e1 e2 e3 e4 e5 e6 e7
        clear hN
        go_wp2_with (first | (refine wpList_store_row rfl 43 (.tmp 7) (.tmp 19) rfl #[.int .u8 kd, .int .u8 t1, .int .u32 t2, .int .u32 t3, .slice bo N bc, .int .u8 x, .bool yes, .int .i64 s] #[.int .u8 0, .int .u8 0, .int .u32 0, .int .u32 0, .slice none 0 0, .int .u8 0, .bool false, .int .i64 0] (by rfl) (by rfl) (by exact row_new _ _) rfl infoOps (by simp [Value.oneCell']) ?_; intro w3 hb3 hk3; obtain ⟨y0, y1, y2, y3, y4, y5, y6, y7⟩ := cells8 hb3; have k3 := ((Kept.refl (fun _ => False) wr).alloc (.cells #[.int .u8 0, .int .u8 0, .int .u32 0, .int .u32 0, .slice none 0 0, .int .u8 0, .bool false, .int .i64 0] 43)).trans' hk3 (fun i e => .inr (by rw [e]; exact Nat.le_refl _)); have HB3 := hid hb3; have K3 := hid k3; clear hb3 hk3 k3))
        go_ret
        exact ⟨rfl, (KR.out.trans K3.out).below (Nat.le_refl _) (fun _ h => h.elim)⟩
    · go_wp2
      go_ret
      exact ⟨rfl, KR.out.below (Nat.le_refl _) (fun _ h => h.elim)⟩
end Go.Proofs.Ytaobioleodfafaa
/- CommitOnce, CommitApart: plain. -/
namespace Go.Proofs.Ytaobioleodfafaa
open Go.RowKit
theorem lookG_upd (G : List (Tx × Rn)) (t t' : Tx) (q : Option Rn) : lookG (updG G t q) t' = if t' = t then (match q with | none => lookG G t | some r => (lookG G t).map fun _ => r) else lookG G t' := by
  cases q with
  | none =>
    show lookG G t' = _
    split
    · rename_i h; rw [h]
    · rfl
  | some r => exact lookG_set G t r t'
theorem lookG_app (G : List (Tx × Rn)) (t t' : Tx) (r : Rn) : lookG (G ++ [(t, r)]) t' = match lookG G t' with | some x => some x | none => if t' = t then some r else none := by
  induction G with
  | nil => simp [lookG]
  | cons p G ih =>
    obtain ⟨a, x⟩ := p
    rw [List.cons_append]
    unfold lookG
    by_cases h : t' = a
    · simp [h]
    · rw [if_neg h, if_neg h, ih]
theorem stG_other {z : Bool} (G : List (Tx × Rn)) (kd : Int) {t t' : Tx} (ns : List Int) (x : Int) (yes : Bool) (h : t' ≠ t) : lookG (stG z G kd t ns x yes) t' = lookG G t' := by
  unfold stG
  split
  · unfold begG
    split
    · rw [lookG_app]
      cases lookG G t' <;> simp [h]
    · rfl
  split
  · rw [lookG_upd, if_neg h]
  split
  · rw [lookG_upd, if_neg h]
  split
  · rw [lookG_upd, if_neg h]
  · rfl
/-- what becomes of the run itself -/
def oneG (z : Bool) (o : Option Rn) (kd : Int) (ns : List Int) (x : Int) (yes : Bool) : Option Rn :=
  if kd = 0 then (if begZ z ns o.isSome = 0 then (match o with | some r => some r | none => some (rn0 ns)) else o)
  else if kd = 1 then (match (voteR o x yes).2 with | none => o | some r => o.map fun _ => r)
  else if kd = 2 then (match (comR o).2 with | none => o | some r => o.map fun _ => r)
  else if kd = 3 then (match (appR o x).2 with | none => o | some r => o.map fun _ => r) else o
theorem stG_own {z : Bool} (G : List (Tx × Rn)) (kd : Int) (t : Tx) (ns : List Int) (x : Int) (yes : Bool) : lookG (stG z G kd t ns x yes) t = oneG z (lookG G t) kd ns x yes := by
  unfold stG oneG
  split
  · unfold begG
    split
    · rw [lookG_app]
      cases lookG G t <;> simp
    · rfl
  split
  · rw [lookG_upd, if_pos rfl]
  split
  · rw [lookG_upd, if_pos rfl]
  split
  · rw [lookG_upd, if_pos rfl]
  · rfl
theorem stepK_other {z : Bool} (K : List (Tx × Int)) (kd : Int) {t t' : Tx} (s : Int) (h : t' ≠ t) : stK (stepK z K kd t s) t' = stK K t' := by
  unfold stepK
  split
  · unfold takeZ
    split
    · rfl
    · unfold takeR
      split
      · show stK (layK K t 2) t' = _
        rw [stK_lay, if_neg h]
      · rfl
  split
  · unfold settleR
    split
    · rfl
    split
    · rfl
    split
    · rfl
    · show stK (layK K t s) t' = _
      rw [stK_lay, if_neg h]
  · rfl
def oneK (z : Bool) (v kd s : Int) : Int :=
  if kd = 4 then (if z then v else if v = 0 then 2 else v) else if kd = 5 then (if s ≠ 3 ∧ s ≠ 4 then v else if v = 0 then v else if v ≠ 2 ∧ v ≠ s then v else s) else v
theorem stepK_own {z : Bool} (K : List (Tx × Int)) (kd : Int) (t : Tx) (s : Int) : stK (stepK z K kd t s) t = oneK z (stK K t) kd s := by
  unfold stepK oneK
  split
  · unfold takeZ
    split
    · rfl
    · unfold takeR
      split
      · show stK (layK K t 2) t = _
        rw [stK_lay, if_pos rfl]
      · rfl
  split
  · unfold settleR
    split
    · rfl
    split
    · rfl
    split
    · rfl
    · show stK (layK K t s) t = _
      rw [stK_lay, if_pos rfl]
  · rfl
/-- decided is decided -/
theorem once_run (z : Bool) (o : Option Rn) (kd : Int) (ns : List Int) (x : Int) (yes : Bool) : (stR o = 3 ∨ stR o = 4 → stR (oneG z o kd ns x yes) = stR o) ∧ (stR (oneG z o kd ns x yes) = 3 → stR o ≠ 3 → kd = 2) := by
  unfold oneG
  cases o with
  | none =>
    refine ⟨fun h => by simp [stR] at h, fun h _ => ?_⟩
    split at h
    · split at h
      · simp [stR, rn0] at h
      · simp [stR] at h
    split at h
    · simp [voteR, stR] at h
    split at h
    · assumption
    split at h
    · simp [appR, stR] at h
    · simp [stR] at h
  | some r =>
    by_cases k0 : kd = 0
    · rw [if_pos k0]
      split <;> exact ⟨fun _ => (by first | rfl | trivial), fun h h2 => absurd h h2⟩
    rw [if_neg k0]
    by_cases k1 : kd = 1
    · rw [if_pos k1]
      unfold voteR
      by_cases hx : x ∈ r.ns
      · by_cases hs : r.st = 1
        · simp only [if_pos hx, if_pos hs]
          refine ⟨fun h => by simp [stR, hs] at h, fun h _ => ?_⟩
          cases yes with
          | true =>
            by_cases ha : r.ns.all (setY r.Y x) = true
            · simp [ha, stR, hs] at h
            · simp [ha, stR, hs] at h
          | false => simp [stR] at h
        · simp only [if_pos hx, if_neg hs]
          split
          · exact ⟨fun _ => (by first | rfl | trivial), fun h h2 => absurd h h2⟩
          · rename_i e
            split at e <;> cases e
      · simp only [if_neg hx]
        exact ⟨fun _ => (by first | rfl | trivial), fun h h2 => absurd h h2⟩
    rw [if_neg k1]
    by_cases k2 : kd = 2
    · rw [if_pos k2]
      refine ⟨fun h => ?_, fun _ _ => k2⟩
      unfold comR
      by_cases hs : r.st = 4
      · simp only [if_pos hs]
      · simp only [if_neg hs]
        have h3 : r.st = 3 := by simp [stR] at h; omega
        split
        · rfl
        · rename_i e
          split at e
          · cases e
            simp [stR, h3]
          · cases e
    rw [if_neg k2]
    by_cases k3 : kd = 3
    · rw [if_pos k3]
      unfold appR
      by_cases hx : x ∈ r.ns
      · by_cases hs : r.st = 3
        · simp only [if_pos hx, if_pos hs]
          exact ⟨fun _ => (by first | rfl | trivial), fun h h2 => absurd h h2⟩
        · simp only [if_pos hx, if_neg hs]
          exact ⟨fun _ => (by first | rfl | trivial), fun h h2 => absurd h h2⟩
      · simp only [if_neg hx]
        exact ⟨fun _ => (by first | rfl | trivial), fun h h2 => absurd h h2⟩
    rw [if_neg k3]
    exact ⟨fun _ => (by first | rfl | trivial), fun h h2 => absurd h h2⟩
theorem once_take (z : Bool) (v kd s : Int) (h : v = 3 ∨ v = 4) : oneK z v kd s = v := by
  unfold oneK
  split
  · split
    · rfl
    · rw [if_neg (by omega)]
  split
  · split
    · rfl
    · split
      · rfl
      · split
        · rfl
        · omega
  · rfl
/-- of one transaction alone -/
theorem run_apart (t : Tx) : ∀ (ops : List OpD) (G G2 : List (Tx × Rn)), lookG G t = lookG G2 t → lookG (runG false ops G) t = lookG (runG false (ops.filter fun o => decide (o.t = t)) G2) t
  | [], _, _, h => h
  | o :: ops, G, G2, h => by
    show lookG (runG false ops (stG false G o.kd o.t o.l o.x o.yes)) t = _
    by_cases e : o.t = t
    · rw [List.filter_cons_of_pos (by simpa using e)]
      show _ = lookG (runG false _ (stG false G2 o.kd o.t o.l o.x o.yes)) t
      exact run_apart t ops _ _ (by rw [e, stG_own, stG_own, h])
    · rw [List.filter_cons_of_neg (by simpa using e)]
      exact run_apart t ops _ _ (by rw [stG_other _ _ _ _ _ (fun e2 => e e2.symm), h])
theorem take_apart (t : Tx) : ∀ (ops : List OpD) (K K2 : List (Tx × Int)), stK K t = stK K2 t → stK (runK false ops K) t = stK (runK false (ops.filter fun o => decide (o.t = t)) K2) t
  | [], _, _, h => h
  | o :: ops, K, K2, h => by
    show stK (runK false ops (stepK false K o.kd o.t o.s)) t = _
    by_cases e : o.t = t
    · rw [List.filter_cons_of_pos (by simpa using e)]
      show _ = stK (runK false _ (stepK false K2 o.kd o.t o.s)) t
      exact take_apart t ops _ _ (by rw [e, stepK_own, stepK_own, h])
    · rw [List.filter_cons_of_neg (by simpa using e)]
      exact take_apart t ops _ _ (by rw [stepK_other _ _ _ (fun e2 => e e2.symm), h])
/-! ### a script with the places of its nodes -/
abbrev OpE := OpD × Option Addr × Nat
def encE (e : OpE) : List Value := opC e.1 e.2.1 e.2.2
theorem encE_len (e : OpE) : (encE e).length = 8 := rfl
theorem encE_one (L : List OpE) : ∀ u ∈ L.flatMap encE, u.oneCell' = true := by
  intro u hu
  obtain ⟨x, _, hu⟩ := List.mem_flatMap.1 hu
  simp [encE, opC] at hu
  rcases hu with rfl | rfl | rfl | rfl | rfl | rfl | rfl | rfl <;> rfl
theorem ScrAt.list {w : World} {a : Option Addr} {n c : Nat} {ops : List OpD} (h : ScrAt w (.slice a n c) ops) (hn : a = none → n = 0 ∧ c = 0) :
    ∃ L : List OpE, L.map (·.1) = ops ∧ Lies (fun g => w.heap.size ≤ g) w 8 (.slice a n c) n (L.flatMap encE) ∧ ∀ e ∈ L, OpOk w e.1 e.2.1 e.2.2 := by
  obtain ⟨ao, c', e, h1, h2, h3⟩ := h
  simp only [Value.slice.injEq] at e
  obtain ⟨rfl, rfl, rfl⟩ := e
  have hex : ∀ i, ∃ p : Option Addr × Nat, ∀ o, ops[i]? = some o → (∀ j u, (opC o p.1 p.2)[j]? = some u → ∃ b off, a = some ⟨b, off, none⟩ ∧ w.cell? ⟨b, off + (i * 8 + j), none⟩ = some u) ∧ OpOk w o p.1 p.2 := fun i => by
    by_cases hi : i < ops.length
    · obtain ⟨b, off, bo, bc, e, q1, q2⟩ := h3 i _ (List.getElem?_eq_getElem hi)
      refine ⟨(bo, bc), fun o ho => ?_⟩
      rw [List.getElem?_eq_getElem hi] at ho
      cases ho
      exact ⟨fun j u hu => ⟨b, off, e, q1 j u hu⟩, q2⟩
    · exact ⟨(none, 0), fun o ho => absurd (List.getElem?_eq_some_iff.1 ho).1 hi⟩
  let L : List OpE := (List.range ops.length).map fun i => ((ops[i]?).getD ⟨0, (0, 0, 0), [], 0, false, 0⟩, (hex i).choose)
  have hL : L.length = ops.length := by simp [L]
  have hLi : ∀ i e, L[i]? = some e → ops[i]? = some e.1 ∧ e.2 = (hex i).choose := fun i e he => by
    simp only [L, List.getElem?_map, Option.map_eq_some_iff] at he
    obtain ⟨j, hj, rfl⟩ := he
    obtain ⟨hk, e⟩ := List.getElem?_eq_some_iff.1 hj
    simp at hk e
    subst e
    exact ⟨by simp [hk], rfl⟩
  refine ⟨L, ?_, ⟨a, c, rfl, h1, h2, ?_, hn, fun hm => ?_, encE_one L⟩, fun e he => ?_⟩
  · apply List.ext_getElem?
    intro i
    rw [List.getElem?_map]
    cases he : L[i]? with
    | none =>
      have : ops.length ≤ i := by rw [← hL]; exact List.getElem?_eq_none_iff.1 he
      rw [List.getElem?_eq_none this]; rfl
    | some e => rw [(hLi i e he).1]; rfl
  · rw [flat_len encE_len, hL]
  · obtain ⟨e, he⟩ : ∃ e, L[0]? = some e := ⟨_, List.getElem?_eq_getElem (by rw [hL]; exact hm)⟩
    obtain ⟨b, off, hb, hc⟩ := ((hex 0).choose_spec e.1 (hLi 0 e he).1).1 0 _ rfl
    refine ⟨b, off, hb, fun h => by have := cell_lt hc; omega, cell_lt hc, fun j u hu => ?_⟩
    have hj : j < L.length * 8 := by
      have := (List.getElem?_eq_some_iff.1 hu).1
      rwa [flat_len encE_len] at this
    obtain ⟨e2, he2⟩ : ∃ e, L[j / 8]? = some e := ⟨_, List.getElem?_eq_getElem (by omega)⟩
    have hf := flat_at encE_len L (j / 8) (j % 8) e2 he2 (Nat.mod_lt _ (by decide))
    rw [show j / 8 * 8 + j % 8 = j by omega, hu] at hf
    have h2 := hLi _ e2 he2
    obtain ⟨b2, off2, hb2, hc2⟩ := ((hex (j / 8)).choose_spec e2.1 h2.1).1 (j % 8) u (by rw [← h2.2]; exact hf.symm)
    rw [hb] at hb2
    cases hb2
    rw [show j / 8 * 8 + j % 8 = j by omega] at hc2
    exact hc2
  · obtain ⟨i, hi⟩ := List.getElem?_of_mem he
    have h2 := hLi i e hi
    have := ((hex i).choose_spec e.1 h2.1).2
    rw [← h2.2] at this
    exact this
theorem own_scr {w : World} {a : Option Addr} {n c : Nat} {L : List OpE} (h : Own w 43 8 (.slice a n c) n (L.flatMap encE)) (hn : L.length = n) {k : Nat} {e : OpE} (hk : L[k]? = some e) :
    ∃ b, a = some ⟨b, 0, none⟩ ∧ w.cell? ⟨b, k * 8, none⟩ = some (.int .u8 e.1.kd) ∧ w.cell? ⟨b, k * 8 + 1, none⟩ = some (.int .u8 e.1.t.1) ∧ w.cell? ⟨b, k * 8 + 2, none⟩ = some (.int .u32 e.1.t.2.1) ∧ w.cell? ⟨b, k * 8 + 3, none⟩ = some (.int .u32 e.1.t.2.2) ∧
      w.cell? ⟨b, k * 8 + 4, none⟩ = some (.slice e.2.1 e.1.l.length e.2.2) ∧ w.cell? ⟨b, k * 8 + 5, none⟩ = some (.int .u8 e.1.x) ∧ w.cell? ⟨b, k * 8 + 6, none⟩ = some (.bool e.1.yes) ∧ w.cell? ⟨b, k * 8 + 7, none⟩ = some (.int .i64 e.1.s) := by
  have hlt := (List.getElem?_eq_some_iff.1 hk).1
  obtain ⟨b, c', e1, _, _⟩ := h.some_of_pos (by omega)
  simp only [Value.slice.injEq] at e1
  obtain ⟨rfl, _, _⟩ := e1
  refine ⟨b, rfl, ?_⟩
  have key : ∀ j u, (encE e)[j]? = some u → j < 8 → w.cell? ⟨b, k * 8 + j, none⟩ = some u := fun j u hu hj => by
    have h1 := flat_at encE_len L k j e hk hj
    rw [hu] at h1
    obtain ⟨h2, h3⟩ := List.getElem?_eq_some_iff.1 h1
    rw [h.cells rfl _ h2, h3]
  exact ⟨key 0 _ rfl (by omega), key 1 _ rfl (by omega), key 2 _ rfl (by omega), key 3 _ rfl (by omega), key 4 _ rfl (by omega), key 5 _ rfl (by omega), key 6 _ rfl (by omega), key 7 _ rfl (by omega)⟩
end Go.Proofs.Ytaobioleodfafaa
/- CommitOnce's walk. -/
namespace Go.Proofs.Ytaobioleodfafaa
open Go.RowKit
theorem infoOpF : (Try.prog.info? 43).map (fun i => (i.zero, i.size, i.bytes)) = some (some (.agg #[.int .u8 0, .int .u8 0, .int .u32 0, .int .u32 0, .slice none 0 0, .int .u8 0, .bool false, .int .i64 0]), 8, 56) := by kernel_rfl
theorem lies_pre8 {F : Nat → Prop} {w : World} {a : Option Addr} {M c n : Nat} {L : List OpE} (h : Lies F w 8 (.slice a M c) M (L.flatMap encE)) (hL : L.length = M) (hn : n ≤ M) : Lies F w 8 (.slice a n c) n ((L.take n).flatMap encE) := by
  obtain ⟨ao, c', e, h1, h2, h3, h4, h5, h6⟩ := h
  simp only [Value.slice.injEq] at e
  obtain ⟨rfl, _, rfl⟩ := e
  have hf : (L.take n).flatMap encE = (L.flatMap encE).take (n * 8) := by
    have e1 : L.flatMap encE = (L.take n).flatMap encE ++ (L.drop n).flatMap encE := by rw [← List.flatMap_append, List.take_append_drop]
    have e2 : ((L.take n).flatMap encE).length = n * 8 := by rw [flat_len encE_len, List.length_take]; omega
    rw [e1, ← e2, List.take_left]
  refine ⟨a, c, rfl, by omega, h2, by rw [flat_len encE_len, List.length_take]; omega, fun h => ⟨by have := (h4 h).1; omega, (h4 h).2⟩, fun hm => ?_, encE_one _⟩
  obtain ⟨g, off, e, hF, hl, hc⟩ := h5 (by omega)
  exact ⟨g, off, e, hF, hl, fun j u hu => hc j u (by rw [hf, List.getElem?_take] at hu; split at hu; exact hu; cases hu)⟩
theorem Rd.scr {w : World} {a : Option Addr} {len cap : Nat} (h : Rd Try.prog w 36 [.slice a len cap]) :
    ∃ L : List OpE, L.length = len ∧ Lies (fun g => w.heap.size ≤ g) w 8 (.slice a len cap) len (L.flatMap encE) ∧ (∀ e ∈ L, OpOk w e.1 e.2.1 e.2.2) ∧ len ≤ cap ∧ cap ≤ 9223372036854775807 := by
  obtain ⟨ops, hl, hs⟩ := scr_read h
  obtain ⟨q1, q2, q3, q4, q5⟩ := h.row Try.underlying36 cellsOp (by decide)
  obtain ⟨L, h1, h2, h3⟩ := hs.list (fun e => by subst e; simpa using q4)
  obtain ⟨_, c', e, h4, h5, _⟩ := hs
  simp only [Value.slice.injEq] at e
  obtain ⟨_, rfl, rfl⟩ := e
  unfold maxLen at h5
  exact ⟨L, by rw [← hl, ← h1, List.length_map], h2, h3, h4, by omega⟩
-- the range variable's block: $1 its slot, $2 the slot of what is loaded
set_option maxRecDepth 100000 in
set_option maxHeartbeats 2000000 in
theorem once_walk (W : World) (args : Array Value) (h : RdAll Try.prog W Try.f5.params.toList args.toList) :
    Calls Try.prog 5 args W fun e W' => e = .returned (.bool true) ∧ Below W.heap.size W W' := by
  rw [Try.params5] at h
  obtain ⟨v0, v1, rfl⟩ : ∃ v0 v1, args = #[v0, v1] := by
    rcases args with ⟨_ | ⟨v0, _ | ⟨v1, _ | ⟨v2, l⟩⟩⟩⟩ <;> simp [RdAll] at h
    exact ⟨v0, v1, rfl⟩
  obtain ⟨r0, r1, _⟩ := h
  obtain ⟨sa, sl, sc, rfl, h0⟩ := r0.slice Try.underlying36
  obtain ⟨ma, ml, mc, rfl, h1⟩ := r1.slice Try.underlying36
  obtain ⟨L, hL, hLl, hLo, hs1, hs2⟩ := h0.scr
  obtain ⟨M, hM, hMl, hMo, hm1, hm2⟩ := h1.scr
  obtain ⟨n1, hn1⟩ : ∃ n, min sl 60 = n := ⟨_, rfl⟩
  obtain ⟨n2, hn2⟩ : ∃ n, min ml 60 = n := ⟨_, rfl⟩
  have hi1 : min (sl : Int) 60 = (n1 : Int) := by omega
  have hi2 : min (ml : Int) 60 = (n2 : Int) := by omega
  have hb1 : n1 ≤ 60 ∧ n1 ≤ sl := by omega
  have hb2 : n2 ≤ 60 ∧ n2 ≤ ml := by omega
  have L1 := hid (lies_pre8 hLl hL hb1.2)
  have M1 := hid (lies_pre8 hMl hM hb2.2)
  obtain ⟨E, hE⟩ : ∃ E, L.take n1 ++ M.take n2 = E := ⟨_, rfl⟩
  have HE := hid hE
  have HEL := hid (show E.length = n1 + n2 by rw [← hE, List.length_append, List.length_take, List.length_take]; omega)
  have HEO := hid (show ∀ e ∈ E, OpOk W e.1 e.2.1 e.2.2 from fun e he => by
    rw [← hE] at he
    rcases List.mem_append.1 he with he | he
    · exact hLo e (List.mem_of_mem_take he)
    · exact hMo e (List.mem_of_mem_take he))
  clear r0 r1 h0 h1 hL hLl hLo hM hMl hMo hE hn1 hn2
  go_enter Try.func5, Try.ntmps5
  go_wp2_with fail
  refine (awake_any _).mono ?_; rintro e w1 ⟨rfl, hb1'⟩
  have K1 := hid (Kept.of_below hb1' (fun _ => False))
  clear hb1'
  go_wp2_with fail
  refine (bnew _).mono ?_; rintro e w2 ⟨ba, rfl, hbn, hbk, hk⟩
  have hd := dk_new w2
  have hb2' := hbk.same ((Kept.refl (fun _ => False) w2).alloc (.cells #[.slice none 0 0, .slice none 0 0] 41))
  have hbo : Both (fun i => w1.heap.size ≤ i ∧ i < w2.heap.size) (fun i => i = w2.heap.size) (w2.alloc (.cells #[.slice none 0 0, .slice none 0 0] 41)) false ba (some ⟨w2.heap.size, 0, none⟩) [] [] [] :=
    ⟨hb2', hd, fun i h e => by omega, okay_nil, rel_nil⟩
  have K2 := hid ((K1.out.trans hk).alloc (.cells #[.slice none 0 0, .slice none 0 0] 41))
  have HS := hid (show W.heap.size ≤ w1.heap.size ∧ w1.heap.size ≤ w2.heap.size from ⟨K1.out.size, hk.size⟩)
  have HS3 := hid (show (w2.alloc (.cells #[.slice none 0 0, .slice none 0 0] 41)).heap.size = w2.heap.size + 1 by simp)
  go_wp2_with fail
  obtain ⟨wd, hw3⟩ : ∃ wd, w2.alloc (.cells #[.slice none 0 0, .slice none 0 0] 41) = wd := ⟨_, rfl⟩
  obtain ⟨xb, hxb⟩ : ∃ xb, w2.heap.size = xb := ⟨_, rfl⟩
  rw [hw3, hxb] at hbo HS3
  rw [hw3] at K2
  rw [hxb] at HS
  try rw [hw3]
  try rw [hxb]
  have B3 := hid hbo
  clear hbo hb2' hd hbk hk hw3 hxb K1
  have hq1 : n1 ≤ sc := by omega
  have hq2 : n2 ≤ mc := by omega
  have hq1I : (n1 : Int) ≤ (sc : Int) := by omega
  have hq2I : (n2 : Int) ≤ (mc : Int) := by omega
  refine wp_region_till (fun _ => True) 100 (by kernel_rfl) trivial (fun hHeld => ?_)
  refine till_pure 0 (some 19) (v := ?v01) (by decide) rfl (by kernel_rfl) (by kernel_rfl) (by kernel_rfl) (by kernel_rfl) (by decide) (fun _ _ _ h => h) (Or.inl ⟨by rfl, ?y01⟩) (by assumption) ?r01
  case y01 => (intro w hSw; clear hSw; go_simp; (try with_reducible rfl))
  simp only [Act.put, List.setIfInBounds_toArray, List.set_cons_zero, List.set_cons_succ]
  refine till_pure 1 (some 20) (v := ?v02) (by decide) rfl (by kernel_rfl) (by kernel_rfl) (by kernel_rfl) (by kernel_rfl) (by decide) (fun _ _ _ h => h) (Or.inl ⟨by rfl, ?y02⟩) (by assumption) ?r02
  case y02 => (intro w hSw; clear hSw; go_simp; (try with_reducible rfl))
  simp only [Act.put, List.setIfInBounds_toArray, List.set_cons_zero, List.set_cons_succ]
  refine till_pure 2 (some 21) (v := ?v03) (by decide) rfl (by kernel_rfl) (by kernel_rfl) (by kernel_rfl) (by kernel_rfl) (by decide) (fun _ _ _ h => h) (Or.inl ⟨by rfl, ?y03⟩) (by assumption) ?r03
  case y03 => (intro w hSw; clear hSw; go_simp; (try with_reducible rfl))
  simp only [Act.put, List.setIfInBounds_toArray, List.set_cons_zero, List.set_cons_succ]
  refine till_pure 3 (some 22) (v := ?v04) (by decide) rfl (by kernel_rfl) (by kernel_rfl) (by kernel_rfl) (by kernel_rfl) (by decide) (fun _ _ _ h => h) (Or.inl ⟨by rfl, ?y04⟩) (by assumption) ?r04
  case y04 => (intro w hSw; clear hSw; go_simp; (try with_reducible rfl))
  simp only [Act.put, List.setIfInBounds_toArray, List.set_cons_zero, List.set_cons_succ]
  refine till_pure 4 (some 23) (v := ?v05) (by decide) rfl (by kernel_rfl) (by kernel_rfl) (by kernel_rfl) (by kernel_rfl) (by decide) (fun _ _ _ h => h) (Or.inl ⟨by rfl, ?y05⟩) (by assumption) ?r05
  case y05 => (intro w hSw; clear hSw; go_simp; (try with_reducible rfl))
  simp only [Act.put, List.setIfInBounds_toArray, List.set_cons_zero, List.set_cons_succ]
  refine till_pure 5 (some 24) (v := ?v06) (by decide) rfl (by kernel_rfl) (by kernel_rfl) (by kernel_rfl) (by kernel_rfl) (by decide) (fun _ _ _ h => h) (Or.inl ⟨by rfl, ?y06⟩) (by assumption) ?r06
  case y06 => (intro w hSw; clear hSw; go_simp; (try with_reducible rfl))
  simp only [Act.put, List.setIfInBounds_toArray, List.set_cons_zero, List.set_cons_succ]
  refine till_pure 7 (some 26) (v := ?v07) (by decide) rfl (by kernel_rfl) (by kernel_rfl) (by kernel_rfl) (by kernel_rfl) (by decide) (fun _ _ _ h => h) (Or.inl ⟨by rfl, ?y07⟩) (by assumption) ?r07
  case y07 => (intro w hSw; clear hSw; go_simp; (try with_reducible rfl))
  simp only [Act.put, List.setIfInBounds_toArray, List.set_cons_zero, List.set_cons_succ]
  refine till_pure 8 (some 27) (v := ?v08) (by decide) rfl (by kernel_rfl) (by kernel_rfl) (by kernel_rfl) (by kernel_rfl) (by decide) (fun _ _ _ h => h) (Or.inl ⟨by rfl, ?y08⟩) (by assumption) ?r08
  case y08 => (intro w hSw; clear hSw; go_simp; (try with_reducible rfl))
  simp only [Act.put, List.setIfInBounds_toArray, List.set_cons_zero, List.set_cons_succ]
  refine till_pure 9 (some 28) (v := ?v09) (by decide) rfl (by kernel_rfl) (by kernel_rfl) (by kernel_rfl) (by kernel_rfl) (by decide) (fun _ _ _ h => h) (Or.inl ⟨by rfl, ?y09⟩) (by assumption) ?r09
  case y09 => (intro w hSw; clear hSw; go_simp; (try with_reducible rfl))
  simp only [Act.put, List.setIfInBounds_toArray, List.set_cons_zero, List.set_cons_succ]
  refine till_pure 10 (some 29) (v := ?v10) (by decide) rfl (by kernel_rfl) (by kernel_rfl) (by kernel_rfl) (by kernel_rfl) (by decide) (fun _ _ _ h => h) (Or.inl ⟨by rfl, ?y10⟩) (by assumption) ?r10
  case y10 => (intro w hSw; clear hSw; go_simp; (try with_reducible rfl))
  simp only [Act.put, List.setIfInBounds_toArray, List.set_cons_zero, List.set_cons_succ]
  refine till_pure 11 (some 30) (v := ?v11) (by decide) rfl (by kernel_rfl) (by kernel_rfl) (by kernel_rfl) (by kernel_rfl) (by decide) (fun _ _ _ h => h) (Or.inl ⟨by rfl, ?y11⟩) (by assumption) ?r11
  case y11 => (intro w hSw; clear hSw; go_simp; (try with_reducible rfl))
  simp only [Act.put, List.setIfInBounds_toArray, List.set_cons_zero, List.set_cons_succ]
  refine till_call 6 (by kernel_rfl) rfl (fun K hK => ?_)
  refine step_appd (some 25) rfl (by rfl) (.tmp 19) (.tmp 24) 36 rfl 43 (.agg #[.int .u8 0, .int .u8 0, .int .u32 0, .int .u32 0, .slice none 0 0, .int .u8 0, .bool false, .int .i64 0]) 8 56 Try.underlying36 infoOpF rfl (by decide) (.slice none 0 0) 0 [] rfl (Own.nil _ _ _) _ rfl n1 ((L.take n1).flatMap encE) (by exact (L1.out.same K2.out.drew).src) (by unfold maxLen; omega) (by omega) ?_
  intro a6 c6 w6 ho6 hk6 hf6 _
  simp only [Act.put, List.setIfInBounds_toArray, List.set_cons_zero, List.set_cons_succ]
  have K6 := hid (show Kept (fun _ => False) W w6 from K2.out.drew.trans' hk6 (fun i hi => by simp [Value.ownBlock] at hi))
  try dsimp only []
  refine hK.out _ _ (by exact trivial) (fun hHeld => ?_)
  clear hK K
  try simp only [Act.put, List.setIfInBounds_toArray, List.set_cons_zero, List.set_cons_succ]
  refine till_call 12 (by kernel_rfl) rfl (fun K hK => ?_)
  refine step_appd (some 31) rfl (by rfl) (.tmp 25) (.tmp 30) 36 rfl 43 (.agg #[.int .u8 0, .int .u8 0, .int .u32 0, .int .u32 0, .slice none 0 0, .int .u8 0, .bool false, .int .i64 0]) 8 56 Try.underlying36 infoOpF rfl (by decide) (.slice a6 (0 + n1) c6) (0 + n1) _ rfl (by exact ho6) _ rfl n2 ((M.take n2).flatMap encE) (by exact (M1.out.same K6.out).src) (by unfold maxLen; omega) (by omega) ?_
  intro a7 c7 wa ho7 hk7 hf7 _
  simp only [Act.put, List.setIfInBounds_toArray, List.set_cons_zero, List.set_cons_succ]
  try dsimp only []
  refine hK.out _ _ (by exact trivial) (fun hHeld => ?_)
  clear hK K
  try simp only [Act.put, List.setIfInBounds_toArray, List.set_cons_zero, List.set_cons_succ]
  refine till_pure 13 (some 7) (v := ?v13) (by decide) rfl (by kernel_rfl) (by kernel_rfl) (by kernel_rfl) (by kernel_rfl) (by decide) (fun _ _ _ h => h) (Or.inl ⟨by rfl, ?y13⟩) (by assumption) ?r13
  case y13 => (intro w hSw; clear hSw; go_simp; (try with_reducible rfl))
  simp only [Act.put, List.setIfInBounds_toArray, List.set_cons_zero, List.set_cons_succ]
  refine till_done (by kernel_rfl) ?_ _
  have hfb : ∀ g, (Value.slice a7 (0 + n1 + n2) c7).ownBlock = some g → xb + 1 ≤ g := fun g hg => by
    rcases hf7 g hg with h | h
    · rcases hf6 g h with h | h
      · simp [Value.ownBlock] at h
      · have : wd.heap.size ≤ g := h
        have := HS3.out; omega
    · have h6 : wd.heap.size ≤ w6.heap.size := hk6.size
      have := HS3.out; omega
  obtain ⟨NN, hNN⟩ : ∃ NN, 0 + n1 + n2 = NN := ⟨_, rfl⟩
  have hown : Own wa 43 8 (.slice a7 (0 + n1 + n2) c7) (0 + n1 + n2) (E.flatMap encE) := by
    rw [← HE.out, List.flatMap_append]; exact ho7
  have KA := hid (show Kept (fun _ => False) W wa from K6.out.trans' hk7 (fun i hi => .inr (by
    rcases hf6 i hi with h | h
    · simp [Value.ownBlock] at h
    · exact Nat.le_trans K2.out.size h)))
  have BA := hid (B3.out.same ((Kept.refl (fun _ => False) wd).drew.trans ((hk6.mono (fun i _ hi => by simp [Value.ownBlock] at hi)).trans' hk7 (fun i hi => .inr (by
    rcases hf6 i hi with h | h
    · simp [Value.ownBlock] at h
    · exact h)))))
  rw [hNN] at hfb hown
  have hNN' : n1 + n2 = NN := by omega
  try rw [hNN]
  try rw [hNN']
  clear hNN'
  have HFB := hid hfb; have HOW := hid hown
  have HNN := hid (show E.length = NN by rw [HEL.out]; omega)
  have hNN2 : NN ≤ 120 := by omega
  clear ho6 hk6 hf6 ho7 hk7 hf7 hfb hown hNN K6 B3 hq1 hq2 hq1I hq2I hi1 hi2 K2 hHeld
  go_wp2_with fail
  go_loopw [34] (fun i wr => ∃ (k : Nat) (P Q : Nat → Prop), k ≤ NN ∧ i = .int .i64 k ∧ Both P Q wr false ba (some ⟨xb, 0, none⟩) (runG false ((E.map (·.1)).take k) []) (runK false ((E.map (·.1)).take k) []) (runT false ((E.map (·.1)).take k) []) ∧ (∀ i, P i → W.heap.size ≤ i ∧ (Value.slice a7 NN c7).ownBlock ≠ some i) ∧ (∀ i, Q i → W.heap.size ≤ i ∧ (Value.slice a7 NN c7).ownBlock ≠ some i) ∧ Kept (fun i => W.heap.size ≤ i ∧ (Value.slice a7 NN c7).ownBlock ≠ some i) wa wr) (fun i _ => NN - (RowKit.intOf i).toNat)
  case atStart => exact ⟨0, _, _, Nat.zero_le _, rfl, BA.out, fun i h => ⟨by have := HS.out; omega, fun e => by have := HFB.out i e; omega⟩, fun i h => ⟨by have := HS.out; omega, fun e => by have := HFB.out i e; omega⟩, Kept.refl _ _⟩
  case round =>
    rename World => wr
    obtain ⟨k, P, Q, hk, rfl, hbo, hPW, hQW, hkp⟩ := hrel
    have B := hid hbo; have HPW := hid hPW; have HQW := hid hQW; have KR := hid hkp
    have KWR := hid (show Kept (fun _ => False) W wr from KA.out.trans' hkp (fun i h => .inr h.1))
    clear hbo hPW hQW hkp
    by_cases hlt : k < NN
    · have hltI : (k : Int) < (NN : Int) := by omega
      obtain ⟨o, ho⟩ : ∃ o, E[k]? = some o := ⟨_, List.getElem?_eq_getElem (by rw [HNN.out]; exact hlt)⟩
      have HTK := hid (show (E.map (·.1)).take (k + 1) = (E.map (·.1)).take k ++ [o.1] by rw [List.take_add_one, List.getElem?_map, ho]; rfl)
      have hok := HEO.out o (List.mem_of_getElem? ho)
      obtain ⟨gb, rfl, e0, e1, e2, e3, e4, e5, e6, e7⟩ := own_scr HOW.out HNN.out ho
      have hgb : ¬ (W.heap.size ≤ gb ∧ (Value.slice (some ⟨gb, 0, none⟩) NN c7).ownBlock ≠ some gb) := fun h => h.2 rfl
      have e0 := KR.out.cell e0 hgb; have e1 := KR.out.cell e1 hgb; have e2 := KR.out.cell e2 hgb; have e3 := KR.out.cell e3 hgb; have e4 := KR.out.cell e4 hgb; have e5 := KR.out.cell e5 hgb; have e6 := KR.out.cell e6 hgb; have e7 := KR.out.cell e7 hgb
      clear ho hgb
      have hGl := runG_len false ((E.map (·.1)).take k) []
      have hKl := runK_len false ((E.map (·.1)).take k) []
      have htl : ((E.map (·.1)).take k).length ≤ 120 := by rw [List.length_take]; omega
      have HGL := hid (show (runG false ((E.map (·.1)).take k) []).length ≤ 1000 by simp only [List.length_nil] at hGl; omega)
      have HKL := hid (show (runK false ((E.map (·.1)).take k) []).length ≤ 1000 by simp only [List.length_nil] at hKl; omega)
      clear hGl hKl htl
      obtain ⟨⟨kd, ⟨t1, t2, t3⟩, l, x, yes, s⟩, na, nc⟩ := o
      simp only at e0 e1 e2 e3 e4 e5 e6 e7 HTK hok
      obtain ⟨N, hN⟩ : ∃ N, l.length = N := ⟨_, rfl⟩
      rw [hN] at e4
      have HNB := hid (show Byt W (.slice na N nc) l from by rw [← hN]; exact hok.b)
      have HNF := hid (show 0 < l.length → ∀ g, (Value.slice na N nc).ownBlock = some g → g < W.heap.size from fun h0 g hg => hok.n h0 g (by show (Value.slice na l.length nc).ownBlock = some g; rw [hN]; exact hg))
      have HNL := hid (show N ≤ 140737488351232 by rw [← hN]; exact hok.len)
      have HNR := hid hok.r
      obtain ⟨r1, hr1⟩ : ∃ r, stR (lookG (runG false ((E.map (·.1)).take k) []) (t1, t2, t3)) = r := ⟨_, rfl⟩
      obtain ⟨r2, hr2⟩ : ∃ r, stK (runK false ((E.map (·.1)).take k) []) (t1, t2, t3) = r := ⟨_, rfl⟩
      obtain ⟨r3, hr3⟩ : ∃ r, stR (lookG (runG false ((E.map (·.1)).take (k + 1)) []) (t1, t2, t3)) = r := ⟨_, rfl⟩
      obtain ⟨r4, hr4⟩ : ∃ r, stK (runK false ((E.map (·.1)).take (k + 1)) []) (t1, t2, t3) = r := ⟨_, rfl⟩
      have F1 := hid (show (r1 = 3 ∨ r1 = 4 → r3 = r1) ∧ (r3 = 3 → r1 ≠ 3 → kd = 2) by
        rw [← hr1, ← hr3, HTK.out, runG_snoc, stG_own]
        exact once_run _ _ _ _ _ _)
      have F2 := hid (show r2 = 3 ∨ r2 = 4 → r4 = r2 by
        rw [← hr2, ← hr4, HTK.out, runK_snoc, stepK_own]
        exact once_take _ _ _ _)
      have HR1 := hid hr1; have HR2 := hid hr2; have HR3 := hid hr3; have HR4 := hid hr4
      clear hN hok hr1 hr2 hr3 hr4
      go_wp2_with (first | (refine wpList_store_row rfl 43 (.tmp 9) (.tmp 37) rfl #[.int .u8 kd, .int .u8 t1, .int .u32 t2, .int .u32 t3, .slice na N nc, .int .u8 x, .bool yes, .int .i64 s] #[.int .u8 0, .int .u8 0, .int .u32 0, .int .u32 0, .slice none 0 0, .int .u8 0, .bool false, .int .i64 0] (by rfl) (by rfl) (by exact row_new _ _) rfl infoOps (by simp [Value.oneCell']) ?_; intro w4 hb4 hk4; obtain ⟨y0, y1, y2, y3, y4, y5, y6, y7⟩ := cells8 hb4; have k4 := ((Kept.refl (fun _ => False) wr).alloc (.cells #[.int .u8 0, .int .u8 0, .int .u32 0, .int .u32 0, .slice none 0 0, .int .u8 0, .bool false, .int .i64 0] 43)).trans' hk4 (fun i e => .inr (by rw [e]; exact Nat.le_refl _)); have HB4 := hid hb4; have K4 := hid k4; clear hb4 hk4 k4))
      clear y0 y1 y2 y3 y4 y5 y6 y7 e0 e1 e2 e3 e4 e5 e6 e7
      obtain ⟨ob, hob⟩ : ∃ ob, wr.heap.size = ob := ⟨_, rfl⟩
      rw [hob] at HB4 ⊢
      have HOB := hid hob
      clear hob
      have HPO := hid (show ¬ P ob ∧ ¬ Q ob from ⟨fun h => by have := B.out.b.lt ob h; have := HOB.out; omega, fun h => by have := B.out.d.lt ob h; have := HOB.out; omega⟩)
      have KD := hid (show Kept (fun _ => False) wr w4.drew from K4.out.drew)
      have RD := hid (show w4.drew.heap[ob]? = _ from HB4.out)
      have s1 := cells8 RD.out
      go_region_held3 (fun w' => w'.cell? ⟨ob, 0, none⟩ = some (.int .u8 kd) ∧ w'.cell? ⟨ob, 1, none⟩ = some (.int .u8 t1) ∧ w'.cell? ⟨ob, 2, none⟩ = some (.int .u32 t2) ∧ w'.cell? ⟨ob, 3, none⟩ = some (.int .u32 t3) ∧ w'.cell? ⟨ob, 4, none⟩ = some (.slice na N nc) ∧ w'.cell? ⟨ob, 5, none⟩ = some (.int .u8 x) ∧ w'.cell? ⟨ob, 6, none⟩ = some (.bool yes) ∧ w'.cell? ⟨ob, 7, none⟩ = some (.int .i64 s)) (first | exact s1 | exact s2 | exact s3)
        (first
          | (go_at_call 13; refine (bruns (B.out.same KD.out).b).mono ?_; rintro e w5 ⟨he, hk⟩; rw [HR1.out] at he; subst he; have KE := hid (KD.out.trans hk); have RE := hid ((hk.block ob (row_lt RD.out) id).trans RD.out); have s2 := cells8 RE.out; clear hk s1)
          | (go_at_call 14; refine (bstands (B.out.same KE.out).b).mono ?_; rintro e w6 ⟨he, hk⟩; rw [HR2.out] at he; subst he; have KF := hid (KE.out.trans hk); have RF := hid ((hk.block ob (row_lt RE.out) id).trans RE.out); have s3 := cells8 RF.out; clear hk s2))
      obtain ⟨c0, c1, c2, c3, c4, c5, c6', c7'⟩ := s3
      go_wp2_with fail
      refine (play_any (B.out.same KF.out) HGL.out HKL.out (HNB.out.kept (KWR.out.trans KF.out) (fun _ _ => id)) (fun h0 g hg => ⟨fun hp => by have := HNF.out h0 g hg; have := (HPW.out g hp).1; omega, fun hq => by have := HNF.out h0 g hg; have := (HQW.out g hq).1; omega⟩) HNR.out HNL.out).mono ?_
      rintro e w7 ⟨rfl, P', Q', hb7, hP7, hQ7, hk7⟩
      have hz6 : W.heap.size ≤ w6.heap.size := Nat.le_trans KWR.out.size KF.out.size
      have hza : wa.heap.size ≤ w6.heap.size := Nat.le_trans KR.out.size KF.out.size
      have B7 := hid (show Both P' Q' w7 false ba (some ⟨xb, 0, none⟩) (runG false ((E.map (·.1)).take (k + 1)) []) (runK false ((E.map (·.1)).take (k + 1)) []) (runT false ((E.map (·.1)).take (k + 1)) []) from by rw [HTK.out, runG_snoc, runK_snoc, runT_snoc]; exact hb7)
      have hnew : ∀ i, w6.heap.size ≤ i → W.heap.size ≤ i ∧ (Value.slice (some ⟨gb, 0, none⟩) NN c7).ownBlock ≠ some i := fun i h => ⟨Nat.le_trans hz6 h, fun e => by have := HOW.out.lt e; omega⟩
      have HP7 := hid (show ∀ i, P' i → W.heap.size ≤ i ∧ (Value.slice (some ⟨gb, 0, none⟩) NN c7).ownBlock ≠ some i from fun i h => (hP7 i h).elim (HPW.out i) (hnew i))
      have HQ7 := hid (show ∀ i, Q' i → W.heap.size ≤ i ∧ (Value.slice (some ⟨gb, 0, none⟩) NN c7).ownBlock ≠ some i from fun i h => (hQ7 i h).elim (HQW.out i) (hnew i))
      have K7 := hid (show Kept (fun i => W.heap.size ≤ i ∧ (Value.slice (some ⟨gb, 0, none⟩) NN c7).ownBlock ≠ some i) wa w7 from (KR.out.trans (KF.out.mono (fun _ _ h => h.elim))).trans (hk7.mono (fun i _ h => h.elim (HPW.out i) (HQW.out i))))
      have R7 := hid ((hk7.block ob (row_lt RF.out) (fun h => h.elim HPO.out.1 HPO.out.2)).trans RF.out)
      clear hb7 hP7 hQ7 hk7 hz6 hza hnew c0 c1 c2 c3 c4 c5 c6' c7' KD RD KE RE KF RF B HPW HQW K4 HB4 HPO KR
      go_wp2_with fail
      have RD2 := hid (show w7.drew.heap[ob]? = _ from R7.out)
      have KD2 := hid (show Kept (fun _ => False) w7 w7.drew from (Kept.refl _ _).drew)
      have s4 := cells8 RD2.out
      go_region_held3 (fun w' => w'.cell? ⟨ob, 0, none⟩ = some (.int .u8 kd) ∧ w'.cell? ⟨ob, 1, none⟩ = some (.int .u8 t1) ∧ w'.cell? ⟨ob, 2, none⟩ = some (.int .u32 t2) ∧ w'.cell? ⟨ob, 3, none⟩ = some (.int .u32 t3) ∧ w'.cell? ⟨ob, 4, none⟩ = some (.slice na N nc) ∧ w'.cell? ⟨ob, 5, none⟩ = some (.int .u8 x) ∧ w'.cell? ⟨ob, 6, none⟩ = some (.bool yes) ∧ w'.cell? ⟨ob, 7, none⟩ = some (.int .i64 s)) (first | exact s4 | exact s5 | exact s6)
        (first
          | (go_at_call 13; refine (bruns (B7.out.same KD2.out).b).mono ?_; rintro e w8 ⟨he, hk⟩; rw [HR3.out] at he; subst he; have KE2 := hid (KD2.out.trans hk); have RE2 := hid ((hk.block ob (row_lt RD2.out) id).trans RD2.out); have s5 := cells8 RE2.out; clear hk s4)
          | (go_at_call 14; refine (bstands (B7.out.same KE2.out).b).mono ?_; rintro e w9 ⟨he, hk⟩; rw [HR4.out] at he; subst he; have KF2 := hid (KE2.out.trans hk); have RF2 := hid ((hk.block ob (row_lt RE2.out) id).trans RE2.out); have s6 := cells8 RF2.out; clear hk s5))
      obtain ⟨c0, c1, c2, c3, c4, c5, c6', c7'⟩ := s6
      have B9 := hid (B7.out.same KF2.out)
      have K9 := hid (K7.out.trans (KF2.out.mono (fun _ _ h => h.elim)))
      clear KD2 RD2 KE2 RE2 KF2 RF2 B7 K7 R7 c1 c2 c3 c4 c5 c6' c7'
      by_cases a3 : r1 = 3
      · have a3' : r3 = 3 := by rw [F1.out.1 (.inl a3), a3]
        subst a3 a3'
        clear F1
        by_cases z3 : r2 = 3
        · have z4 : r4 = 3 := by rw [F2.out (.inl z3), z3]
          subst z3 z4
          go_wp2
          go_roundw
          case rel => exact ⟨k + 1, P', Q', by omega, by go_num, B9.out, HP7.out, HQ7.out, K9.out⟩
          case measure => (simp only [RowKit.intOf]; omega)
        by_cases z5 : r2 = 4
        · have z6 : r4 = 4 := by rw [F2.out (.inr z5), z5]
          subst z5 z6
          go_wp2
          go_roundw
          case rel => exact ⟨k + 1, P', Q', by omega, by go_num, B9.out, HP7.out, HQ7.out, K9.out⟩
          case measure => (simp only [RowKit.intOf]; omega)
        · have z7 : (r2 == 3) = false := by simpa using z3
          have z8 : (r2 == 4) = false := by simpa using z5
          clear z3 z5
          go_wp2
          go_roundw
          case rel => exact ⟨k + 1, P', Q', by omega, by go_num, B9.out, HP7.out, HQ7.out, K9.out⟩
          case measure => (simp only [RowKit.intOf]; omega)
      by_cases a4 : r1 = 4
      · have a4' : r3 = 4 := by rw [F1.out.1 (.inr a4), a4]
        subst a4 a4'
        clear F1
        by_cases z3 : r2 = 3
        · have z4 : r4 = 3 := by rw [F2.out (.inl z3), z3]
          subst z3 z4
          go_wp2
          go_roundw
          case rel => exact ⟨k + 1, P', Q', by omega, by go_num, B9.out, HP7.out, HQ7.out, K9.out⟩
          case measure => (simp only [RowKit.intOf]; omega)
        by_cases z5 : r2 = 4
        · have z6 : r4 = 4 := by rw [F2.out (.inr z5), z5]
          subst z5 z6
          go_wp2
          go_roundw
          case rel => exact ⟨k + 1, P', Q', by omega, by go_num, B9.out, HP7.out, HQ7.out, K9.out⟩
          case measure => (simp only [RowKit.intOf]; omega)
        · have z7 : (r2 == 3) = false := by simpa using z3
          have z8 : (r2 == 4) = false := by simpa using z5
          clear z3 z5
          go_wp2
          go_roundw
          case rel => exact ⟨k + 1, P', Q', by omega, by go_num, B9.out, HP7.out, HQ7.out, K9.out⟩
          case measure => (simp only [RowKit.intOf]; omega)
      · have b1 : (r1 == 3) = false := by simpa using a3
        have b2 : (r1 == 4) = false := by simpa using a4
        have b3 : (r1 != 3) = true := by simpa using a3
        by_cases a5 : r3 = 3
        · have a6 := F1.out.2 a5 a3
          subst a5 a6
          clear F1 a3 a4
          by_cases z3 : r2 = 3
          · have z4 : r4 = 3 := by rw [F2.out (.inl z3), z3]
            subst z3 z4
            go_wp2
            go_roundw
            case rel => exact ⟨k + 1, P', Q', by omega, by go_num, B9.out, HP7.out, HQ7.out, K9.out⟩
            case measure => (simp only [RowKit.intOf]; omega)
          by_cases z5 : r2 = 4
          · have z6 : r4 = 4 := by rw [F2.out (.inr z5), z5]
            subst z5 z6
            go_wp2
            go_roundw
            case rel => exact ⟨k + 1, P', Q', by omega, by go_num, B9.out, HP7.out, HQ7.out, K9.out⟩
            case measure => (simp only [RowKit.intOf]; omega)
          · have z7 : (r2 == 3) = false := by simpa using z3
            have z8 : (r2 == 4) = false := by simpa using z5
            clear z3 z5
            go_wp2
            go_roundw
            case rel => exact ⟨k + 1, P', Q', by omega, by go_num, B9.out, HP7.out, HQ7.out, K9.out⟩
            case measure => (simp only [RowKit.intOf]; omega)
        · have b4 : (r3 == 3) = false := by simpa using a5
          clear F1 a3 a4 a5
          by_cases z3 : r2 = 3
          · have z4 : r4 = 3 := by rw [F2.out (.inl z3), z3]
            subst z3 z4
            go_wp2
            go_roundw
            case rel => exact ⟨k + 1, P', Q', by omega, by go_num, B9.out, HP7.out, HQ7.out, K9.out⟩
            case measure => (simp only [RowKit.intOf]; omega)
          by_cases z5 : r2 = 4
          · have z6 : r4 = 4 := by rw [F2.out (.inr z5), z5]
            subst z5 z6
            go_wp2
            go_roundw
            case rel => exact ⟨k + 1, P', Q', by omega, by go_num, B9.out, HP7.out, HQ7.out, K9.out⟩
            case measure => (simp only [RowKit.intOf]; omega)
          · have z7 : (r2 == 3) = false := by simpa using z3
            have z8 : (r2 == 4) = false := by simpa using z5
            clear z3 z5
            go_wp2
            go_roundw
            case rel => exact ⟨k + 1, P', Q', by omega, by go_num, B9.out, HP7.out, HQ7.out, K9.out⟩
            case measure => (simp only [RowKit.intOf]; omega)
    · go_wp2
      go_ret
      exact ⟨rfl, KWR.out.below (Nat.le_refl _) (fun _ h => h.elim)⟩
end Go.Proofs.Ytaobioleodfafaa
/- CommitApart's walk. -/
namespace Go.Proofs.Ytaobioleodfafaa
open Go.RowKit
theorem ret_tx {w : World} {v : Value} (h : RdV Try.prog w 28 v) : ∃ t1 t2 t3 : Int, v = .agg #[.int .u8 t1, .int .u32 t2, .int .u32 t3] := by
  obtain ⟨cs, rfl, h1⟩ := h.struct Try.underlying28
  obtain ⟨⟨t1, t2, t3⟩, e⟩ := tx_read (by rw [(h1.struct Try.underlying28).1]; exact cellsTx) h1
  refine ⟨t1, t2, t3, ?_⟩
  have e2 : cs = #[.int .u8 t1, .int .u32 t2, .int .u32 t3] := by rw [← Array.toArray_toList (xs := cs), e]
  rw [e2]
set_option maxRecDepth 100000 in
set_option maxHeartbeats 2000000 in
theorem apart_walk (W : World) (args : Array Value) (h : RdAll Try.prog W Try.f6.params.toList args.toList) :
    Calls Try.prog 6 args W fun e W' => e = .returned (.bool true) ∧ Below W.heap.size W W' := by
  rw [Try.params6] at h
  obtain ⟨v0, v1, rfl⟩ : ∃ v0 v1, args = #[v0, v1] := by
    rcases args with ⟨_ | ⟨v0, _ | ⟨v1, _ | ⟨v2, l⟩⟩⟩⟩ <;> simp [RdAll] at h
    exact ⟨v0, v1, rfl⟩
  obtain ⟨r0, r1, _⟩ := h
  obtain ⟨sa, sl, sc, rfl, h0⟩ := r0.slice Try.underlying36
  obtain ⟨u1, u2, u3, rfl⟩ := ret_tx r1
  obtain ⟨ops, hlen, hscr⟩ := scr_read h0
  have hsz : sl ≤ 9223372036854775807 := by
    obtain ⟨_, _, e, h⟩ := hscr.shape
    omega
  have HSC := hid hscr; have HLEN := hid hlen
  clear r0 r1 h0 hscr hlen
  have hk0 := (Kept.refl (fun _ => False) W).alloc (.cells #[.int .u8 u1, .int .u32 u2, .int .u32 u3] 28)
  have hr0 := row_new W (.cells #[.int .u8 u1, .int .u32 u2, .int .u32 u3] 28)
  have hsz0 : (W.alloc (.cells #[.int .u8 u1, .int .u32 u2, .int .u32 u3] 28)).heap.size = W.heap.size + 1 := by simp
  go_enter Try.func6, Try.ntmps6
  go_wp2_with fail
  obtain ⟨wt, hwt⟩ : ∃ wt, W.alloc (.cells #[.int .u8 u1, .int .u32 u2, .int .u32 u3] 28) = wt := ⟨_, rfl⟩
  obtain ⟨tb, htb⟩ : ∃ tb, W.heap.size = tb := ⟨_, rfl⟩
  rw [hwt] at hk0 hr0 hsz0
  rw [htb] at hr0 hsz0
  try rw [hwt]
  try rw [htb]
  have K0 := hid hk0; have R0 := hid hr0; have HTB := hid htb; have HSZ0 := hid hsz0
  clear hk0 hr0 hwt htb hsz0
  refine (awake_any _).mono ?_; rintro e w1 ⟨rfl, hb1⟩
  have K1 := hid (Kept.of_below hb1 (fun _ => False))
  clear hb1
  go_wp2_with fail
  refine (bnew _).mono ?_; rintro e w2 ⟨ba, rfl, hbn, hbk, hk⟩
  have BA2 := hid hbk; have K2 := hid (K1.out.trans hk); have HS2 := hid hk.size
  clear hbn hbk hk
  go_wp2_with fail
  refine (bnew _).mono ?_; rintro e w3 ⟨bb, rfl, hbn, hbk, hk⟩
  have BB3 := hid hbk; have K3 := hid (K2.out.trans hk); have BA3 := hid (BA2.out.same hk); have HS3 := hid hk.size
  clear hbn hbk hk
  have hd1 := dk_new w3
  have hd2 := dk_new (w3.alloc (.cells #[.slice none 0 0, .slice none 0 0] 41))
  have hsa : (w3.alloc (.cells #[.slice none 0 0, .slice none 0 0] 41)).heap.size = w3.heap.size + 1 := by simp
  rw [hsa] at hd2
  have hkk := (Kept.refl (fun _ => False) w3).alloc (.cells #[.slice none 0 0, .slice none 0 0] 41)
  have hd1' := hd1.same ((Kept.refl (fun _ => False) (w3.alloc (.cells #[.slice none 0 0, .slice none 0 0] 41))).alloc (.cells #[.slice none 0 0, .slice none 0 0] 41))
  have hk5 := hkk.alloc (.cells #[.slice none 0 0, .slice none 0 0] 41)
  go_wp2_with fail
  obtain ⟨w5, hw5⟩ : ∃ w5, (w3.alloc (.cells #[.slice none 0 0, .slice none 0 0] 41)).alloc (.cells #[.slice none 0 0, .slice none 0 0] 41) = w5 := ⟨_, rfl⟩
  obtain ⟨xb, hxb⟩ : ∃ xb, w3.heap.size = xb := ⟨_, rfl⟩
  rw [hw5, hxb] at hd1' hd2
  rw [hw5] at hk5
  try rw [hw5]
  try rw [hxb]
  have HXB := hid hxb
  have A5 := hid (⟨BA3.out.same hk5, hd1', fun i h e => by have := HS3.out; have h2 : i < w2.heap.size := h.2; omega, okay_nil, rel_nil⟩ : Both (fun i => w1.heap.size ≤ i ∧ i < w2.heap.size) (fun i => i = xb) w5 false ba (some ⟨xb, 0, none⟩) [] [] [])
  have C5 := hid (⟨BB3.out.same hk5, hd2, fun i h e => by have h2 : i < w3.heap.size := h.2; omega, okay_nil, rel_nil⟩ : Both (fun i => w2.heap.size ≤ i ∧ i < w3.heap.size) (fun i => i = xb + 1) w5 false bb (some ⟨xb + 1, 0, none⟩) [] [] [])
  have K5 := hid (K3.out.trans hk5)
  have HSW := hid (show tb + 1 ≤ w1.heap.size by have := K1.out.size; have := HSZ0.out; omega)
  clear hd1 hd2 hd1' hkk hk5 hw5 hxb hsa BA2 BB3 BA3 K2 K3 K1
  go_loopw [21] (fun i wr => ∃ (k : Nat) (P Q P2 Q2 : Nat → Prop), k ≤ sl ∧ k ≤ 80 ∧ i = .int .i64 k ∧ Both P Q wr false ba (some ⟨xb, 0, none⟩) (runG false (ops.take k) []) (runK false (ops.take k) []) (runT false (ops.take k) []) ∧
      Both P2 Q2 wr false bb (some ⟨xb + 1, 0, none⟩) (runG false ((ops.take k).filter fun o => decide (o.t = (u1, u2, u3))) []) (runK false ((ops.take k).filter fun o => decide (o.t = (u1, u2, u3))) []) (runT false ((ops.take k).filter fun o => decide (o.t = (u1, u2, u3))) []) ∧
      (∀ i, (P i ∨ Q i) ∨ (P2 i ∨ Q2 i) → W.heap.size ≤ i ∧ i ≠ tb) ∧ (∀ i, P i ∨ Q i → ¬ (P2 i ∨ Q2 i)) ∧ Kept (fun i => W.heap.size ≤ i ∧ i ≠ tb) wt wr) (fun i _ => sl - (RowKit.intOf i).toNat)
  case atStart => exact ⟨0, _, _, _, _, Nat.zero_le _, Nat.zero_le _, rfl, A5.out, C5.out, fun i h => by have := HSW.out; have := HTB.out; have := HS2.out; have := HS3.out; have := HXB.out; omega, fun i h => by have := HXB.out; have := HS3.out; omega, K5.out.mono (fun _ _ h => h.elim)⟩
  case round =>
    rename World => wr
    obtain ⟨k, P, Q, P2, Q2, hk, hk80, rfl, hba, hbb, hPW, hDS, hkp⟩ := hrel
    have A := hid hba; have C := hid hbb; have HPW := hid hPW; have HDS := hid hDS; have KR := hid hkp
    have KWR := hid (show Kept (fun _ => False) W wr from K0.out.trans' hkp (fun i h => .inr h.1))
    have RT := hid ((hkp.block tb (row_lt R0.out) (fun h => h.2 rfl)).trans R0.out)
    clear hba hbb hPW hDS hkp
    have hgl : ∀ l : List OpD, l.length ≤ 80 → (runG false l []).length ≤ 1000 ∧ (runK false l []).length ≤ 1000 := fun l hl => ⟨by have := runG_len false l []; simp only [List.length_nil] at this; omega, by have := runK_len false l []; simp only [List.length_nil] at this; omega⟩
    have htl : (ops.take k).length ≤ 80 := by rw [List.length_take]; omega
    have HGA := hid (hgl _ htl)
    have HGC := hid (hgl _ (Nat.le_trans (List.length_filter_le (fun o : OpD => decide (o.t = (u1, u2, u3))) _) htl))
    clear hgl htl
    by_cases hlt : k < sl ∧ k < 80
    · obtain ⟨hlt, h80⟩ := hlt
      have hltI : (k : Int) < (sl : Int) := by omega
      have hge : ¬ (80 : Int) ≤ (k : Int) := by omega
      obtain ⟨o, ho⟩ : ∃ o, ops[k]? = some o := ⟨_, List.getElem?_eq_getElem (by rw [HLEN.out]; exact hlt)⟩
      have HTK := hid (show ops.take (k + 1) = ops.take k ++ [o] by rw [List.take_add_one, ho]; rfl)
      obtain ⟨gb, off, na, nc, rfl, ⟨e0, e1, e2, e3, e4, e5, e6, e7⟩, hok⟩ := HSC.out.at ho
      have e0 := KWR.out.cell e0 id; have e1 := KWR.out.cell e1 id; have e2 := KWR.out.cell e2 id; have e3 := KWR.out.cell e3 id; have e4 := KWR.out.cell e4 id; have e5 := KWR.out.cell e5 id; have e6 := KWR.out.cell e6 id; have e7 := KWR.out.cell e7 id
      clear ho
      obtain ⟨kd, ⟨t1, t2, t3⟩, l, x, yes, s⟩ := o
      simp only at e0 e1 e2 e3 e4 e5 e6 e7 hok
      obtain ⟨N, hN⟩ : ∃ N, l.length = N := ⟨_, rfl⟩
      rw [hN] at e4
      have HNB := hid (show Byt W (.slice na N nc) l from by rw [← hN]; exact hok.b)
      have HNF := hid (show 0 < l.length → ∀ g, (Value.slice na N nc).ownBlock = some g → g < W.heap.size from fun h0 g hg => hok.n h0 g (by show (Value.slice na l.length nc).ownBlock = some g; rw [hN]; exact hg))
      have HNL := hid (show N ≤ 140737488351232 by rw [← hN]; exact hok.len)
      have HNR := hid hok.r
      clear hN hok
      obtain ⟨b, hb⟩ : ∃ b, decide (((t1, t2, t3) : Tx) = (u1, u2, u3)) = b := ⟨_, rfl⟩
      have hsame : ∀ w', (Op.equalIn 10000 28 (.agg #[.int .u8 t1, .int .u32 t2, .int .u32 t3]) (.agg #[.int .u8 u1, .int .u32 u2, .int .u32 u3])).run Try.prog w' = .ok b w' := fun w' => by
        rw [← hb]; exact tx_same (t1, t2, t3) (u1, u2, u3) w'
      have HTF := hid (show (ops.take (k + 1)).filter (fun o => decide (o.t = (u1, u2, u3))) = (ops.take k).filter (fun o => decide (o.t = (u1, u2, u3))) ++ (if b then [⟨kd, (t1, t2, t3), l, x, yes, s⟩] else []) by
        rw [HTK.out, List.filter_append]
        congr 1
        rw [← hb]
        by_cases e : ((t1, t2, t3) : Tx) = (u1, u2, u3) <;> simp [e])
      clear hb
      go_wp2_with (first | (refine wpList_store_row rfl 43 (.tmp 10) (.tmp 25) rfl #[.int .u8 kd, .int .u8 t1, .int .u32 t2, .int .u32 t3, .slice na N nc, .int .u8 x, .bool yes, .int .i64 s] #[.int .u8 0, .int .u8 0, .int .u32 0, .int .u32 0, .slice none 0 0, .int .u8 0, .bool false, .int .i64 0] (by rfl) (by rfl) (by exact row_new _ _) rfl infoOps (by simp [Value.oneCell']) ?_; intro w4 hb4 hk4; obtain ⟨y0, y1, y2, y3, y4, y5, y6, y7⟩ := cells8 hb4; have k4 := ((Kept.refl (fun _ => False) wr).alloc (.cells #[.int .u8 0, .int .u8 0, .int .u32 0, .int .u32 0, .slice none 0 0, .int .u8 0, .bool false, .int .i64 0] 43)).trans' hk4 (fun i e => .inr (by rw [e]; exact Nat.le_refl _)); have HB4 := hid hb4; have K4 := hid k4; clear hb4 hk4 k4))
      obtain ⟨ob, hob⟩ : ∃ ob, wr.heap.size = ob := ⟨_, rfl⟩
      rw [hob] at HB4
      try rw [hob]
      have HOB := hid hob
      clear hob y0 y1 y2 y3 y4 y5 y6 y7 e0 e1 e2 e3 e4 e5 e6 e7
      refine (play_any (A.out.same K4.out) HGA.out.1 HGA.out.2 (HNB.out.kept (KWR.out.trans K4.out) (fun _ _ => id)) (fun h0 g hg => ⟨fun hp => by have := HNF.out h0 g hg; have := (HPW.out g (.inl (.inl hp))).1; omega, fun hq => by have := HNF.out h0 g hg; have := (HPW.out g (.inl (.inr hq))).1; omega⟩) HNR.out HNL.out).mono ?_
      rintro e w6 ⟨rfl, P', Q', hb7, hP7, hQ7, hk7⟩
      have hob4 : ob < w4.heap.size := row_lt HB4.out
      have hz4 : W.heap.size ≤ w4.heap.size := Nat.le_trans KWR.out.size K4.out.size
      have htb4 : tb < w4.heap.size := Nat.lt_of_lt_of_le (row_lt RT.out) K4.out.size
      have A6 := hid (show Both P' Q' w6 false ba (some ⟨xb, 0, none⟩) (runG false (ops.take (k + 1)) []) (runK false (ops.take (k + 1)) []) (runT false (ops.take (k + 1)) []) from by rw [HTK.out, runG_snoc, runK_snoc, runT_snoc]; exact hb7)
      have C6 := hid ((C.out.same K4.out).kept hk7 (fun i hf _ => ⟨fun h => HDS.out i hf (.inl h), fun h => HDS.out i hf (.inr h)⟩))
      have HD6 := hid (show ∀ i, P' i ∨ Q' i → ¬ (P2 i ∨ Q2 i) from fun i h h2 => by
        have h2l : i < w4.heap.size := Nat.lt_of_lt_of_le (h2.elim (C.out.b.lt i) (C.out.d.lt i)) K4.out.size
        rcases h with h | h
        · exact (hP7 i h).elim (fun h => HDS.out i (.inl h) h2) (fun h => by omega)
        · exact (hQ7 i h).elim (fun h => HDS.out i (.inr h) h2) (fun h => by omega))
      have HW6 := hid (show ∀ i, (P' i ∨ Q' i) ∨ (P2 i ∨ Q2 i) → W.heap.size ≤ i ∧ i ≠ tb from fun i h => by
        rcases h with (h | h) | h
        · exact (hP7 i h).elim (fun h => HPW.out i (.inl (.inl h))) (fun h => ⟨by omega, by omega⟩)
        · exact (hQ7 i h).elim (fun h => HPW.out i (.inl (.inr h))) (fun h => ⟨by omega, by omega⟩)
        · exact HPW.out i (.inr h))
      have K6 := hid (show Kept (fun i => W.heap.size ≤ i ∧ i ≠ tb) wt w6 from (KR.out.trans (K4.out.mono (fun _ _ h => h.elim))).trans (hk7.mono (fun i _ h => HPW.out i (.inl h))))
      have RO6 := hid ((hk7.block ob (row_lt HB4.out) (fun h => h.elim (fun h => by have := A.out.b.lt ob h; have := HOB.out; omega) (fun h => by have := A.out.d.lt ob h; have := HOB.out; omega))).trans HB4.out)
      have RT6 := hid ((K6.out.block tb (row_lt R0.out) (fun h => h.2 rfl)).trans R0.out)
      have KW6 := hid (show Kept (fun _ => False) W w6 from K0.out.trans' K6.out (fun i h => .inr h.1))
      have HPO2 := hid (show ¬ P2 ob ∧ ¬ Q2 ob from ⟨fun h => by have := C.out.b.lt ob h; have := HOB.out; omega, fun h => by have := C.out.d.lt ob h; have := HOB.out; omega⟩)
      clear hb7 hP7 hQ7 hk7 hob4 hz4 htb4 A HPW HDS KR KWR RT K4 HB4 HOB C
      obtain ⟨c0, c1, c2, c3, c4, c5, c6', c7'⟩ := cells8 RO6.out
      obtain ⟨d0, d1, d2⟩ := cells3 RT6.out
      cases b with
      | true =>
        have HTF2 := hid (show (ops.take (k + 1)).filter (fun o => decide (o.t = (u1, u2, u3))) = (ops.take k).filter (fun o => decide (o.t = (u1, u2, u3))) ++ [⟨kd, (t1, t2, t3), l, x, yes, s⟩] from HTF.out)
        clear HTF
        go_wp2_with fail
        refine (play_any C6.out HGC.out.1 HGC.out.2 (HNB.out.kept KW6.out (fun _ _ => id)) (fun h0 g hg => ⟨fun hp => by have := HNF.out h0 g hg; have := (HW6.out g (.inr (.inl hp))).1; omega, fun hq => by have := HNF.out h0 g hg; have := (HW6.out g (.inr (.inr hq))).1; omega⟩) HNR.out HNL.out).mono ?_
        rintro e w7 ⟨rfl, P2', Q2', hb8, hP8, hQ8, hk8⟩
        have hz6 : W.heap.size ≤ w6.heap.size := KW6.out.size
        have htb6 : tb < w6.heap.size := row_lt RT6.out
        have C7 := hid (show Both P2' Q2' w7 false bb (some ⟨xb + 1, 0, none⟩) (runG false ((ops.take (k + 1)).filter fun o => decide (o.t = (u1, u2, u3))) []) (runK false ((ops.take (k + 1)).filter fun o => decide (o.t = (u1, u2, u3))) []) (runT false ((ops.take (k + 1)).filter fun o => decide (o.t = (u1, u2, u3))) []) from by rw [HTF2.out, runG_snoc, runK_snoc, runT_snoc]; exact hb8)
        have A7 := hid (A6.out.kept hk8 (fun i hf _ => ⟨fun h => HD6.out i (.inl h) hf, fun h => HD6.out i (.inr h) hf⟩))
        have HD7 := hid (show ∀ i, P' i ∨ Q' i → ¬ (P2' i ∨ Q2' i) from fun i h h2 => by
          have h1l : i < w6.heap.size := h.elim (A6.out.b.lt i) (A6.out.d.lt i)
          rcases h2 with h2 | h2
          · exact (hP8 i h2).elim (fun h2 => HD6.out i h (.inl h2)) (fun h => by omega)
          · exact (hQ8 i h2).elim (fun h2 => HD6.out i h (.inr h2)) (fun h => by omega))
        have HW7 := hid (show ∀ i, (P' i ∨ Q' i) ∨ (P2' i ∨ Q2' i) → W.heap.size ≤ i ∧ i ≠ tb from fun i h => by
          rcases h with h | (h | h)
          · exact HW6.out i (.inl h)
          · exact (hP8 i h).elim (fun h => HW6.out i (.inr (.inl h))) (fun h => ⟨by omega, by omega⟩)
          · exact (hQ8 i h).elim (fun h => HW6.out i (.inr (.inr h))) (fun h => ⟨by omega, by omega⟩))
        have K7 := hid (show Kept (fun i => W.heap.size ≤ i ∧ i ≠ tb) wt w7 from K6.out.trans (hk8.mono (fun i _ h => HW6.out i (.inr h))))
        clear hb8 hP8 hQ8 hk8 hz6 htb6 c0 c1 c2 c3 c4 c5 c6' c7' d0 d1 d2
        go_wp2
        go_roundw
        case rel => exact ⟨k + 1, P', Q', P2', Q2', by omega, by omega, by go_num, A7.out, C7.out, HW7.out, HD7.out, K7.out⟩
        case measure => (simp only [RowKit.intOf]; omega)
      | false =>
        have HTF2 := hid (show (ops.take (k + 1)).filter (fun o => decide (o.t = (u1, u2, u3))) = (ops.take k).filter (fun o => decide (o.t = (u1, u2, u3))) from by rw [HTF.out]; simp)
        clear HTF
        go_wp2
        go_roundw
        case rel => exact ⟨k + 1, P', Q', P2, Q2, by omega, by omega, by go_num, A6.out, by rw [HTF2.out]; exact C6.out, HW6.out, HD6.out, K6.out⟩
        case measure => (simp only [RowKit.intOf]; omega)
    · have hra := run_apart (u1, u2, u3) (ops.take k) [] [] rfl
      have hta := take_apart (u1, u2, u3) (ops.take k) [] [] rfl
      obtain ⟨q1, hq1⟩ : ∃ q, lookG (runG false (ops.take k) []) (u1, u2, u3) = q := ⟨_, rfl⟩
      obtain ⟨q2, hq2⟩ : ∃ q, stK (runK false (ops.take k) []) (u1, u2, u3) = q := ⟨_, rfl⟩
      rw [hq1] at hra
      rw [hq2] at hta
      obtain ⟨r1, hr1⟩ : ∃ r, stR q1 = r := ⟨_, rfl⟩
      have HR1 := hid (show stR (lookG (runG false (ops.take k) []) (u1, u2, u3)) = r1 by rw [hq1, hr1])
      have HR2 := hid (show stR (lookG (runG false ((ops.take k).filter fun o => decide (o.t = (u1, u2, u3))) []) (u1, u2, u3)) = r1 by rw [← hra, hr1])
      have HR3 := hid hq2
      have HR4 := hid hta.symm
      obtain ⟨ol, hol⟩ : ∃ r, oweR q1 = r := ⟨_, rfl⟩
      have HO1 := hid (show oweR (lookG (runG false (ops.take k) []) (u1, u2, u3)) = ol by rw [hq1, hol])
      have HO2 := hid (show oweR (lookG (runG false ((ops.take k).filter fun o => decide (o.t = (u1, u2, u3))) []) (u1, u2, u3)) = ol by rw [← hra, hol])
      have HN1 := hid (show ∀ p ∈ runG false (ops.take k) [], p.2.ns.length ≤ 4 from fun p hp => (A.out.ok.2 p hp).2)
      have HN2 := hid (show ∀ p ∈ runG false ((ops.take k).filter fun o => decide (o.t = (u1, u2, u3))) [], p.2.ns.length ≤ 4 from fun p hp => (C.out.ok.2 p hp).2)
      clear hra hta hq1 hq2 hr1 hol
      by_cases hls : k < sl
      · have h80 : k = 80 := by omega
        have hltI : (k : Int) < (sl : Int) := by omega
        have hge : (80 : Int) ≤ (k : Int) := by omega
        clear h80
        obtain ⟨o, ho⟩ : ∃ o, ops[k]? = some o := ⟨_, List.getElem?_eq_getElem (by rw [HLEN.out]; exact hls)⟩
        obtain ⟨gb, off, na, nc, rfl, ⟨e0, e1, e2, e3, e4, e5, e6, e7⟩, hok⟩ := HSC.out.at ho
        have e0 := KWR.out.cell e0 id; have e1 := KWR.out.cell e1 id; have e2 := KWR.out.cell e2 id; have e3 := KWR.out.cell e3 id; have e4 := KWR.out.cell e4 id; have e5 := KWR.out.cell e5 id; have e6 := KWR.out.cell e6 id; have e7 := KWR.out.cell e7 id
        clear ho hok
        obtain ⟨kd, ⟨t1, t2, t3⟩, l, x, yes, s⟩ := o
        simp only at e0 e1 e2 e3 e4 e5 e6 e7
        obtain ⟨N, hN⟩ : ∃ N, l.length = N := ⟨_, rfl⟩
        rw [hN] at e4
        clear hN
        go_wp2_with (first | (refine wpList_store_row rfl 43 (.tmp 10) (.tmp 25) rfl #[.int .u8 kd, .int .u8 t1, .int .u32 t2, .int .u32 t3, .slice na N nc, .int .u8 x, .bool yes, .int .i64 s] #[.int .u8 0, .int .u8 0, .int .u32 0, .int .u32 0, .slice none 0 0, .int .u8 0, .bool false, .int .i64 0] (by rfl) (by rfl) (by exact row_new _ _) rfl infoOps (by simp [Value.oneCell']) ?_; intro w4 hb4 hk4; obtain ⟨y0, y1, y2, y3, y4, y5, y6, y7⟩ := cells8 hb4; have k4 := ((Kept.refl (fun _ => False) wr).alloc (.cells #[.int .u8 0, .int .u8 0, .int .u32 0, .int .u32 0, .slice none 0 0, .int .u8 0, .bool false, .int .i64 0] 43)).trans' hk4 (fun i e => .inr (by rw [e]; exact Nat.le_refl _)); have HB4 := hid hb4; have K4 := hid k4; clear hb4 hk4 k4))
        clear e0 e1 e2 e3 e4 e5 e6 e7 y0 y1 y2 y3 y4 y5 y6 y7
        have KD := hid (show Kept (fun _ => False) wr w4.drew from K4.out.drew)
        have HLOW := hid (fun i (h : W.heap.size ≤ i ∧ i ≠ tb) => h.1)
        have RD := hid ((KD.out.block tb (row_lt RT.out) id).trans RT.out)
        have s1 := cells3 RD.out
        go_region_held3 (fun w' => w'.cell? ⟨tb, 0, none⟩ = some (.int .u8 u1) ∧ w'.cell? ⟨tb, 1, none⟩ = some (.int .u32 u2) ∧ w'.cell? ⟨tb, 2, none⟩ = some (.int .u32 u3)) (first | exact s1 | exact s2 | exact s3 | exact s4 | exact s5 | exact s6 | exact s7 | exact s8)
          (first
            | (go_at_call 13; refine (bruns (A.out.same KD.out).b).mono ?_; rintro e v1 ⟨he, hk⟩; rw [HR1.out] at he; subst he; have KE := hid (KD.out.trans hk); have s2 := cells3 ((KE.out.block tb (row_lt RT.out) id).trans RT.out); clear hk s1 KD)
            | (go_at_call 13; refine (bruns (C.out.same KE.out).b).mono ?_; rintro e v2 ⟨he, hk⟩; rw [HR2.out] at he; subst he; have KF := hid (KE.out.trans hk); have s3 := cells3 ((KF.out.block tb (row_lt RT.out) id).trans RT.out); clear hk s2 KE)
            | (go_at_call 14; refine (bstands (A.out.same KF.out).b).mono ?_; rintro e v3 ⟨he, hk⟩; rw [HR3.out] at he; subst he; have KG := hid (KF.out.trans hk); have s4 := cells3 ((KG.out.block tb (row_lt RT.out) id).trans RT.out); clear hk s3 KF)
            | (go_at_call 14; refine (bstands (C.out.same KG.out).b).mono ?_; rintro e v4 ⟨he, hk⟩; rw [HR4.out] at he; subst he; have KH := hid (KG.out.trans hk); have s5 := cells3 ((KH.out.block tb (row_lt RT.out) id).trans RT.out); clear hk s4 KG)
            | (go_at_call 16; refine (bowing (A.out.same KH.out).b HN1.out).mono ?_; rintro e v5 ⟨la, ln, lc, he, hln, hlo, hlf, hk⟩; rw [HO1.out] at hlo; subst he; have KI := hid (KH.out.trans hk); have HLO := hid hlo; have s6 := cells3 ((KI.out.block tb (row_lt RT.out) id).trans RT.out); clear hk hlo hlf s5 KH)
            | (go_at_call 16; refine (bowing (C.out.same KI.out).b HN2.out).mono ?_; rintro e v6 ⟨pa, pn, pc, he, hpn, hpo, hpf, hk⟩; rw [HO2.out] at hpo; subst he; have KJ := hid (KI.out.trans hk); have HPO := hid hpo; have HLO2 := hid (HLO.out.same hk); have s7 := cells3 ((KJ.out.block tb (row_lt RT.out) id).trans RT.out); clear hk hpo hpf s6 KI)
            | (go_at_call 15; refine (same_bytes HLO2.out.byt HPO.out.byt).mono ?_; rintro e v7 ⟨he, hk⟩; rw [decide_eq_true rfl] at he; subst he; have KK := hid (KJ.out.trans hk); have s8 := cells3 ((KK.out.block tb (row_lt RT.out) id).trans RT.out); clear hk s7))
        have FIN := hid (show Kept (fun _ => False) W v7 from KWR.out.trans KK.out)
        clear s8
        go_wp2
        go_ret
        exact ⟨rfl, FIN.out.below (Nat.le_refl _) (fun _ h => h.elim)⟩
      · go_wp2_with fail
        have KD := hid (show Kept (fun _ => False) wr wr.drew from (Kept.refl _ _).drew)
        have HLOW := hid (fun i (h : W.heap.size ≤ i ∧ i ≠ tb) => h.1)
        have RD := hid ((KD.out.block tb (row_lt RT.out) id).trans RT.out)
        have s1 := cells3 RD.out
        go_region_held3 (fun w' => w'.cell? ⟨tb, 0, none⟩ = some (.int .u8 u1) ∧ w'.cell? ⟨tb, 1, none⟩ = some (.int .u32 u2) ∧ w'.cell? ⟨tb, 2, none⟩ = some (.int .u32 u3)) (first | exact s1 | exact s2 | exact s3 | exact s4 | exact s5 | exact s6 | exact s7 | exact s8)
          (first
            | (go_at_call 13; refine (bruns (A.out.same KD.out).b).mono ?_; rintro e v1 ⟨he, hk⟩; rw [HR1.out] at he; subst he; have KE := hid (KD.out.trans hk); have s2 := cells3 ((KE.out.block tb (row_lt RT.out) id).trans RT.out); clear hk s1 KD)
            | (go_at_call 13; refine (bruns (C.out.same KE.out).b).mono ?_; rintro e v2 ⟨he, hk⟩; rw [HR2.out] at he; subst he; have KF := hid (KE.out.trans hk); have s3 := cells3 ((KF.out.block tb (row_lt RT.out) id).trans RT.out); clear hk s2 KE)
            | (go_at_call 14; refine (bstands (A.out.same KF.out).b).mono ?_; rintro e v3 ⟨he, hk⟩; rw [HR3.out] at he; subst he; have KG := hid (KF.out.trans hk); have s4 := cells3 ((KG.out.block tb (row_lt RT.out) id).trans RT.out); clear hk s3 KF)
            | (go_at_call 14; refine (bstands (C.out.same KG.out).b).mono ?_; rintro e v4 ⟨he, hk⟩; rw [HR4.out] at he; subst he; have KH := hid (KG.out.trans hk); have s5 := cells3 ((KH.out.block tb (row_lt RT.out) id).trans RT.out); clear hk s4 KG)
            | (go_at_call 16; refine (bowing (A.out.same KH.out).b HN1.out).mono ?_; rintro e v5 ⟨la, ln, lc, he, hln, hlo, hlf, hk⟩; rw [HO1.out] at hlo; subst he; have KI := hid (KH.out.trans hk); have HLO := hid hlo; have s6 := cells3 ((KI.out.block tb (row_lt RT.out) id).trans RT.out); clear hk hlo hlf s5 KH)
            | (go_at_call 16; refine (bowing (C.out.same KI.out).b HN2.out).mono ?_; rintro e v6 ⟨pa, pn, pc, he, hpn, hpo, hpf, hk⟩; rw [HO2.out] at hpo; subst he; have KJ := hid (KI.out.trans hk); have HPO := hid hpo; have HLO2 := hid (HLO.out.same hk); have s7 := cells3 ((KJ.out.block tb (row_lt RT.out) id).trans RT.out); clear hk hpo hpf s6 KI)
            | (go_at_call 15; refine (same_bytes HLO2.out.byt HPO.out.byt).mono ?_; rintro e v7 ⟨he, hk⟩; rw [decide_eq_true rfl] at he; subst he; have KK := hid (KJ.out.trans hk); have s8 := cells3 ((KK.out.block tb (row_lt RT.out) id).trans RT.out); clear hk s7))
        have FIN := hid (show Kept (fun _ => False) W v7 from KWR.out.trans KK.out)
        clear s8
        go_wp2
        go_ret
        exact ⟨rfl, FIN.out.below (Nat.le_refl _) (fun _ h => h.elim)⟩
end Go.Proofs.Ytaobioleodfafaa
/- PROVED: the law CommitApart returns true for every input and leaves its arguments as they were. No condition. -/
namespace Go.Proofs.Ytaobioleodfafaa
set_option maxRecDepth 100000 in
theorem commitApart_lifted (os : Os) (started : os.Started) (H : Type) (enc : TypeId × Value → H) :
    ReturnsInHanded {} Try.checked os 6 .any (Rows.commitApartSpec.pre6 enc Try.prog Try.f6 Rows.commitApartRow.domain false) (Rows.commitApartSpec.post enc Try.prog Try.f6 false true false false) :=
  lawLift (C := Try.checked) (s := Rows.commitApartSpec) (bt := 4) (by kernel_rfl) started (by kernel_rfl) Try.func6 (by kernel_rfl)
    (by rw [Try.params6]; intro t ht; simp only [List.mem_cons, List.not_mem_nil, or_false] at ht; rcases ht with rfl | rfl <;> exact ⟨by kernel_rfl, of_decide_eq_true (by kernel_rfl)⟩)
    rfl rfl Try.underlying4 (by intro ds h; rw [Try.params6] at h; match ds, h with | [_, _], _ => rfl)
    (ChangeSpec.witness6 (enc := enc) (C := Try.checked) false ⟨#[], #[.slice none 0 0, .agg #[.int .u8 0, .int .u32 0, .int .u32 0]], []⟩ 8 (by kernel_rfl) (by kernel_rfl) (by kernel_rfl) (by kernel_rfl))
    apart_walk
theorem commitApart_holds : Rows.CommitApartSaid :=
  OpenClaim.holds_of_wide 6 Try.f6 rfl rfl rfl rfl rfl rfl rfl ⟨rfl, rfl, rfl, rfl, rfl⟩ rfl rfl rfl rfl rfl (by kernel_rfl) Try.func6 (by kernel_rfl)
    (of_decide_eq_true (by kernel_rfl)) (by unfold Func.isWrapper; rw [if_neg (of_decide_eq_false (by kernel_rfl))]; exact ⟨rfl, rfl⟩)
    (fun os started H enc _ => commitApart_lifted os started H enc)
#print axioms commitApart_holds
end Go.Proofs.Ytaobioleodfafaa
