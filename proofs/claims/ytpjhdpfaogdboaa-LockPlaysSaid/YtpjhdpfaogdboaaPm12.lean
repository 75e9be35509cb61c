/- Texts of this claim, merged: G, J, Kp. -/
import Derived.Test.YtpjhdpfaogdboaaPm1
import Derived.Test.YtpjhdpfaogdboaaPm2
import Derived.Test.YtpjhdpfaogdboaaPm3
import Derived.Test.YtpjhdpfaogdboaaPm4
import Derived.Test.YtpjhdpfaogdboaaPm5
import Derived.Test.YtpjhdpfaogdboaaPm6
import Derived.Test.YtpjhdpfaogdboaaPm7
import Derived.Test.YtpjhdpfaogdboaaPm8
import Derived.Test.YtpjhdpfaogdboaaPm9
import Derived.Test.YtpjhdpfaogdboaaPm10
import Derived.Test.YtpjhdpfaogdboaaPm11
/- all: the owners, the oldest first. -/
namespace Go.Proofs.Ytpjhdpfaogdboaa
set_option linter.unusedSimpArgs false
set_option linter.unusedVariables false
open Go.RowKit Go.Shelf
/-! ### plain: a sorted list is one -/
theorem sorted_one {α : Type} {lt : α → α → Prop} : ∀ {a b : List α}, a.Pairwise (fun x y => ¬ lt y x) → b.Pairwise (fun x y => ¬ lt y x) → a.Perm b → (∀ x ∈ a, ∀ y ∈ a, ¬ lt x y → ¬ lt y x → x = y) → a = b
  | [], b, _, _, h, _ => by simpa using h.symm
  | x :: a, [], _, _, h, _ => by simp at h
  | x :: a, y :: b, h1, h2, h, ht => by
    rw [List.pairwise_cons] at h1 h2
    have hxy : x = y := by
      have hx : x ∈ y :: b := h.mem_iff.1 (by simp)
      have hy : y ∈ x :: a := h.mem_iff.2 (by simp)
      rcases List.mem_cons.1 hx with e | hx
      · exact e
      · rcases List.mem_cons.1 hy with e | hy
        · exact e.symm
        · exact ht x List.mem_cons_self y (List.mem_cons_of_mem _ hy) (h2.1 x hx) (h1.1 y hy)
    subst hxy
    rw [sorted_one h1.2 h2.2 (List.perm_cons x |>.1 h) (fun u hu v hv => ht u (List.mem_cons_of_mem _ hu) v (List.mem_cons_of_mem _ hv))]
theorem perm_map_inv {α β : Type} (f : α → β) : ∀ (ss : List β) (L : List α), ss.Perm (L.map f) → ∃ K : List α, K.Perm L ∧ K.map f = ss
  | [], L, h => by
    have : L = [] := by simpa using h.symm
    subst this
    exact ⟨[], List.Perm.refl _, rfl⟩
  | s :: ss, L, h => by
    have hs : s ∈ L.map f := h.mem_iff.1 List.mem_cons_self
    obtain ⟨o, ho, rfl⟩ := List.mem_map.1 hs
    obtain ⟨l1, l2, rfl⟩ := List.append_of_mem ho
    have h2 : ss.Perm ((l1 ++ l2).map f) := by
      have : (f o :: ss).Perm (f o :: (l1 ++ l2).map f) := h.trans ((List.perm_middle (a := o) (l₁ := l1) (l₂ := l2)).map f)
      exact (List.perm_cons _).1 this
    obtain ⟨K, hK, e⟩ := perm_map_inv f ss (l1 ++ l2) h2
    exact ⟨o :: K, (hK.cons o).trans (List.perm_middle (a := o)).symm, by rw [List.map_cons, e]⟩
theorem ltOf_ordO (x y : Int × Tx) : ltOf ordO x y = decide (ltO x y) := by
  unfold ltOf
  by_cases h : ltO x y
  · have := ordO_neg.2 h; simp [h, this]
  · have : ¬ ordO x y < 0 := fun h1 => h (ordO_neg.1 h1)
    simp [h]; omega
/-! ### the sort's worlds -/
theorem kept_sort1 {α : Type} [Inhabited α] (enc : α → Value) (w : World) (blk off n : Nat) (d : Array α) (os : Array Obj) : Kept (fun i => i = blk) w (sortWorld enc w blk off n d os) := by
  refine ⟨rfl, rfl, rfl, ?_, fun i hi hn => ?_⟩
  · simp [sortWorld, Go.Sort.grow, Go.Sort.putRow, Go.Sort.ahead, Go.Sort.mapBlock]
  · simp only [sortWorld, Go.Sort.grow, Go.Sort.putRow, Go.Sort.ahead, Go.Sort.mapBlock]
    rw [Array.getElem?_append_left (by simpa using hi), Array.getElem?_modify]
    simp [Ne.symm hn]
theorem holds_sort1 {α : Type} [Inhabited α] (enc : α → Value) {w : World} {blk off : Nat} {d0 d : Array α} (n : Nat) (os : Array Obj) (hb : blk < w.heap.size) (h : Go.Sort.Holds enc w blk off d0) (hs : d.size = d0.size) : Go.Sort.Holds enc (sortWorld enc w blk off n d os) blk off d := by
  refine Go.Sort.holds_grow enc _ os blk off d ?_ (Go.Sort.holds_putRow enc _ blk off d0 d (Go.Sort.holds_ahead enc w n blk off d0 h) hs)
  simpa [Go.Sort.putRow, Go.Sort.ahead, Go.Sort.mapBlock] using hb
/-! ### SortFunc at the owners of a table -/
abbrev In (L : List Ow) := { o : Ow // o ∈ L }
section
variable {own : Nat → Option Tx} {B : Nat} {w : World} {tb mb : Nat} {L : List Ow} {A : Tx → Ad}
theorem Tab.elder (h : Tab own B w tb mb L A) {x y : Ow} (hx : x ∈ L) (hy : y ∈ L) :
    Calls Try.prog 28 #[ptr (A x.tx).ob, ptr (A y.tx).ob] w fun e w' => e = .returned (.int .i64 (ordO x.key y.key)) ∧ ∃ q os', w' = Go.Sort.grow (w.drewN q) os' := by
  obtain ⟨c0, c1, c2, c3, _, _, _⟩ := cells7 (h.ows x hx).obj
  obtain ⟨d0, d1, d2, d3, _, _, _⟩ := cells7 (h.ows y hy).obj
  exact elder_grow ⟨c0, c1, c2, c3, d0, d1, d2, d3⟩
theorem key_inj (h : Tab own B w tb mb L A) {x y : Ow} (hx : x ∈ L) (hy : y ∈ L) (e : x.key = y.key) : x = y := by
  have h1 := findO_of h.nodup hx
  have h2 := findO_of h.nodup hy
  have e2 : x.tx = y.tx := congrArg Prod.snd e
  rw [e2, h2] at h1
  exact (Option.some.inj h1).symm
set_option maxHeartbeats 1000000 in
theorem sortO_any (h : Tab own B w tb mb L A) {blk cap : Nat} {K : List Ow} (hK : K.Perm L) (hb : blk < w.heap.size) (hbo : ∀ o ∈ L, (A o.tx).ob ≠ blk) (hsz : L.length ≤ 1000000)
    (hc : ∀ (j : Nat) (o : Ow), K[j]? = some o → w.cell? ⟨blk, j, none⟩ = some (ptr (A o.tx).ob) ∧ w.frozen? ⟨blk, j, none⟩ = false) (hpos : 0 < L.length) :
    Calls Try.prog 61 #[.slice (some ⟨blk, 0, none⟩) L.length cap, .func (.func 28) #[] #[]] w fun e w' => e = .returned (.tuple #[]) ∧ (∀ (j : Nat) (o : Ow), L[j]? = some o → w'.cell? ⟨blk, j, none⟩ = some (ptr (A o.tx).ob)) ∧ Kept (fun g => g = blk) w w' := by
  have i0 : Inhabited (In L) := ⟨⟨L[0], List.getElem_mem hpos⟩⟩
  let enc : In L → Value := fun o => ptr (A o.1.tx).ob
  let cf : In L → In L → Int := fun x y => ordO x.1.key y.1.key
  let d : Array (In L) := (K.attachWith (· ∈ L) (fun x hx => hK.mem_iff.1 hx)).toArray
  have hdl : d.size = L.length := by simp [d, hK.length_eq]
  have hlt : ∀ x y : In L, ltOf cf x y = decide (ltO x.1.key y.1.key) := fun x y => ltOf_ordO x.1.key y.1.key
  have swo : Go.Sort.SWO (ltOf cf) := {
    irrefl := fun x => by rw [hlt]; simpa using ltO_irrefl _
    trans := fun x y z h1 h2 => by rw [hlt, decide_eq_true_eq] at *; exact ltO_trans h1 h2
    ntrans := fun x y z h1 h2 => by rw [hlt, decide_eq_false_iff_not] at *; exact ltO_ntrans h1 h2 }
  have hT : ∀ x y : In L, ltOf cf x y = false → ltOf cf y x = false → x = y := fun x y h1 h2 => by
    rw [hlt, decide_eq_false_iff_not] at h1 h2
    exact Subtype.ext (key_inj h x.2 y.2 (ltO_total h1 h2))
  have eg : ∀ args w, (callFunc 28 args).run Try.prog w = .ok (.enter 28 args) w := enters_of Try.func28 (by kernel_rfl) rfl
  have hcmp : CmpLays1 Try.prog 28 #[] enc cf blk 0 d.size w := fun m os dk _ x y => by
    have hk := kept_sort1 enc w blk 0 m dk os
    obtain ⟨c0, c1, c2, c3, _, _, _⟩ := cells7 (h.ows x.1 x.2).obj
    obtain ⟨d0, d1, d2, d3, _, _, _⟩ := cells7 (h.ows y.1 y.2).obj
    have hx := hbo x.1 x.2
    have hy := hbo y.1 y.2
    exact elder_grow ⟨hk.cell c0 hx, hk.cell c1 hx, hk.cell c2 hx, hk.cell c3 hx, hk.cell d0 hy, hk.cell d1 hy, hk.cell d2 hy, hk.cell d3 hy⟩
  have hH : Go.Sort.Holds enc w blk 0 d := fun j hj => by
    have hjK : j < K.length := by rw [hdl, ← hK.length_eq] at hj; exact hj
    obtain ⟨h1, h2⟩ := hc j K[j] (List.getElem?_eq_getElem hjK)
    rw [Nat.zero_add]
    refine ⟨?_, h2⟩
    rw [h1]
    have e : d[j]! = ⟨K[j], hK.mem_iff.1 (List.getElem_mem hjK)⟩ := by
      rw [getElem!_pos d j hj]
      simp [d]
    rw [e]
  have hone : OneCell enc := fun x => rfl
  have hs := Any.slices_SortFunc_total Try.sortL enc hone cf swo 28 #[] blk 0 cap d w eg hcmp hH hb (by rw [hdl]; omega) hT
  rw [hdl] at hs
  refine hs.mono fun e w' hh => ?_
  obtain ⟨he, n, os, rfl⟩ := hh
  refine ⟨he, fun j o hj => ?_, kept_sort1 _ _ _ _ _ _ _⟩
  have hml : (d.toList.mergeSort fun x y => !(ltOf cf) y x).toArray.size = d.size := by simp [List.length_mergeSort]
  have hh := holds_sort1 enc n os hb hH hml
  have hjl := (List.getElem?_eq_some_iff.1 hj).1
  have h3 := (hh j (by rw [hml, hdl]; exact hjl)).1
  rw [Nat.zero_add] at h3
  rw [h3]
  have hR : ((d.toList.mergeSort fun x y => !(ltOf cf) y x).map (·.1)) = L := by
    have hpw : (d.toList.mergeSort fun x y => !(ltOf cf) y x).Pairwise (fun x y => !(ltOf cf) y x) := List.pairwise_mergeSort (le := fun x y => !(ltOf cf) y x)
      (fun x y z h1 h2 => by
        simp only [hlt, Bool.not_eq_true', decide_eq_false_iff_not] at h1 h2 ⊢
        exact ltO_ntrans h2 h1)
      (fun x y => by
        simp only [hlt, Bool.or_eq_true, Bool.not_eq_true', decide_eq_false_iff_not]
        by_cases h : ltO y.1.key x.1.key
        · exact .inr (fun h2 => ltO_irrefl _ (ltO_trans h h2))
        · exact .inl h) d.toList
    refine sorted_one (lt := fun x y : Ow => ltO x.key y.key) ?_ ?_ ?_ ?_
    · rw [List.pairwise_map]
      exact hpw.imp fun {x y} hxy => by simpa [hlt] using hxy
    · exact h.srt.imp fun {x y} hxy h2 => ltO_irrefl _ (ltO_trans hxy h2)
    · have h1 := (List.mergeSort_perm d.toList (fun x y => !(ltOf cf) y x)).map (·.1)
      have h2 : d.toList.map (·.1) = K := by simp [d]
      rw [h2] at h1
      exact h1.trans hK
    · intro x hx y hy h1 h2
      obtain ⟨x', _, rfl⟩ := List.mem_map.1 hx
      obtain ⟨y', _, rfl⟩ := List.mem_map.1 hy
      exact key_inj h x'.2 y'.2 (ltO_total h1 h2)
  have e4 : (d.toList.mergeSort fun x y => !(ltOf cf) y x)[j]?.map (·.1) = some o := by rw [← List.getElem?_map, hR]; exact hj
  obtain ⟨z, hz, hzo⟩ := Option.map_eq_some_iff.1 e4
  have e5 : (d.toList.mergeSort fun x y => !(ltOf cf) y x).toArray[j]! = z := by
    have hj2 := (List.getElem?_eq_some_iff.1 hz).1
    rw [getElem!_pos _ j (by simpa using hj2)]
    have := (List.getElem?_eq_some_iff.1 hz).2
    simpa using this
  rw [e5]
  show some (ptr (A z.1.tx).ob) = _
  rw [hzo]
end
end Go.Proofs.Ytpjhdpfaogdboaa
/- SortedFunc, all. -/
namespace Go.Proofs.Ytpjhdpfaogdboaa
set_option linter.unusedSimpArgs false
set_option linter.unusedVariables false
open Go.RowKit Go.Shelf
/-- where the owners lie -/
def obs (A : Tx → Ad) (L : List Ow) : List Nat := L.map fun o => (A o.tx).ob
section
variable {own : Nat → Option Tx} {B : Nat} {w : World} {tb mb : Nat} {L : List Ow} {A : Tx → Ad}
theorem vprs_oent (M : List Ow) : vprs (M.map fun o => (o.tx, (A o.tx).ob)) = M.map (oent A) := by
  unfold vprs oent
  rw [List.map_map]
  rfl
theorem own_at {w : World} {v : Value} {n : Nat} {xs : List Value} {lo : Nat} (h : w.ownsRow lo 65 1 v n xs) (hn : 0 < n) : ∃ g cap, v = .slice (some ⟨g, 0, none⟩) n cap ∧ lo ≤ g ∧ g < w.heap.size ∧ n ≤ cap ∧ cap ≤ maxLen ∧ xs.length = n ∧ ∀ j u, xs[j]? = some u → w.cell? ⟨g, j, none⟩ = some u ∧ w.frozen? ⟨g, j, none⟩ = false := by
  obtain ⟨hl, h | ⟨g, cap, cur, e, hlo, hb, hc, hm, hs, ht⟩⟩ := h
  · omega
  · refine ⟨g, cap, e, hlo, row_lt hb, hc, hm, by omega, fun j u hu => ⟨?_, row_free hb _⟩⟩
    rw [row_cell hb]
    rw [← ht, List.getElem?_take] at hu
    split at hu
    · simpa using hu
    · cases hu
theorem own_nil {w : World} {v : Value} {xs : List Value} {lo : Nat} (h : w.ownsRow lo 65 1 v 0 xs) : ∃ a c, v = .slice a 0 c ∧ c ≤ maxLen ∧ (a = none → c = 0) := by
  obtain ⟨hl, h | ⟨g, cap, cur, e, hlo, hb, hc, hm, hs, ht⟩⟩ := h
  · exact ⟨none, 0, h.1, Nat.zero_le _, fun _ => rfl⟩
  · exact ⟨_, cap, e, hm, fun h => by cases h⟩
set_option maxRecDepth 100000 in
set_option maxHeartbeats 1000000 in
theorem sortedO_any (hb : Tab own B w tb mb L A) {bm : Nat} (hc : w.cell? ⟨bm, 0, none⟩ = some (.map (some mb))) (hL : L.length ≤ 1000000) :
    Calls Try.prog 41 #[.func (.func 62) #[] #[.pointer (some ⟨bm, 0, none⟩)], .func (.func 28) #[] #[]] w fun e w' => ∃ a c, e = .returned (.slice a L.length c) ∧ Lies (fun g => g < w.heap.size) w' 1 (.slice a L.length c) L.length (ptrs (obs A L)) ∧ Kept (fun _ => False) w w' := by
  have HB := hid hb
  obtain ⟨M, hmt, hp⟩ := hb.map
  have hmo : MapOf w mb (vprs (M.map fun o => (o.tx, (A o.tx).ob))) := by
    have h := hmt.mapOf
    rw [List.map_map] at h
    rw [vprs_oent]
    exact h
  have hcv := collectV hc hmo (by rw [List.length_map, hp.length_eq]; exact hL)
  have HCV := hid hcv; have HP := hid hp; have HLN := hid hL
  have HPL := hid hp.length_eq
  clear hb hc hmt hmo hcv hp hL
  go_enter Try.func41, Try.ntmps41
  go_wp2_with fail
  refine (HCV.out).mono ?_
  rintro e w1 ⟨v, ss, rfl, hss, hrow, hbe⟩
  rw [List.map_map] at hss
  obtain ⟨K, hK, hKs⟩ := perm_map_inv (fun o : Ow => (A o.tx).ob) ss L (hss.trans (HP.out.map _))
  have K1 := hid (Kept.of_below hbe (fun _ => False))
  have HK := hid hK
  have hsl : ss.length = L.length := by rw [← hKs, List.length_map, hK.length_eq]
  rw [hsl] at hrow
  have HT1 := hid (HB.out.same K1.out)
  rcases Nat.eq_zero_or_pos L.length with h0 | hpos
  · rw [h0] at hrow
    obtain ⟨a, c, rfl, hcm, hca⟩ := own_nil hrow
    have HCM := hid hcm; have HCA := hid hca
    have HL0 := hid (List.eq_nil_of_length_eq_zero h0)
    clear hrow hss hK hKs hbe hsl h0 hcm hca
    go_wp2_with fail
    refine (AnyF.slices_SortFunc_none (P := Try.prog) (ρ := Try.sortL_ren) { Try.sortL with } a c (.func (.func 28) #[] #[]) w1).mono ?_
    rintro e w2 ⟨rfl, rfl⟩
    go_wp2
    go_ret
    have e0 := HL0.out
    subst e0
    refine ⟨a, c, rfl, ?_, K1.out⟩
    exact ⟨a, c, rfl, Nat.zero_le _, HCM.out, rfl, fun e => ⟨rfl, HCA.out e⟩, fun h => absurd h (Nat.lt_irrefl _), fun u hu => by simp [ptrs, obs] at hu⟩
  · obtain ⟨g, cap, rfl, hlo, hgl, hcc, hcm, hxl, hcells⟩ := own_at hrow hpos
    have HLO := hid hlo; have HGL := hid hgl; have HCC := hid hcc; have HCM := hid hcm
    have hrows : ∀ (j : Nat) (o : Ow), K[j]? = some o → w1.cell? ⟨g, j, none⟩ = some (ptr (A o.tx).ob) ∧ w1.frozen? ⟨g, j, none⟩ = false := fun j o hj => by
      refine hcells j _ ?_
      rw [← hKs, List.map_map, List.getElem?_map, hj]
      rfl
    have hne : ∀ o ∈ L, (A o.tx).ob ≠ g := fun o ho e => by
      have := row_lt (HB.out.ows o ho).obj
      omega
    have hso := sortO_any (cap := cap) HT1.out hK hgl hne HLN.out hrows hpos
    have HSO := hid hso
    have hposI : 0 < (L.length : Int) := by omega
    clear hrow hss hK hKs hbe hsl hlo hgl hcc hcm hxl hcells hrows hne hso
    go_wp2_with fail
    refine (HSO.out).mono ?_
    rintro e w2 ⟨rfl, hcl, hk2⟩
    have HCL := hid hcl; have K2 := hid hk2
    clear hcl hk2
    go_wp2
    go_ret
    refine ⟨_, cap, rfl, ⟨_, cap, rfl, HCC.out, HCM.out, by simp [ptrs, obs], (fun e => nomatch e), fun _ => ⟨g, 0, rfl, fun h => by have := HLO.out; omega, Nat.lt_of_lt_of_le HGL.out K2.out.size, fun j u hu => ?_⟩, fun u hu => ?_⟩, K1.out.trans' K2.out (fun i e => .inr (by rw [e]; exact HLO.out))⟩
    · simp only [ptrs, obs, List.map_map, List.getElem?_map, Option.map_eq_some_iff] at hu
      obtain ⟨o, ho, rfl⟩ := hu
      rw [Nat.zero_add]
      exact HCL.out j o ho
    · simp only [ptrs, obs, List.map_map, List.mem_map] at hu
      obtain ⟨o, _, rfl⟩ := hu
      rfl
set_option maxRecDepth 100000 in
set_option maxHeartbeats 1000000 in
theorem all_any (hb : Tab own B w tb mb L A) (hL : L.length ≤ 1000000) :
    Calls Try.prog 27 #[.pointer (some ⟨tb, 0, none⟩)] w fun e w' => ∃ a c, e = .returned (.slice a L.length c) ∧ Lies (fun g => g < w.heap.size) w' 1 (.slice a L.length c) L.length (ptrs (obs A L)) ∧ Kept (fun _ => False) w w' := by
  have HB := hid hb; have HL := hid hL
  have c0 := hb.cell
  clear hb hL
  have hv : ∀ w, Calls Try.prog 42 #[.map (some mb)] w fun e w' => e = .returned (.func (.func 62) #[] #[.pointer (some ⟨w.heap.size, 0, none⟩)]) ∧ w' = w.alloc (.cells #[.map (some mb)] 61) := vals_any (some mb)
  have HV := hid hv
  clear hv
  go_enter Try.func27, Try.ntmps27
  go_wp2_with fail
  refine (HV.out w).mono ?_
  rintro e w1 ⟨rfl, hw1⟩
  have k1 : Kept (fun _ => False) w w1 := by rw [hw1]; exact (Kept.refl _ _).alloc _
  have b0 : w1.cell? ⟨w.heap.size, 0, none⟩ = some (.map (some mb)) := by rw [hw1]; exact box_new w _ _
  have HS := hid (sortedO_any (HB.out.same k1) b0 HL.out)
  have K1 := hid k1
  clear hw1 k1 b0 c0
  go_wp2_with fail
  refine (HS.out).mono ?_
  rintro e w2 ⟨a, c, rfl, hl, hk2⟩
  have HLI := hid hl; have K2 := hid hk2
  clear hl hk2
  go_wp2
  go_ret
  exact ⟨a, c, rfl, HLI.out.mono (fun g _ hg => by have := K1.out.size; (show g < w1.heap.size); omega), K1.out.trans K2.out⟩
end
end Go.Proofs.Ytpjhdpfaogdboaa
/- Plain: who is granted (settle). -/
namespace Go.Proofs.Ytpjhdpfaogdboaa
set_option linter.unusedSimpArgs false
set_option linter.unusedVariables false
open Go.RowKit
/-! ### plain -/
def goS (L : List Ow) (i : Nat) (o : Ow) : Bool := decide (0 < o.ws.length) && (!(L.any fun x => decide (x.tx ≠ o.tx) && clash x.lk o.ws) && !((L.take i).any fun x => clash x.ws o.ws))
def grant (o : Ow) : Ow := { o with lk := o.ws.foldl addW o.lk, ws := [] }
def stepS (S : List Ow × List Tx) (k : Nat) : List Ow × List Tx := match S.1[k]? with
  | some o => if goS S.1 k o then (S.1.set k (grant o), S.2 ++ [o.tx]) else S
  | none => S
def setK (L : List Ow) : Nat → List Ow × List Tx
  | 0 => (L, [])
  | k + 1 => stepS (setK L k) k
theorem grant_lk (ws : List Wt) : ∀ l : List Wt, Ris l → Fm l → Fm ws → Ris (ws.foldl addW l) ∧ Fm (ws.foldl addW l) := by
  induction ws with
  | nil => exact fun l h1 h2 _ => ⟨h1, h2⟩
  | cons x ws ih => exact fun l h1 h2 h3 => ih _ (addW_ris x l h1) (addW_fm x l h2 (h3 x List.mem_cons_self)) (fun y hy => h3 y (List.mem_cons_of_mem _ hy))
theorem grant_ok {o : Ow} (h : OkO o) : OkO (grant o) := ⟨(grant_lk _ _ h.r h.f h.g).1, (grant_lk _ _ h.r h.f h.g).2, (fun x hx => nomatch hx), List.nodup_nil⟩
theorem stepS_len (S : List Ow × List Tx) (k : Nat) : (stepS S k).1.length = S.1.length := by
  unfold stepS
  split
  · split
    · simp
    · rfl
  · rfl
theorem setK_len (L : List Ow) : ∀ k, (setK L k).1.length = L.length
  | 0 => rfl
  | k + 1 => (stepS_len _ _).trans (setK_len L k)
theorem stepS_txs (S : List Ow × List Tx) (k : Nat) : (stepS S k).1.map (·.key) = S.1.map (·.key) := by
  unfold stepS
  split
  · rename_i o ho
    split
    · rw [List.map_set]
      apply List.ext_getElem?
      intro j
      rw [List.getElem?_set]
      split
      · rename_i e; subst e
        have hk := (List.getElem?_eq_some_iff.1 ho).1
        simp [hk, (List.getElem?_eq_some_iff.1 ho).2, grant, Ow.key]
      · rfl
    · rfl
  · rfl
theorem setK_txs (L : List Ow) : ∀ k, (setK L k).1.map (·.key) = L.map (·.key)
  | 0 => rfl
  | k + 1 => (stepS_txs _ _).trans (setK_txs L k)
def settled (L : List Ow) : List Ow × List Tx := setK L L.length
/-! ### what the program's loop keeps -/
theorem stepS_cnt (S : List Ow × List Tx) (k : Nat) : (stepS S k).2.length ≤ S.2.length + 1 := by
  unfold stepS
  split
  · split
    · simp
    · omega
  · omega
theorem setK_cnt (L : List Ow) : ∀ k, (setK L k).2.length ≤ k
  | 0 => Nat.le_refl _
  | k + 1 => by
    have h1 := stepS_cnt (setK L k) k
    have h2 := setK_cnt L k
    show (stepS (setK L k) k).2.length ≤ k + 1
    omega
end Go.Proofs.Ytpjhdpfaogdboaa
