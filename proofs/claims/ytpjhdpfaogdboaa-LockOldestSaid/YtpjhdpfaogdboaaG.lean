/- all: the owners, the oldest first. -/
import Derived.Test.YtpjhdpfaogdboaaI
import Derived.Test.YtpjhdpfaogdboaaLy
namespace Go.Proofs.Ytpjhdpfaogdboaa
set_option linter.unusedSimpArgs false
set_option linter.unusedVariables false
open Go.RowKit Go.Shelf
/-! ### plain: a sorted list is one -/
theorem sorted_one {α : Type} {lt : α → α → Prop} : ∀ {a b : List α}, a.Pairwise (fun x y => ¬ lt y x) → b.Pairwise (fun x y => ¬ lt y x) → a.Perm b → (∀ x ∈ a, ∀ y ∈ a, ¬ lt x y → ¬ lt y x → x = y) → a = b
  | [], b, _, _, h, _ => by simpa using h.symm
  | x :: a, [], _, _, h, _ => by simp at h
  | x :: a, y :: b, h1, h2, h, ht => by
    rw [List.pairwise_cons] at h1 h2
    have hxy : x = y := by
      have hx : x ∈ y :: b := h.mem_iff.1 (by simp)
      have hy : y ∈ x :: a := h.mem_iff.2 (by simp)
      rcases List.mem_cons.1 hx with e | hx
      · exact e
      · rcases List.mem_cons.1 hy with e | hy
        · exact e.symm
        · exact ht x List.mem_cons_self y (List.mem_cons_of_mem _ hy) (h2.1 x hx) (h1.1 y hy)
    subst hxy
    rw [sorted_one h1.2 h2.2 (List.perm_cons x |>.1 h) (fun u hu v hv => ht u (List.mem_cons_of_mem _ hu) v (List.mem_cons_of_mem _ hv))]
theorem perm_map_inv {α β : Type} (f : α → β) : ∀ (ss : List β) (L : List α), ss.Perm (L.map f) → ∃ K : List α, K.Perm L ∧ K.map f = ss
  | [], L, h => by
    have : L = [] := by simpa using h.symm
    subst this
    exact ⟨[], List.Perm.refl _, rfl⟩
  | s :: ss, L, h => by
    have hs : s ∈ L.map f := h.mem_iff.1 List.mem_cons_self
    obtain ⟨o, ho, rfl⟩ := List.mem_map.1 hs
    obtain ⟨l1, l2, rfl⟩ := List.append_of_mem ho
    have h2 : ss.Perm ((l1 ++ l2).map f) := by
      have : (f o :: ss).Perm (f o :: (l1 ++ l2).map f) := h.trans ((List.perm_middle (a := o) (l₁ := l1) (l₂ := l2)).map f)
      exact (List.perm_cons _).1 this
    obtain ⟨K, hK, e⟩ := perm_map_inv f ss (l1 ++ l2) h2
    exact ⟨o :: K, (hK.cons o).trans (List.perm_middle (a := o)).symm, by rw [List.map_cons, e]⟩
theorem ltOf_ordO (x y : Int × Tx) : ltOf ordO x y = decide (ltO x y) := by
  unfold ltOf
  by_cases h : ltO x y
  · have := ordO_neg.2 h; simp [h, this]
  · have : ¬ ordO x y < 0 := fun h1 => h (ordO_neg.1 h1)
    simp [h]; omega
/-! ### the sort's worlds -/
theorem kept_sort1 {α : Type} [Inhabited α] (enc : α → Value) (w : World) (blk off n : Nat) (d : Array α) (os : Array Obj) : Kept (fun i => i = blk) w (sortWorld enc w blk off n d os) := by
  refine ⟨rfl, rfl, rfl, ?_, fun i hi hn => ?_⟩
  · simp [sortWorld, Go.Sort.grow, Go.Sort.putRow, Go.Sort.ahead, Go.Sort.mapBlock]
  · simp only [sortWorld, Go.Sort.grow, Go.Sort.putRow, Go.Sort.ahead, Go.Sort.mapBlock]
    rw [Array.getElem?_append_left (by simpa using hi), Array.getElem?_modify]
    simp [Ne.symm hn]
theorem holds_sort1 {α : Type} [Inhabited α] (enc : α → Value) {w : World} {blk off : Nat} {d0 d : Array α} (n : Nat) (os : Array Obj) (hb : blk < w.heap.size) (h : Go.Sort.Holds enc w blk off d0) (hs : d.size = d0.size) : Go.Sort.Holds enc (sortWorld enc w blk off n d os) blk off d := by
  refine Go.Sort.holds_grow enc _ os blk off d ?_ (Go.Sort.holds_putRow enc _ blk off d0 d (Go.Sort.holds_ahead enc w n blk off d0 h) hs)
  simpa [Go.Sort.putRow, Go.Sort.ahead, Go.Sort.mapBlock] using hb
/-! ### SortFunc at the owners of a table -/
abbrev In (L : List Ow) := { o : Ow // o ∈ L }
section
variable {own : Nat → Option Tx} {B : Nat} {w : World} {tb mb : Nat} {L : List Ow} {A : Tx → Ad}
theorem Tab.elder (h : Tab own B w tb mb L A) {x y : Ow} (hx : x ∈ L) (hy : y ∈ L) :
    Calls Try.prog 28 #[ptr (A x.tx).ob, ptr (A y.tx).ob] w fun e w' => e = .returned (.int .i64 (ordO x.key y.key)) ∧ ∃ q os', w' = Go.Sort.grow (w.drewN q) os' := by
  obtain ⟨c0, c1, c2, c3, _, _, _⟩ := cells7 (h.ows x hx).obj
  obtain ⟨d0, d1, d2, d3, _, _, _⟩ := cells7 (h.ows y hy).obj
  exact elder_grow ⟨c0, c1, c2, c3, d0, d1, d2, d3⟩
theorem key_inj (h : Tab own B w tb mb L A) {x y : Ow} (hx : x ∈ L) (hy : y ∈ L) (e : x.key = y.key) : x = y := by
  have h1 := findO_of h.nodup hx
  have h2 := findO_of h.nodup hy
  have e2 : x.tx = y.tx := congrArg Prod.snd e
  rw [e2, h2] at h1
  exact (Option.some.inj h1).symm
set_option maxHeartbeats 1000000 in
theorem sortO_any (h : Tab own B w tb mb L A) {blk cap : Nat} {K : List Ow} (hK : K.Perm L) (hb : blk < w.heap.size) (hbo : ∀ o ∈ L, (A o.tx).ob ≠ blk) (hsz : L.length ≤ 1000000)
    (hc : ∀ (j : Nat) (o : Ow), K[j]? = some o → w.cell? ⟨blk, j, none⟩ = some (ptr (A o.tx).ob) ∧ w.frozen? ⟨blk, j, none⟩ = false) (hpos : 0 < L.length) :
    Calls Try.prog 61 #[.slice (some ⟨blk, 0, none⟩) L.length cap, .func (.func 28) #[] #[]] w fun e w' => e = .returned (.tuple #[]) ∧ (∀ (j : Nat) (o : Ow), L[j]? = some o → w'.cell? ⟨blk, j, none⟩ = some (ptr (A o.tx).ob)) ∧ Kept (fun g => g = blk) w w' := by
  have i0 : Inhabited (In L) := ⟨⟨L[0], List.getElem_mem hpos⟩⟩
  let enc : In L → Value := fun o => ptr (A o.1.tx).ob
  let cf : In L → In L → Int := fun x y => ordO x.1.key y.1.key
  let d : Array (In L) := (K.attachWith (· ∈ L) (fun x hx => hK.mem_iff.1 hx)).toArray
  have hdl : d.size = L.length := by simp [d, hK.length_eq]
  have hlt : ∀ x y : In L, ltOf cf x y = decide (ltO x.1.key y.1.key) := fun x y => ltOf_ordO x.1.key y.1.key
  have swo : Go.Sort.SWO (ltOf cf) := {
    irrefl := fun x => by rw [hlt]; simpa using ltO_irrefl _
    trans := fun x y z h1 h2 => by rw [hlt, decide_eq_true_eq] at *; exact ltO_trans h1 h2
    ntrans := fun x y z h1 h2 => by rw [hlt, decide_eq_false_iff_not] at *; exact ltO_ntrans h1 h2 }
  have hT : ∀ x y : In L, ltOf cf x y = false → ltOf cf y x = false → x = y := fun x y h1 h2 => by
    rw [hlt, decide_eq_false_iff_not] at h1 h2
    exact Subtype.ext (key_inj h x.2 y.2 (ltO_total h1 h2))
  have eg : ∀ args w, (callFunc 28 args).run Try.prog w = .ok (.enter 28 args) w := enters_of Try.func28 (by kernel_rfl) rfl
  have hcmp : CmpLays1 Try.prog 28 #[] enc cf blk 0 d.size w := fun m os dk _ x y => by
    have hk := kept_sort1 enc w blk 0 m dk os
    obtain ⟨c0, c1, c2, c3, _, _, _⟩ := cells7 (h.ows x.1 x.2).obj
    obtain ⟨d0, d1, d2, d3, _, _, _⟩ := cells7 (h.ows y.1 y.2).obj
    have hx := hbo x.1 x.2
    have hy := hbo y.1 y.2
    exact elder_grow ⟨hk.cell c0 hx, hk.cell c1 hx, hk.cell c2 hx, hk.cell c3 hx, hk.cell d0 hy, hk.cell d1 hy, hk.cell d2 hy, hk.cell d3 hy⟩
  have hH : Go.Sort.Holds enc w blk 0 d := fun j hj => by
    have hjK : j < K.length := by rw [hdl, ← hK.length_eq] at hj; exact hj
    obtain ⟨h1, h2⟩ := hc j K[j] (List.getElem?_eq_getElem hjK)
    rw [Nat.zero_add]
    refine ⟨?_, h2⟩
    rw [h1]
    have e : d[j]! = ⟨K[j], hK.mem_iff.1 (List.getElem_mem hjK)⟩ := by
      rw [getElem!_pos d j hj]
      simp [d]
    rw [e]
  have hone : OneCell enc := fun x => rfl
  have hs := Any.slices_SortFunc_total Try.sortL enc hone cf swo 28 #[] blk 0 cap d w eg hcmp hH hb (by rw [hdl]; omega) hT
  rw [hdl] at hs
  refine hs.mono fun e w' hh => ?_
  obtain ⟨he, n, os, rfl⟩ := hh
  refine ⟨he, fun j o hj => ?_, kept_sort1 _ _ _ _ _ _ _⟩
  have hml : (d.toList.mergeSort fun x y => !(ltOf cf) y x).toArray.size = d.size := by simp [List.length_mergeSort]
  have hh := holds_sort1 enc n os hb hH hml
  have hjl := (List.getElem?_eq_some_iff.1 hj).1
  have h3 := (hh j (by rw [hml, hdl]; exact hjl)).1
  rw [Nat.zero_add] at h3
  rw [h3]
  have hR : ((d.toList.mergeSort fun x y => !(ltOf cf) y x).map (·.1)) = L := by
    have hpw : (d.toList.mergeSort fun x y => !(ltOf cf) y x).Pairwise (fun x y => !(ltOf cf) y x) := List.pairwise_mergeSort (le := fun x y => !(ltOf cf) y x)
      (fun x y z h1 h2 => by
        simp only [hlt, Bool.not_eq_true', decide_eq_false_iff_not] at h1 h2 ⊢
        exact ltO_ntrans h2 h1)
      (fun x y => by
        simp only [hlt, Bool.or_eq_true, Bool.not_eq_true', decide_eq_false_iff_not]
        by_cases h : ltO y.1.key x.1.key
        · exact .inr (fun h2 => ltO_irrefl _ (ltO_trans h h2))
        · exact .inl h) d.toList
    refine sorted_one (lt := fun x y : Ow => ltO x.key y.key) ?_ ?_ ?_ ?_
    · rw [List.pairwise_map]
      exact hpw.imp fun {x y} hxy => by simpa [hlt] using hxy
    · exact h.srt.imp fun {x y} hxy h2 => ltO_irrefl _ (ltO_trans hxy h2)
    · have h1 := (List.mergeSort_perm d.toList (fun x y => !(ltOf cf) y x)).map (·.1)
      have h2 : d.toList.map (·.1) = K := by simp [d]
      rw [h2] at h1
      exact h1.trans hK
    · intro x hx y hy h1 h2
      obtain ⟨x', _, rfl⟩ := List.mem_map.1 hx
      obtain ⟨y', _, rfl⟩ := List.mem_map.1 hy
      exact key_inj h x'.2 y'.2 (ltO_total h1 h2)
  have e4 : (d.toList.mergeSort fun x y => !(ltOf cf) y x)[j]?.map (·.1) = some o := by rw [← List.getElem?_map, hR]; exact hj
  obtain ⟨z, hz, hzo⟩ := Option.map_eq_some_iff.1 e4
  have e5 : (d.toList.mergeSort fun x y => !(ltOf cf) y x).toArray[j]! = z := by
    have hj2 := (List.getElem?_eq_some_iff.1 hz).1
    rw [getElem!_pos _ j (by simpa using hj2)]
    have := (List.getElem?_eq_some_iff.1 hz).2
    simpa using this
  rw [e5]
  show some (ptr (A z.1.tx).ob) = _
  rw [hzo]
end
end Go.Proofs.Ytpjhdpfaogdboaa
