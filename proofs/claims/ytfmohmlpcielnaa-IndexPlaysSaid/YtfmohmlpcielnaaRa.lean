/- The document's index: a list. -/
import Derived.Test.YtfmohmlpcielnaaW
namespace Go.Proofs.Ytfmohmlpcielnaa
open Go.RowKit
theorem infoR : (Try.prog.info? 55).map (fun i => (i.zero, i.size, i.bytes)) = some (some (.agg #[.int .u64 0, .int .u64 0]), 2, 16) := by kernel_rfl
/-- the document's list, at yb -/
structure RIn (F : Nat → Prop) (w : World) (yb : Nat) (v : Value) (M : List It) : Prop where
  r : w.heap[yb]? = some (.cells #[v] 41 (0, 0))
  s : Seg w 55 2 v M.length (icells M)
  m : F yb
  f : ∀ g, v.ownBlock = some g → F g
theorem RIn.kept {F G : Nat → Prop} {w w' : World} {yb : Nat} {v : Value} {M : List It} (h : RIn F w yb v M) (k : Kept G w w') (hg : ∀ g, g < w.heap.size → F g → ¬ G g) : RIn F w' yb v M :=
  ⟨(k.block _ (row_lt h.r) (hg _ (row_lt h.r) h.m)).trans h.r, h.s.kept k (fun g q => hg g (h.s.lt q) (h.f g q)), h.m, h.f⟩
theorem RIn.same {F : Nat → Prop} {w w' : World} {yb : Nat} {v : Value} {M : List It} (h : RIn F w yb v M) (k : Kept (fun _ => False) w w') : RIn F w' yb v M := h.kept k (fun _ _ _ h => h)
theorem RIn.mono {F G : Nat → Prop} {w : World} {yb : Nat} {v : Value} {M : List It} (h : RIn F w yb v M) (hg : ∀ g, F g → G g) : RIn G w yb v M := ⟨h.r, h.s, hg _ h.m, fun g q => hg _ (h.f g q)⟩
theorem RIn.bound {F : Nat → Prop} {w : World} {yb : Nat} {v : Value} {M : List It} (h : RIn F w yb v M) : RIn (fun g => F g ∧ g < w.heap.size) w yb v M := ⟨h.r, h.s, ⟨h.m, row_lt h.r⟩, fun g q => ⟨h.f g q, h.s.lt q⟩⟩
theorem getI_at {M : List It} {k : Int} {n : Nat} {x : It} (h : ∀ y ∈ M.take n, y.1 ≠ k) (hx : M[n]? = some x) (e : x.1 = k) : getI M k = some x.2 := by
  unfold getI
  conv => lhs; rw [split_at hx]
  rw [find_ahead (fun y hy => by have := h y hy; simpa using this)]
  simp [e]
theorem take_add {M : List It} {n : Nat} {x : It} (hx : M[n]? = some x) : M.take (n + 1) = M.take n ++ [x] := by
  obtain ⟨hl, e⟩ := List.getElem?_eq_some_iff.1 hx
  rw [← e, List.take_succ_eq_append_getElem hl]
set_option maxRecDepth 100000 in
set_option maxHeartbeats 1000000 in
theorem rget_any {F : Nat → Prop} {w : World} {yb : Nat} {v : Value} {M : List It} (h : RIn F w yb v M) (hM : M.length ≤ 1000000) (k : Int) :
    Calls Try.prog 20 #[.pointer (some ⟨yb, 0, none⟩), .int .u64 k] w fun e w' => e = .returned (.tuple #[.int .u64 ((getI M k).getD 0), .bool (getI M k).isSome]) ∧ Kept (fun _ => False) w w' := by
  have hl0 : M.length ≤ 1000000 := hM
  obtain ⟨ao, cap, rfl⟩ := h.s.isSlice
  have c0 : w.cell? ⟨yb, 0, none⟩ = some (.slice ao M.length cap) := row_cell h.r 0
  have hcap := h.s.caps
  unfold maxLen at hcap
  have H := hid h
  clear h
  go_enter Try.func20, Try.ntmps20
  go_wp2_with fail
  go_loopw [6] (fun i wr => ∃ n : Nat, n ≤ M.length ∧ i = .int .i64 n ∧ (∀ x ∈ M.take n, x.1 ≠ k) ∧ Kept (fun _ => False) w wr) (fun i _ => M.length - (intOf i).toNat)
  case atStart => exact ⟨0, Nat.zero_le _, rfl, by simp, Kept.refl _ _⟩
  case round =>
    rename World => wr
    obtain ⟨n, hn, rfl, hall, hk⟩ := hrel
    have HA := hid hall; have HK := hid hk
    replace c0 := hk.cell c0 (fun h => h)
    clear hall hk
    by_cases hlt : n < M.length
    · have hltI : (n : Int) < (M.length : Int) := by omega
      obtain ⟨⟨key, val⟩, hx⟩ : ∃ x, M[n]? = some x := ⟨_, List.getElem?_eq_getElem hlt⟩
      obtain ⟨g, cp, e, q1, q2⟩ := H.out.s.some_of_pos (by omega)
      simp only [Value.slice.injEq] at e
      obtain ⟨rfl, _, rfl⟩ := e
      obtain ⟨x0, x1⟩ := icells_at M _ _ hx
      obtain ⟨i0, j0⟩ := List.getElem?_eq_some_iff.1 x0
      obtain ⟨i1, j1⟩ := List.getElem?_eq_some_iff.1 x1
      have y0 := HK.out.cell ((H.out.s.cells rfl _ i0).trans (by rw [j0])) (fun h => h)
      have y1 := HK.out.cell ((H.out.s.cells rfl _ i1).trans (by rw [j1])) (fun h => h)
      have HX := hid hx
      clear x0 x1 i0 i1 j0 j1 hx q2
      by_cases hkk : key = k
      · subst hkk
        have hb : (key == key) = true := by simp
        go_wp2
        go_returns
        exact ⟨by rw [getI_at HA.out HX.out rfl]; rfl, HK.out⟩
      · have hb : (key == k) = false := by simpa using hkk
        go_wp2
        go_roundw
        case rel =>
          refine ⟨n + 1, by omega, by go_num, fun y hy => ?_, HK.out⟩
          rw [take_add HX.out] at hy
          rcases List.mem_append.1 hy with hy | hy
          · exact HA.out y hy
          · rw [List.mem_singleton] at hy; subst hy; exact hkk
        case measure => simp [intOf]; omega
    · obtain rfl : n = M.length := by omega
      go_wp2
      go_returns
      exact ⟨by rw [getI_none (M := M) (k := k) (by have := HA.out; rwa [List.take_length] at this)]; rfl, HK.out⟩
/-- what lay has made of the first n -/
def LayS (there : Bool) (M : List It) (k v : Int) (n : Nat) (acc : List It) (d : Bool) : Prop :=
  match there, d with
  | false, true => acc = dropL (M.take n) k
  | false, false => False
  | true, false => acc = dropL (M.take n) k ∧ ∀ x ∈ M.take n, x.1 ≤ k
  | true, true => acc = layL (M.take n) k v ∧ ∃ x ∈ M.take n, k < x.1
theorem dropL_add {A : List It} {x : It} {k : Int} : dropL (A ++ [x]) k = dropL A k ++ (if x.1 = k then [] else [x]) := by
  unfold dropL
  rw [List.filter_append]
  by_cases h : x.1 = k
  · rw [if_pos h]; simp [h]
  · rw [if_neg h]; simp [h]
theorem layL_add {A : List It} {x : It} {k v : Int} (h : k < x.1) : layL (A ++ [x]) k v = layL A k v ++ [x] := by
  unfold layL
  have : ¬ x.1 < k := by omega
  simp [List.filter_append, h, this]
theorem layL_low {A : List It} {k v : Int} (h : ∀ x ∈ A, x.1 ≤ k) : layL A k v = dropL A k ++ [(k, v)] := by
  unfold layL dropL
  congr 1
  · refine List.filter_congr fun x hx => ?_
    have := h x hx
    simp only [decide_eq_decide]
    omega
  · rw [filter_none (fun x hx => by have := h x hx; simp; omega)]
theorem LayS.done_step {there : Bool} {M : List It} {k v : Int} {n : Nat} {acc : List It} {x : It} (hu : Up M) (hx : M[n]? = some x) (h : LayS there M k v n acc true) : LayS there M k v (n + 1) (if x.1 = k then acc else acc ++ [x]) true := by
  have ht := take_add hx
  cases there with
  | false =>
    simp only [LayS] at h ⊢
    rw [ht, dropL_add, h]
    split <;> simp
  | true =>
    obtain ⟨h1, y, hy, hky⟩ := h
    have hyx : y.1 < x.1 := by
      obtain ⟨p, hp, hpl⟩ := take_mem hy
      obtain ⟨q1, e1⟩ := List.getElem?_eq_some_iff.1 hpl
      obtain ⟨q2, e2⟩ := List.getElem?_eq_some_iff.1 hx
      have := List.pairwise_iff_getElem.1 hu p n q1 q2 hp
      rw [e1, e2] at this; exact this
    rw [if_neg (by omega)]
    simp only [LayS]
    rw [ht]
    exact ⟨by rw [layL_add (by omega), h1], y, by simp [hy], hky⟩
theorem LayS.lay_step {there : Bool} {M : List It} {k v : Int} {n : Nat} {acc : List It} {x : It} (hx : M[n]? = some x) (h : LayS there M k v n acc false) (hk : k < x.1) : LayS there M k v (n + 1) (acc ++ [(k, v)] ++ [x]) true := by
  have ht := take_add hx
  cases there with
  | false => exact h.elim
  | true =>
    obtain ⟨h1, h2⟩ := h
    simp only [LayS]
    rw [ht]
    exact ⟨by rw [layL_add hk, layL_low h2, h1], x, by simp, hk⟩
theorem LayS.low_step {there : Bool} {M : List It} {k v : Int} {n : Nat} {acc : List It} {x : It} (hx : M[n]? = some x) (h : LayS there M k v n acc false) (hk : ¬ k < x.1) : LayS there M k v (n + 1) (if x.1 = k then acc else acc ++ [x]) false := by
  have ht := take_add hx
  cases there with
  | false => exact h.elim
  | true =>
    obtain ⟨h1, h2⟩ := h
    simp only [LayS]
    rw [ht, dropL_add, h1]
    refine ⟨by split <;> simp, fun y hy => ?_⟩
    rcases List.mem_append.1 hy with hy | hy
    · exact h2 y hy
    · rw [List.mem_singleton] at hy; subst hy; omega
theorem LayS.fin {there : Bool} {M : List It} {k v : Int} {acc : List It} {d : Bool} (h : LayS there M k v M.length acc d) : (if d then acc else acc ++ [(k, v)]) = if there then layL M k v else dropL M k := by
  cases there <;> cases d <;> simp only [LayS, List.take_length] at h
  · simp [h]
  · obtain ⟨h1, h2⟩ := h
    simp [layL_low h2, h1]
  · simp [h.1]
theorem LayS.start (there : Bool) (M : List It) (k v : Int) : LayS there M k v 0 [] (!there) := by
  cases there <;> simp [LayS, dropL]
theorem LayS.len {there : Bool} {M : List It} {k v : Int} {n : Nat} {acc : List It} {d : Bool} (h : LayS there M k v n acc d) : acc.length ≤ M.length + 1 := by
  have hd : (dropL (M.take n) k).length ≤ M.length := Nat.le_trans (dropL_le _ _) (by simp; omega)
  cases there <;> cases d <;> simp only [LayS] at h
  · rw [h]; omega
  · rw [h.1]; omega
  · rw [h.1]
    have := layL_le (M.take n) k v
    have : (M.take n).length ≤ M.length := by simp; omega
    omega
end Go.Proofs.Ytfmohmlpcielnaa
