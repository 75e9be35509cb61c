/- Rows of values, as functions; the order of an insertion, plain. -/
import Derived.Test.YtnicaiofjficnaaDoorJ
import Derived.Test.YtnicaiofjficnaaDoorArg
namespace Go.Proofs.YtnicaiofjficnaaDoor
open Go.RowKit
def arr (f : Nat → Vv) (m : Nat) : List Vv := (List.range m).map f
theorem arr_len (f : Nat → Vv) (m : Nat) : (arr f m).length = m := by simp [arr]
theorem arr_at {f : Nat → Vv} {m p : Nat} (hp : p < m) : (arr f m)[p]? = some (f p) := by simp [arr, hp]
theorem arr_of (L : List Vv) : ∃ f, L = arr f L.length ∧ ∀ p, p < L.length → f p ∈ L := by
  refine ⟨fun p => L.getD p (0, 0, ByteArray.empty), ?_, fun p hp => ?_⟩
  · apply List.ext_getElem?
    intro i
    by_cases hi : i < L.length
    · rw [arr_at hi]; simp [hi]
    · rw [List.getElem?_eq_none (by omega), List.getElem?_eq_none (by rw [arr_len]; omega)]
  · simp [hp]
theorem encV_flat : ∀ (L : List Vv) (i : Nat) (x : Vv), L[i]? = some x → ∀ r, r < 3 → (L.flatMap encV)[i * 3 + r]? = (encV x)[r]?
  | [], i, x, h, _, _ => by simp at h
  | y :: L, 0, x, h, r, hr => by
    simp at h; subst h
    rw [List.flatMap_cons, Nat.zero_mul, Nat.zero_add, List.getElem?_append_left (by simpa [encV] using hr)]
  | y :: L, i + 1, x, h, r, hr => by
    have ih := encV_flat L i x (by simpa using h) r hr
    have e : (i + 1) * 3 + r = (encV y).length + (i * 3 + r) := by simp [encV]; omega
    rw [List.flatMap_cons, e, List.getElem?_append_right (by omega), Nat.add_sub_cancel_left]
    exact ih
theorem encV_set : ∀ (L : List Vv) (i : Nat) (x : Vv), i < L.length → ((((L.flatMap encV).set (i * 3) (.int .u8 x.1)).set (i * 3 + 1) (.int .i64 x.2.1)).set (i * 3 + 2) (.string x.2.2)) = (L.set i x).flatMap encV
  | [], i, x, h => by simp at h
  | y :: L, 0, x, h => by simp [encV]
  | y :: L, i + 1, x, h => by
    have ih := encV_set L i x (by simpa using h)
    have e0 : (i + 1) * 3 = (encV y).length + i * 3 := by simp [encV]; omega
    have e1 : (i + 1) * 3 + 1 = (encV y).length + (i * 3 + 1) := by simp [encV]; omega
    have e2 : (i + 1) * 3 + 2 = (encV y).length + (i * 3 + 2) := by simp [encV]; omega
    rw [List.flatMap_cons, e0, Nat.add_assoc, Nat.add_assoc, List.set_append_right _ _ (by omega), List.set_append_right _ _ (by omega), List.set_append_right _ _ (by omega), Nat.add_sub_cancel_left, Nat.add_sub_cancel_left, Nat.add_sub_cancel_left, ih]
    simp
def sw (f : Nat → Vv) (k : Nat) : Nat → Vv := fun p => if p = k then f (k + 1) else if p = k + 1 then f k else f p
theorem arr_sw {f : Nat → Vv} {m k : Nat} (h : k + 1 < m) : ((arr f m).set k (f (k + 1))).set (k + 1) (f k) = arr (sw f k) m := by
  apply List.ext_getElem?
  intro i
  by_cases hi : i < m
  · rw [arr_at hi]
    simp only [List.getElem?_set, List.length_set, arr_len, sw]
    by_cases h1 : k + 1 = i
    · subst h1; simp [hi]
    · by_cases h2 : k = i
      · subst h2; simp [hi]
      · simp [h1, h2, arr_at hi, Ne.symm h1, Ne.symm h2]
  · rw [List.getElem?_eq_none (by simp [arr_len]; omega), List.getElem?_eq_none (by rw [arr_len]; omega)]
/-- sorted up to i -/
def Up (f : Nat → Vv) (i : Nat) : Prop := ∀ p q, p < q → q < i → cmpV (f p) (f q) ≤ 0
/-- sorted up to i and with it, but for what stands at j, which is no greater than what follows -/
def Ins (f : Nat → Vv) (i j : Nat) : Prop := (∀ p q, p < q → q ≤ i → p ≠ j → q ≠ j → cmpV (f p) (f q) ≤ 0) ∧ ∀ q, j < q → q ≤ i → cmpV (f j) (f q) ≤ 0
theorem Up.ins {f : Nat → Vv} {i : Nat} (h : Up f i) : Ins f i i := ⟨fun p q h1 h2 h3 h4 => h p q h1 (by omega), fun q h1 h2 => by omega⟩
theorem Ins.up0 {f : Nat → Vv} {i : Nat} (h : Ins f i 0) : Up f (i + 1) := fun p q h1 h2 => by
  by_cases hp : p = 0
  · subst hp; exact h.2 q h1 (by omega)
  · exact h.1 p q h1 (by omega) hp (by omega)
theorem Ins.up {f : Nat → Vv} {i k : Nat} (h : Ins f i (k + 1)) (hc : cmpV (f k) (f (k + 1)) ≤ 0) : Up f (i + 1) := fun p q h1 h2 => by
  by_cases hp : p = k + 1
  · subst hp; exact h.2 q h1 (by omega)
  · by_cases hq : q = k + 1
    · subst hq
      by_cases hk : p = k
      · subst hk; exact hc
      · exact (cmpV_trans (h.1 p k (by omega) (by omega) hp (by omega)) hc).1
    · exact h.1 p q h1 (by omega) hp hq
theorem Ins.swap {f : Nat → Vv} {i k : Nat} (hk : k + 1 ≤ i) (h : Ins f i (k + 1)) (hc : ¬ cmpV (f k) (f (k + 1)) ≤ 0) : Ins (sw f k) i k := by
  have hf := cmpV_flip (f k) (f (k + 1))
  have e0 : sw f k k = f (k + 1) := by simp [sw]
  have e1 : sw f k (k + 1) = f k := by simp [sw]
  have e2 : ∀ p, p ≠ k → p ≠ k + 1 → sw f k p = f p := fun p h1 h2 => by simp [sw, h1, h2]
  refine ⟨fun p q h1 h2 h3 h4 => ?_, fun q h1 h2 => ?_⟩
  · by_cases hp : p = k + 1
    · subst hp
      rw [e1, e2 q h4 (by omega)]
      exact h.1 k q (by omega) h2 (by omega) (by omega)
    · by_cases hq : q = k + 1
      · subst hq
        rw [e1, e2 p h3 hp]
        exact h.1 p k (by omega) (by omega) hp (by omega)
      · rw [e2 p h3 hp, e2 q h4 hq]
        exact h.1 p q h1 h2 hp hq
  · rw [e0]
    by_cases hq : q = k + 1
    · subst hq; rw [e1]; omega
    · rw [e2 q (by omega) hq]
      exact h.2 q (by omega) h2
theorem sw_all {P : Vv → Prop} {f : Nat → Vv} {m k : Nat} (hk : k + 1 < m) (h : ∀ p, p < m → P (f p)) : ∀ p, p < m → P (sw f k p) := fun p hp => by
  unfold sw
  by_cases h1 : p = k
  · rw [if_pos h1]; exact h _ hk
  · rw [if_neg h1]
    by_cases h2 : p = k + 1
    · rw [if_pos h2]; exact h _ (by omega)
    · rw [if_neg h2]; exact h _ hp
/-- a row of values -/
abbrev Vs (w : World) (v : Value) (m : Nat) (f : Nat → Vv) : Prop := Own w 23 3 v m ((arr f m).flatMap encV)
theorem Vs.cells {w : World} {g m c : Nat} {f : Nat → Vv} (h : Vs w (.slice (some ⟨g, 0, none⟩) m c) m f) {p : Nat} (hp : p < m) : w.cell? ⟨g, p * 3, none⟩ = some (.int .u8 (f p).1) ∧ w.cell? ⟨g, p * 3 + 1, none⟩ = some (.int .i64 (f p).2.1) ∧ w.cell? ⟨g, p * 3 + 2, none⟩ = some (.string (f p).2.2) := by
  have hl : ((arr f m).flatMap encV).length = m * 3 := h.len
  have key : ∀ r u, r < 3 → (encV (f p))[r]? = some u → w.cell? ⟨g, p * 3 + r, none⟩ = some u := fun r u hr hu => by
    have h1 := encV_flat (arr f m) p (f p) (arr_at hp) r hr
    rw [hu] at h1
    obtain ⟨h2, h3⟩ := List.getElem?_eq_some_iff.1 h1
    rw [Own.cells h rfl _ h2, h3]
  exact ⟨key 0 _ (by omega) rfl, key 1 _ (by omega) rfl, key 2 _ (by omega) rfl⟩
theorem Vs.swap {w : World} {g m c : Nat} {f : Nat → Vv} (h : Vs w (.slice (some ⟨g, 0, none⟩) m c) m f) {k : Nat} (hk : k + 1 < m) :
    ∃ w', ((((((w.setCell ⟨g, k * 3, none⟩ (.int .u8 (f (k + 1)).1)).setCell ⟨g, k * 3 + 1, none⟩ (.int .i64 (f (k + 1)).2.1)).setCell ⟨g, k * 3 + 2, none⟩ (.string (f (k + 1)).2.2)).setCell ⟨g, (k + 1) * 3, none⟩ (.int .u8 (f k).1)).setCell ⟨g, (k + 1) * 3 + 1, none⟩ (.int .i64 (f k).2.1)).setCell ⟨g, (k + 1) * 3 + 2, none⟩ (.string (f k).2.2)) = w' ∧
      Vs w' (.slice (some ⟨g, 0, none⟩) m c) m (sw f k) ∧ Kept (fun i => i = g) w w' := by
  refine ⟨_, rfl, ?_, ((((((Kept.refl (fun i => i = g) w).setCell (p := ⟨g, _, none⟩) (.inl rfl) _).setCell (p := ⟨g, _, none⟩) (.inl rfl) _).setCell (p := ⟨g, _, none⟩) (.inl rfl) _).setCell (p := ⟨g, _, none⟩) (.inl rfl) _).setCell (p := ⟨g, _, none⟩) (.inl rfl) _).setCell (p := ⟨g, _, none⟩) (.inl rfl) _⟩
  have h1 := ((((((Own.set h rfl (k * 3) (.int .u8 (f (k + 1)).1)).set rfl (k * 3 + 1) (.int .i64 (f (k + 1)).2.1)).set rfl (k * 3 + 2) (.string (f (k + 1)).2.2)).set rfl ((k + 1) * 3) (.int .u8 (f k).1)).set rfl ((k + 1) * 3 + 1) (.int .i64 (f k).2.1)).set rfl ((k + 1) * 3 + 2) (.string (f k).2.2))
  rw [encV_set (arr f m) k (f (k + 1)) (by rw [arr_len]; omega), encV_set _ (k + 1) (f k) (by rw [List.length_set, arr_len]; omega), arr_sw hk] at h1
  exact h1
theorem encV_one (L : List Vv) : ∀ u ∈ L.flatMap encV, u.oneCell' = true := by
  intro u hu
  simp only [List.mem_flatMap] at hu
  obtain ⟨x, _, hx⟩ := hu
  simp [encV] at hx
  rcases hx with rfl | rfl | rfl <;> rfl
theorem infoV3 : (Tryd.prog.info? 23).map (fun i => (i.zero, i.size, i.bytes)) = some (some (.agg #[.int .u8 0, .int .i64 0, .string ByteArray.empty]), 3, 32) := by kernel_rfl
theorem vlist_read {w : World} {v : Value} (h : RdV Tryd.prog w 34 v) : ∃ (a : Option Addr) (cap : Nat) (L : List Vv), v = .slice a L.length cap ∧ Lies (fun g => w.heap.size ≤ g) w 3 (.slice a L.length cap) L.length (L.flatMap encV) ∧ ∀ x ∈ L, okV x := by
  obtain ⟨a, len, cap, rfl, h0⟩ := h.slice Tryd.underlying34
  obtain ⟨l, hl, hv, _, hq⟩ := lies_of encV 3 (fun _ => rfl) (by decide) (fun x u hu => by simp [encV] at hu; rcases hu with rfl | rfl | rfl <;> rfl) (0, 0, ByteArray.empty) Tryd.underlying34 bytesVv okV (fun es h1 h2 => val_read h1 h2) h0
  subst hl
  exact ⟨a, cap, l, rfl, hv, hq⟩
theorem val_cells {F : Nat → Prop} {w w' : World} {a : Option Addr} {N c : Nat} {L : List Vv} (h : Lies F w 3 (.slice a N c) N (L.flatMap encV)) (hk : Kept (fun _ => False) w w') {i : Nat} {x : Vv} (hx : L[i]? = some x) (hi : i < N) :
    ∃ g o, a = some ⟨g, o, none⟩ ∧ w'.cell? ⟨g, o + i * 3, none⟩ = some (.int .u8 x.1) ∧ w'.cell? ⟨g, o + i * 3 + 1, none⟩ = some (.int .i64 x.2.1) ∧ w'.cell? ⟨g, o + i * 3 + 2, none⟩ = some (.string x.2.2) := by
  obtain ⟨g, o, c', e, _, _, _, _, hc⟩ := h.cell (by omega)
  simp only [Value.slice.injEq] at e
  obtain ⟨rfl, _, rfl⟩ := e
  have key : ∀ r u, r < 3 → (encV x)[r]? = some u → w'.cell? ⟨g, o + i * 3 + r, none⟩ = some u := fun r u hr hu => by
    rw [Nat.add_assoc]
    exact hk.cell (hc _ u (by rw [encV_flat L i x hx r hr]; exact hu)) id
  exact ⟨g, o, rfl, key 0 _ (by omega) rfl, key 1 _ (by omega) rfl, key 2 _ (by omega) rfl⟩
theorem val_src (w : World) (k n : Int) (s : ByteArray) (T : TypeId) {b : Nat} (hb : w.heap.size = b) : Src (w.alloc (.cells #[.int .u8 k, .int .i64 n, .string s] T)) 3 (.slice (some ⟨b, 0, none⟩) 1 1) 1 [.int .u8 k, .int .i64 n, .string s] := by
  subst hb
  exact src_row rfl (fun j u hu => by rw [row_cell (row_new w _)]; simpa using hu) (by simp [Value.oneCell'])
end Go.Proofs.YtnicaiofjficnaaDoor
