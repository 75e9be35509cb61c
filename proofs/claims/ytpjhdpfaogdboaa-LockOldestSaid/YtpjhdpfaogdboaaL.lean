/- settle. -/
import Derived.Test.YtpjhdpfaogdboaaK
namespace Go.Proofs.Ytpjhdpfaogdboaa
set_option linter.unusedSimpArgs false
set_option linter.unusedVariables false
open Go.RowKit
def encT (x : Tx) : List Value := [.int .u8 x.1, .int .u32 x.2.1, .int .u32 x.2.2]
theorem infoT : (Try.prog.info? 32).map (fun i => (i.zero, i.size, i.bytes)) = some (some (txv (0, 0, 0)), 3, 12) := by kernel_rfl
theorem tx_src (w : World) (x1 x2 x3 : Int) {b : Nat} (hb : w.heap.size = b) : Src (w.alloc (.cells #[.int .u8 x1, .int .u32 x2, .int .u32 x3] 32)) 3 (.slice (some ⟨b, 0, none⟩) 1 1) 1 (encT (x1, x2, x3)) := by
  subst hb
  exact src_row rfl (fun j u hu => by rw [row_cell (row_new w _)]; simpa [encT] using hu) (by simp [encT, Value.oneCell'])
theorem conO' {F : Nat → Prop} {w : World} {a : Option Addr} {c N : Nat} {ws : List Ow} {f : Ow → Nat} (hN : ws.length = N) (hl : Lies F w 1 (.slice a N c) N (ptrs (ws.map f))) (g : Nat) (lb : Array Value) (eg : ∀ args w, (callFunc g args).run Try.prog w = .ok (.enter g args) w) (p : Ow → Bool)
    (hp : ∀ W x, x ∈ ws → Kept (fun _ => False) w W → Calls Try.prog g (#[ptr (f x)] ++ lb) W fun e w' => e = .returned (.bool (p x)) ∧ Kept (fun _ => False) W w') :
    Calls Try.prog 49 #[.slice a N c, .func (.func g) #[] lb] w fun e w' => e = .returned (.bool (ws.any p)) ∧ Kept (fun _ => False) w w' := by
  subst hN
  exact conO hl g lb eg p hp
theorem lies_pre1 {F : Nat → Prop} {w : World} {g o M c n : Nat} {l : List Nat} (h : Lies F w 1 (.slice (some ⟨g, o, none⟩) M c) M (ptrs l)) (hn : n ≤ M) : Lies F w 1 (.slice (some ⟨g, o, none⟩) n c) n (ptrs (l.take n)) := by
  obtain ⟨ao, c', e, h1, h2, h3, h4, h5, h6⟩ := h
  simp only [Value.slice.injEq] at e
  obtain ⟨rfl, _, rfl⟩ := e
  have e2 : ptrs (l.take n) = (ptrs l).take n := by simp [ptrs, List.map_take]
  rw [e2]
  refine ⟨_, c, rfl, by omega, h2, by rw [List.length_take]; omega, (fun h => nomatch h), fun hm => ?_, fun u hu => h6 u (List.mem_of_mem_take hu)⟩
  obtain ⟨g', off, e, hf, hl, hc⟩ := h5 (by omega)
  exact ⟨g', off, e, hf, hl, fun j u hu => hc j u (by rw [List.getElem?_take] at hu; split at hu; exact hu; cases hu)⟩
theorem obs_eq {A A' : Tx → Ad} {L L' : List Ow} (hk : L'.map (·.key) = L.map (·.key)) (ho : ∀ t, (A' t).ob = (A t).ob) : obs A' L' = obs A L := by
  have e : ∀ M : List Ow, ∀ A : Tx → Ad, obs A M = (M.map (·.key)).map fun k => (A k.2).ob := fun M A => by unfold obs; rw [List.map_map]; rfl
  rw [e, e, hk]
  exact List.map_congr_left fun k _ => ho k.2
theorem lke_lay {E : List (Int × Value)} {lk : List Wt} (h : LkE E lk) (hr : Ris lk) (v m : Int) (hm : 0 ≤ m) : LkE (lay E v (.int .u8 (max (mdOf lk v) m))) (addW lk (v, m)) := by
  refine ⟨fun k => ?_, ?_⟩
  · rw [look_lay, lkw_add _ _ hr]
    by_cases hk : k = v
    · rw [if_pos hk, if_pos hk]
      unfold mdOf
      cases hl : lkw lk v with
      | none => simp [hm]; omega
      | some x => simp
    · rw [if_neg hk, if_neg hk, h.1]
  · rw [lay_length, addW_len _ _ hr, h.2]
    have h1 := h.1 v
    have h2 := look_mem E v
    rw [h1] at h2
    cases hl : lkw lk v with
    | none =>
      rw [hl] at h2
      have : v ∉ E.map (·.1) := fun hm => by have := h2.2 hm; simp at this
      simp only [if_neg this]
      rfl
    | some x =>
      rw [hl] at h2
      have : v ∈ E.map (·.1) := h2.1 rfl
      simp only [if_pos this]
      rfl
section
variable {own : Nat → Option Tx} {B : Nat} {w : World} {tb mb : Nat} {L : List Ow} {A : Tx → Ad}
theorem Tab.apart (h : Tab own B w tb mb L A) {x o : Ow} (hx : x ∈ L) (ho : o ∈ L) (hne : x.tx ≠ o.tx) : (A x.tx).ob ≠ (A o.tx).ob := fun e => by
  have h1 := (h.ows x hx).own.1
  have h2 := (h.ows o ho).own.1
  rw [e] at h1
  exact hne (Option.some.inj (h1.symm.trans h2))
theorem Tab.uniq (h : Tab own B w tb mb L A) {x o : Ow} (hx : x ∈ L) (ho : o ∈ L) (he : x.tx = o.tx) : x = o := by
  have h1 := findO_of h.nodup hx
  have h2 := findO_of h.nodup ho
  rw [he, h2] at h1
  exact (Option.some.inj h1).symm
/-- the first question -/
theorem ask1 (h : Tab own B w tb mb L A) {o : Ow} (ho : o ∈ L) {vb : Nat} (hv : w.cell? ⟨vb, 0, none⟩ = some (ptr (A o.tx).ob)) {F : Nat → Prop} {a : Option Addr} {c N : Nat} (hN : L.length = N) (hl : Lies F w 1 (.slice a N c) N (ptrs (obs A L))) :
    Calls Try.prog 49 #[.slice a N c, .func (.func 50) #[] #[.pointer (some ⟨vb, 0, none⟩)]] w fun e w' => e = .returned (.bool (L.any fun x => decide (x.tx ≠ o.tx) && clash x.lk o.ws)) ∧ Kept (fun _ => False) w w' :=
  conO' (f := fun x => (A x.tx).ob) hN hl _ _ (enters_of Try.func50 (by kernel_rfl) rfl) _ fun W x hx k => by
    rw [app1]
    have hW := h.same k
    by_cases he : x.tx = o.tx
    · have : x = o := hW.uniq hx ho he
      subst this
      simp only [ne_eq, not_true, decide_false, Bool.false_and]
      exact set1_same (k.cell hv id) (hW.ows x hx)
    · simp only [ne_eq, he, not_false_iff, decide_true, Bool.true_and]
      exact set1_other (k.cell hv id) (hW.ows o ho) (hW.ows x hx) (hW.apart hx ho he) (hW.ok x hx).r (hW.ok x hx).f
/-- the second -/
theorem ask2 (h : Tab own B w tb mb L A) {o : Ow} (ho : o ∈ L) {vb : Nat} (hv : w.cell? ⟨vb, 0, none⟩ = some (ptr (A o.tx).ob)) {F : Nat → Prop} {g off c k N : Nat} (hk : k ≤ L.length) (hN : L.length = N) (hl : Lies F w 1 (.slice (some ⟨g, off, none⟩) N c) N (ptrs (obs A L))) :
    Calls Try.prog 49 #[.slice (some ⟨g, off, none⟩) k c, .func (.func 51) #[] #[.pointer (some ⟨vb, 0, none⟩)]] w fun e w' => e = .returned (.bool ((L.take k).any fun x => clash x.ws o.ws)) ∧ Kept (fun _ => False) w w' :=
  conO' (f := fun x => (A x.tx).ob) (ws := L.take k) (by rw [List.length_take]; omega) (by
    have := lies_pre1 hl (n := k) (by omega)
    rw [obs, ← List.map_take] at this
    exact this) _ _ (enters_of Try.func51 (by kernel_rfl) rfl) _ fun W x hx kk => by
    rw [app1]
    have hW := h.same kk
    exact set2_any (kk.cell hv id) (hW.ows o ho) (hW.ows x (List.mem_of_mem_take hx))
end
end Go.Proofs.Ytpjhdpfaogdboaa
