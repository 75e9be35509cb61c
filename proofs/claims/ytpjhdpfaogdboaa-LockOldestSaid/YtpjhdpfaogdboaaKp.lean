/- Plain: who is granted (settle). -/
import Derived.Test.YtpjhdpfaogdboaaC
namespace Go.Proofs.Ytpjhdpfaogdboaa
set_option linter.unusedSimpArgs false
set_option linter.unusedVariables false
open Go.RowKit
/-! ### plain -/
def goS (L : List Ow) (i : Nat) (o : Ow) : Bool := decide (0 < o.ws.length) && (!(L.any fun x => decide (x.tx ≠ o.tx) && clash x.lk o.ws) && !((L.take i).any fun x => clash x.ws o.ws))
def grant (o : Ow) : Ow := { o with lk := o.ws.foldl addW o.lk, ws := [] }
def stepS (S : List Ow × List Tx) (k : Nat) : List Ow × List Tx := match S.1[k]? with
  | some o => if goS S.1 k o then (S.1.set k (grant o), S.2 ++ [o.tx]) else S
  | none => S
def setK (L : List Ow) : Nat → List Ow × List Tx
  | 0 => (L, [])
  | k + 1 => stepS (setK L k) k
theorem grant_lk (ws : List Wt) : ∀ l : List Wt, Ris l → Fm l → Fm ws → Ris (ws.foldl addW l) ∧ Fm (ws.foldl addW l) := by
  induction ws with
  | nil => exact fun l h1 h2 _ => ⟨h1, h2⟩
  | cons x ws ih => exact fun l h1 h2 h3 => ih _ (addW_ris x l h1) (addW_fm x l h2 (h3 x List.mem_cons_self)) (fun y hy => h3 y (List.mem_cons_of_mem _ hy))
theorem grant_ok {o : Ow} (h : OkO o) : OkO (grant o) := ⟨(grant_lk _ _ h.r h.f h.g).1, (grant_lk _ _ h.r h.f h.g).2, (fun x hx => nomatch hx), List.nodup_nil⟩
theorem stepS_len (S : List Ow × List Tx) (k : Nat) : (stepS S k).1.length = S.1.length := by
  unfold stepS
  split
  · split
    · simp
    · rfl
  · rfl
theorem setK_len (L : List Ow) : ∀ k, (setK L k).1.length = L.length
  | 0 => rfl
  | k + 1 => (stepS_len _ _).trans (setK_len L k)
theorem stepS_txs (S : List Ow × List Tx) (k : Nat) : (stepS S k).1.map (·.key) = S.1.map (·.key) := by
  unfold stepS
  split
  · rename_i o ho
    split
    · rw [List.map_set]
      apply List.ext_getElem?
      intro j
      rw [List.getElem?_set]
      split
      · rename_i e; subst e
        have hk := (List.getElem?_eq_some_iff.1 ho).1
        simp [hk, (List.getElem?_eq_some_iff.1 ho).2, grant, Ow.key]
      · rfl
    · rfl
  · rfl
theorem setK_txs (L : List Ow) : ∀ k, (setK L k).1.map (·.key) = L.map (·.key)
  | 0 => rfl
  | k + 1 => (stepS_txs _ _).trans (setK_txs L k)
def settled (L : List Ow) : List Ow × List Tx := setK L L.length
/-! ### what the program's loop keeps -/
theorem stepS_cnt (S : List Ow × List Tx) (k : Nat) : (stepS S k).2.length ≤ S.2.length + 1 := by
  unfold stepS
  split
  · split
    · simp
    · omega
  · omega
theorem setK_cnt (L : List Ow) : ∀ k, (setK L k).2.length ≤ k
  | 0 => Nat.le_refl _
  | k + 1 => by
    have h1 := stepS_cnt (setK L k) k
    have h2 := setK_cnt L k
    show (stepS (setK L k) k).2.length ≤ k + 1
    omega
end Go.Proofs.Ytpjhdpfaogdboaa
