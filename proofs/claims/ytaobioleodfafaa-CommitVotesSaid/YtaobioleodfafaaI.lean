/- CommitVotes: the plain part. -/
import Derived.Test.YtaobioleodfafaaH
namespace Go.Proofs.Ytaobioleodfafaa
open Go.RowKit
def nodes (n : Nat) : List Int := (List.range n).map fun i : Nat => (i : Int)
theorem nodes_len (n : Nat) : (nodes n).length = n := by simp [nodes]
theorem nodes_mem {n : Nat} {v : Int} : v ∈ nodes n ↔ 0 ≤ v ∧ v < n := by
  simp only [nodes, List.mem_map, List.mem_range]
  exact ⟨fun ⟨i, h, e⟩ => by omega, fun h => ⟨v.toNat, by omega, by omega⟩⟩
theorem nodes_nodup (n : Nat) : (nodes n).Nodup := by
  unfold nodes List.Nodup
  rw [List.pairwise_map]
  exact (List.nodup_range).imp (fun h e => h (by omega))
theorem nodes_snoc (n : Nat) : nodes (n + 1) = nodes n ++ [(n : Int)] := by simp [nodes, List.range_succ]
/-- the map of those that have voted -/
def Vt (ns : List Int) (Y : Int → Bool) (L : List (Int × Value)) : Prop := (L.map (·.1)).Nodup ∧ (∀ v, look L v = if Y v = true then some (.bool true) else none) ∧ ∀ v, Y v = true → v ∈ ns
theorem Vt.len {ns : List Int} {Y : Int → Bool} {L : List (Int × Value)} (h : Vt ns Y L) (hn : ns.Nodup) : L.length = ns.length ↔ ns.all Y = true := by
  have hp : (L.map (·.1)).Perm (ns.filter Y) := (List.perm_ext_iff_of_nodup h.1 (hn.filter _)).2 fun v => by
    rw [← look_mem, h.2.1 v, List.mem_filter]
    constructor
    · intro h1
      by_cases hy : Y v = true
      · exact ⟨h.2.2 v hy, hy⟩
      · simp [hy] at h1
    · rintro ⟨_, hy⟩
      simp [hy]
  have hl := hp.length_eq
  rw [List.length_map] at hl
  rw [hl, List.length_filter_eq_length_iff, List.all_eq_true]
theorem Vt.put {ns : List Int} {Y : Int → Bool} {L : List (Int × Value)} (h : Vt ns Y L) {x : Int} (hx : x ∈ ns) : Vt ns (setY Y x) (lay L x (.bool true)) := by
  refine ⟨lay_nodup _ _ _ h.1, fun v => ?_, fun v hv => ?_⟩
  · rw [look_lay, h.2.1 v]
    unfold setY
    by_cases hvx : v = x
    · simp [hvx]
    · simp [hvx]
  · unfold setY at hv
    by_cases hvx : v = x
    · rw [hvx]; exact hx
    · rw [if_neg hvx] at hv; exact h.2.2 v hv
theorem Vt.nil (ns : List Int) : Vt ns (fun _ => false) [] := ⟨by simp, fun v => by simp [look], fun v h => by cases h⟩
end Go.Proofs.Ytaobioleodfafaa
