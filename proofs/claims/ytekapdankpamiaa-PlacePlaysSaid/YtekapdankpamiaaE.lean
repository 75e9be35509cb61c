/- Same at equal lists; the script; the plain law of PlaceOne. -/
import Derived.Test.YtekapdankpamiaaC
import Derived.Test.YtekapdankpamiaaArg
import Derived.Test.YtekapdankpamiaaMin
namespace Go.Proofs.Ytekapdankpamiaa
open Go.RowKit

/-- two slices of entries with the same cells -/
theorem ent_cells {g : Int → Option (Int × Int)} : ∀ (l : List Int) (i : Nat) (v : Int), l[i]? = some v → (ecells g l)[i * 3]? = some (.int .u32 v) ∧ (ecells g l)[i * 3 + 1]? = some (.int .u8 ((g v).getD (0, 0)).1) ∧ (ecells g l)[i * 3 + 2]? = some (.int .u32 ((g v).getD (0, 0)).2)
  | y :: l, 0, x, h => by simp at h; subst h; simp [ecells, ecell]
  | y :: l, i + 1, x, h => by
    have := ent_cells (g := g) l i x (by simpa using h)
    have e : ∀ k, (ecells g (y :: l))[k + 3]? = (ecells g l)[k]? := fun k => by simp [ecells, ecell, List.flatMap_cons]
    rw [show (i + 1) * 3 = i * 3 + 3 from by omega, show i * 3 + 3 + 1 = i * 3 + 1 + 3 from by omega, show i * 3 + 3 + 2 = i * 3 + 2 + 3 from by omega, e, e, e]
    exact this
theorem ecells_one (g : Int → Option (Int × Int)) (l : List Int) : ∀ u ∈ ecells g l, u.oneCell' = true := by
  intro u hu
  simp only [ecells, List.mem_flatMap, ecell] at hu
  obtain ⟨x, _, hx⟩ := hu
  simp at hx
  rcases hx with rfl | rfl | rfl <;> rfl
set_option maxRecDepth 100000 in
set_option maxHeartbeats 1000000 in
theorem same_yes {w : World} {g : Int → Option (Int × Int)} {l : List Int} {a b : Option Addr} {c d : Nat} (ha : Lies (fun _ => False) w 3 (.slice a l.length c) l.length (ecells g l)) (hb : Lies (fun _ => False) w 3 (.slice b l.length d) l.length (ecells g l)) (hl : l.length ≤ 1000000) :
    Calls Try.prog 15 #[.slice a l.length c, .slice b l.length d] w fun e w' => e = .returned (.bool true) ∧ Kept (fun _ => False) w w' := by
  have HA := hid ha; have HB := hid hb
  clear ha hb
  obtain ⟨n, hn⟩ : ∃ n, l.length = n := ⟨_, rfl⟩
  rw [hn] at HA HB hl ⊢
  have HN := hid hn
  clear hn
  go_enter Try.func15, Try.ntmps15
  go_wp2_with fail
  go_loopw [13] (fun i wr => ∃ k : Nat, k ≤ n ∧ i = .int .i64 k ∧ Kept (fun _ => False) w wr) (fun i _ => n - (RowKit.intOf i).toNat)
  case atStart => exact ⟨0, Nat.zero_le _, rfl, Kept.refl _ _⟩
  case round =>
    rename World => wA
    obtain ⟨k, hk, rfl, hkp⟩ := hrel
    have K := hid hkp
    clear hkp
    by_cases hlt : k < n
    · obtain ⟨v, hv⟩ : ∃ v, l[k]? = some v := ⟨_, List.getElem?_eq_getElem (by rw [HN.out]; exact hlt)⟩
      obtain ⟨x0, x1, x2⟩ := ent_cells (g := g) l k v hv
      obtain ⟨g1, o1, q1, e1, m1, m2, _, _, z1⟩ := (HA.out.same K.out).cell (by omega)
      obtain ⟨g2, o2, q2, e2, m3, m4, _, _, z2⟩ := (HB.out.same K.out).cell (by omega)
      simp only [Value.slice.injEq] at e1 e2
      obtain ⟨rfl, _, rfl⟩ := e1
      obtain ⟨rfl, _, rfl⟩ := e2
      have a0 := z1 _ _ x0
      have a1 := z1 _ _ x1
      have a2 := z1 _ _ x2
      have b0 := z2 _ _ x0
      have b1 := z2 _ _ x1
      have b2 := z2 _ _ x2
      rw [← Nat.add_assoc] at a1 a2 b1 b2
      unfold maxLen at m2 m4
      have hkI : (k : Int) < (n : Int) := by omega
      clear x0 x1 x2 hv z1 z2
      go_wp2_with fail
      go_quiet (fail)
      have K1 := hid (K.out.trans (kept_drewN (F := fun _ => False) wA nq))
      go_wp2
      go_roundw
      case rel => exact ⟨k + 1, by omega, by go_num, K1.out⟩
      case measure => (simp only [RowKit.intOf]; omega)
    · go_wp2
      go_ret
      exact ⟨rfl, K.out⟩
end Go.Proofs.Ytekapdankpamiaa
