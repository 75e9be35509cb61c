/- The document's set: deeds; Do, Has, insert, edges. -/
import Derived.Test.YtglcpiokmieppaaS
namespace Go.Proofs.Ytglcpiokmieppaa
open Go.RowKit

abbrev Dd := Int × Int × Bool
def dcell (d : Dd) : List Value := [.int .u32 d.1, .int .u32 d.2.1, .bool d.2.2]
def dcells (l : List Dd) : List Value := l.flatMap dcell
theorem dcells_len (l : List Dd) : (dcells l).length = l.length * 3 := enc_len dcell 3 (fun _ => rfl) l
theorem dcells_one (l : List Dd) : ∀ u ∈ dcells l, u.oneCell' = true := by
  intro u hu
  simp only [dcells, List.mem_flatMap, dcell] at hu
  obtain ⟨x, _, hx⟩ := hu
  simp at hx
  rcases hx with rfl | rfl | rfl <;> rfl
theorem dcells_at : ∀ (l : List Dd) (i : Nat) (x : Dd), l[i]? = some x → (dcells l)[i * 3]? = some (.int .u32 x.1) ∧ (dcells l)[i * 3 + 1]? = some (.int .u32 x.2.1) ∧ (dcells l)[i * 3 + 2]? = some (.bool x.2.2)
  | y :: l, 0, x, h => by simp at h; subst h; simp [dcells, dcell]
  | y :: l, i + 1, x, h => by
    have := dcells_at l i x (by simpa using h)
    have e : ∀ k, (dcells (y :: l))[k + 3]? = (dcells l)[k]? := fun k => by simp [dcells, dcell, List.flatMap_cons]
    rw [show (i + 1) * 3 = i * 3 + 3 from by omega, show i * 3 + 3 + 1 = i * 3 + 1 + 3 from by omega, show i * 3 + 3 + 2 = i * 3 + 2 + 3 from by omega, e, e, e]
    exact this
theorem dcells_app (l k : List Dd) : dcells (l ++ k) = dcells l ++ dcells k := by simp [dcells]
/-- who spoke of it last -/
def hasD (D : List Dd) (n : Int) : Bool := D.foldl (fun b d => if d.1 ≤ n ∧ n ≤ d.2.1 then d.2.2 else b) false
theorem hasD_snoc (D : List Dd) (d : Dd) (n : Int) : hasD (D ++ [d]) n = if d.1 ≤ n ∧ n ≤ d.2.1 then d.2.2 else hasD D n := by simp [hasD]
theorem infoD : (Try.prog.info? 33).map (fun i => (i.zero, i.size, i.bytes)) = some (some (.agg #[.int .u32 0, .int .u32 0, .bool false]), 3, 12) := by kernel_rfl
/-- block rb is a document's set of these deeds; all of it lies in F -/
structure RefAt (F : Nat → Prop) (w : World) (rb : Nat) (D : List Dd) : Prop where
  c : ∃ ao cap, w.heap[rb]? = some (.cells #[.slice ao D.length cap] 29 (0, 0)) ∧ Own w 33 3 (.slice ao D.length cap) D.length (dcells D) ∧ (∀ g, (Value.slice ao D.length cap).ownBlock = some g → F g)
  m : F rb
theorem RefAt.kept {F G : Nat → Prop} {w w' : World} {rb : Nat} {D : List Dd} (h : RefAt F w rb D) (k : Kept G w w') (hg : ∀ g, F g → ¬ G g) : RefAt F w' rb D := by
  obtain ⟨ao, cap, h1, h2, h3⟩ := h.c
  exact ⟨⟨ao, cap, (k.block _ (row_lt h1) (hg _ h.m)).trans h1, h2.kept k fun g hb => hg g (h3 g hb), h3⟩, h.m⟩
theorem RefAt.mono {F G : Nat → Prop} {w : World} {rb : Nat} {D : List Dd} (h : RefAt F w rb D) (hg : ∀ g, F g → G g) : RefAt G w rb D := by
  obtain ⟨ao, cap, h1, h2, h3⟩ := h.c
  exact ⟨⟨ao, cap, h1, h2, fun g hb => hg g (h3 g hb)⟩, hg _ h.m⟩
theorem RefAt.lt {F : Nat → Prop} {w : World} {rb : Nat} {D : List Dd} (h : RefAt F w rb D) : RefAt (fun g => F g ∧ g < w.heap.size) w rb D := by
  obtain ⟨ao, cap, h1, h2, h3⟩ := h.c
  exact ⟨⟨ao, cap, h1, h2, fun g hb => ⟨h3 g hb, h2.lt hb⟩⟩, h.m, row_lt h1⟩
def doD (D : List Dd) (a b : Int) (i : Bool) : List Dd := if b < a then D else D ++ [(a, b, i)]
def DoPost (F : Nat → Prop) (w : World) (rb : Nat) (a b : Int) (D : List Dd) (e : Ending) (w' : World) : Prop :=
  e = .returned (.int .i64 (chk a b)) ∧ RefAt (fun g => F g ∨ w.heap.size ≤ g) w' rb D ∧ Kept F w w'
set_option maxHeartbeats 1000000 in
theorem do_nil (a b : Int) (i : Bool) (w : World) : Calls Try.prog 12 #[.pointer none, .int .u32 a, .int .u32 b, .bool i] w fun e w' => e = .returned (.int .i64 (if b < a then 1 else 6)) ∧ w = w' := by
  by_cases hab : b < a
  · go_enter Try.func12, Try.ntmps12
    go_wp2
    go_ret
    exact ⟨rfl, rfl⟩
  · go_enter Try.func12, Try.ntmps12
    go_wp2
    go_ret
    exact ⟨rfl, rfl⟩
theorem src_three {w : World} {E : TypeId} {b : Nat} (u v x : Value) (h1 : u.oneCell' = true) (h2 : v.oneCell' = true) (h3 : x.oneCell' = true) (hb : b = w.heap.size) : Src (w.alloc (.cells #[u, v, x] E)) 3 (.slice (some ⟨b, 0, none⟩) 1 1) 1 [u, v, x] := by
  subst hb
  exact src_row rfl (fun j y hy => by match j, hy with | 0, hy => simp at hy; subst hy; simp | 1, hy => simp at hy; subst hy; simp | 2, hy => simp at hy; subst hy; simp) (by simp [h1, h2, h3])
set_option maxRecDepth 100000 in
set_option maxHeartbeats 2000000 in
theorem do_any {F : Nat → Prop} {w : World} {rb : Nat} {D : List Dd} (h : RefAt F w rb D) (hn : D.length ≤ 1000000) (a b : Int) (i : Bool) :
    Calls Try.prog 12 #[.pointer (some ⟨rb, 0, none⟩), .int .u32 a, .int .u32 b, .bool i] w (DoPost F w rb a b (doD D a b i)) := by
  have H := hid h
  obtain ⟨ao, cap, g1, g2, g3⟩ := h.c
  have c0 := row_cell g1 0
  simp at c0
  have f0 := row_free g1 0
  have G1 := hid g1; have G2 := hid g2; have G3 := hid g3
  clear h g1 g2 g3
  by_cases hab : b < a
  · have hc : chk a b = 1 := by simp [chk, hab]
    have HC := hid hc; clear hc
    go_enter Try.func12, Try.ntmps12
    go_wp2
    go_ret
    refine ⟨by rw [HC.out]; rfl, ?_, Kept.refl _ _⟩
    rw [doD, if_pos hab]
    exact H.out.mono (fun _ h => .inl h)
  · have hc : chk a b = 0 := by simp [chk, hab]
    have HC := hid hc; clear hc
    go_enter Try.func12, Try.ntmps12
    go_wp2_with (at_builtin; refine wpList_app (o := ⟨some 25, _, _, _, _, _⟩) rfl (.tmp 18) (.tmp 24) 22 rfl 33 (.agg #[.int .u32 0, .int .u32 0, .bool false]) 3 12 Try.underlying22 infoD rfl (by decide) (.slice ao D.length cap) D.length (dcells D) (by simp [Act.eval, Act.put]) (by exact G2.out.alloc _) (.slice (some ⟨w.heap.size, 0, none⟩) 1 1) (by simp [Act.eval, Act.put]) 1 [.int .u32 a, .int .u32 b, .bool i] (by exact src_three _ _ _ rfl rfl rfl rfl) (by unfold maxLen; omega) (by omega) ?_; intro a8 c8 w8 ho8 hk8 hf8 _; have hk8' := Kept.trans' (F := fun k => (Value.slice ao D.length cap).ownBlock = some k) ((Kept.refl _ _).alloc _) hk8 (fun i hi => Or.inl hi); have q8 := (hk8'.block _ (row_lt G1.out) (G2.out.ne_block G1.out (by decide))).trans G1.out; have c8' := row_cell q8 0; have f8' := row_free q8 0; simp at c8'; have HO8 := hid ho8; have HK8 := hid hk8'; have HF8 := hid hf8; have Q8 := hid q8; clear ho8 hk8 hk8' hf8 q8)
    go_ret
    have ho := HO8.out; have hf := HF8.out
    have hl : D.length + 1 = (doD D a b i).length := by rw [doD, if_neg (by omega)]; simp
    rw [show dcells D ++ [.int .u32 a, .int .u32 b, .bool i] = dcells (doD D a b i) by rw [doD, if_neg (by omega), dcells_app]; rfl] at ho
    rw [hl] at ho hf ⊢
    refine ⟨by rw [HC.out]; rfl, ⟨⟨a8, c8, row_set Q8.out 0 _, ho.kept ((Kept.refl (fun k => k = rb) w8).setCell (.inl rfl) _) (fun g hg e => ho.ne_block Q8.out (by decide) (by rw [hg, e])), fun g hg => ?_⟩, .inl H.out.m⟩, (HK8.out.mono (fun i _ hi => G3.out i hi)).setCell (.inl H.out.m) _⟩
    rcases hf g hg with h1 | h1
    · exact .inl (G3.out g h1)
    · right; (try simp at h1); omega
set_option maxRecDepth 100000 in
set_option maxHeartbeats 2000000 in
theorem rhas_any {F : Nat → Prop} {w : World} {rb : Nat} {D : List Dd} (h : RefAt F w rb D) (n : Int) :
    Calls Try.prog 22 #[.pointer (some ⟨rb, 0, none⟩), .int .u32 n] w fun e w' => e = .returned (.bool (hasD D n)) ∧ Kept (fun _ => False) w w' := by
  obtain ⟨ao, cap, g1, g2, g3⟩ := h.c
  have c0 := row_cell g1 0
  simp at c0
  have HL := hid (g2.lies (F := fun _ => False) (dcells_one D) (fun _ _ h => h))
  clear h g1 g2 g3
  go_enter Try.func22, Try.ntmps22
  go_wp2_with fail
  go_loopw [5, 13] (fun r i wr => ∃ k : Nat, k ≤ D.length ∧ r = .bool (hasD (D.take k) n) ∧ i = .int .i64 k ∧ Kept (fun _ => False) w wr) (fun _ i _ => D.length - (intOf i).toNat)
  case atStart => exact ⟨0, Nat.zero_le _, rfl, rfl, Kept.refl _ _⟩
  case round =>
    obtain ⟨k, hk, rfl, rfl, hkp⟩ := hrel
    have HK := hid hkp; clear hkp
    by_cases hlt : k < D.length
    · obtain ⟨g1, o1, q1, e1, n1, m2, _, _, z1⟩ := HL.out.cell (by omega)
      simp only [Value.slice.injEq] at e1
      obtain ⟨rfl, _, rfl⟩ := e1
      unfold maxLen at m2
      obtain ⟨x0, x1, x2⟩ := dcells_at D k D[k] (by simp [hlt])
      have y0 := HK.out.cell (z1 _ _ x0) id
      have y1 := HK.out.cell (z1 _ _ x1) id
      have y2 := HK.out.cell (z1 _ _ x2) id
      have htk : hasD (D.take (k + 1)) n = if D[k].1 ≤ n ∧ n ≤ D[k].2.1 then D[k].2.2 else hasD (D.take k) n := by rw [List.take_succ_eq_append_getElem hlt, hasD_snoc]
      obtain ⟨⟨p, q, s⟩, hpq⟩ : ∃ x, D[k] = x := ⟨_, rfl⟩
      rw [hpq] at y0 y1 y2 htk
      simp only [← Nat.add_assoc] at y0 y1 y2 htk
      have HTK := hid htk
      clear x0 x1 x2 z1 hpq htk
      by_cases h1 : p ≤ n
      · by_cases h2 : n ≤ q
        · go_wp2
          go_roundw
          case rel => exact ⟨k + 1, hlt, by rw [HTK.out, if_pos ⟨h1, h2⟩], by go_num, HK.out.alloc _⟩
          case measure => simp [intOf]; omega
        · go_wp2
          go_roundw
          case rel => exact ⟨k + 1, hlt, by rw [HTK.out, if_neg (fun h => h2 h.2)], by go_num, HK.out.alloc _⟩
          case measure => simp [intOf]; omega
      · go_wp2
        go_roundw
        case rel => exact ⟨k + 1, hlt, by rw [HTK.out, if_neg (fun h => h1 h.1)], by go_num, HK.out.alloc _⟩
        case measure => simp [intOf]; omega
    · obtain rfl : k = D.length := by omega
      have ht : D.take D.length = D := List.take_length
      have HT := hid ht; clear ht
      go_wp2
      go_ret
      exact ⟨ret_bool (by rw [HT.out]), HK.out⟩
end Go.Proofs.Ytglcpiokmieppaa
