/- List. -/
import Derived.Test.YtekapdankpamiaaB
import Derived.Test.YtekapdankpamiaaKey
import Derived.Test.YtekapdankpamiaaLies
namespace Go.Proofs.Ytekapdankpamiaa
open Go.RowKit

/-- all vertices, rising; those that have moved -/
def verts : List Int := (List.range 40).map fun i : Nat => (i : Int) + 1
def doms (g : Int → Option (Int × Int)) : List Int := verts.filter fun v => (g v).isSome
def Dom (g : Int → Option (Int × Int)) : Prop := ∀ v, (g v).isSome = true → 1 ≤ v ∧ v ≤ 40
theorem mem_verts {v : Int} : v ∈ verts ↔ 1 ≤ v ∧ v ≤ 40 := by
  simp only [verts, List.mem_map, List.mem_range]
  exact ⟨fun ⟨i, hi, e⟩ => by omega, fun h => ⟨(v - 1).toNat, by omega, by omega⟩⟩
theorem verts_up : verts.Pairwise (· < ·) := by
  unfold verts
  rw [List.pairwise_map]
  exact List.pairwise_lt_range.imp (by intro a b h; omega)
theorem doms_up (g : Int → Option (Int × Int)) : (doms g).Pairwise (· < ·) := verts_up.filter _
theorem mem_doms {g : Int → Option (Int × Int)} (hd : Dom g) {v : Int} : v ∈ doms g ↔ (g v).isSome = true := by
  simp only [doms, List.mem_filter, mem_verts]
  exact ⟨fun h => h.2, fun h => ⟨hd v h, h⟩⟩
theorem doms_len (g : Int → Option (Int × Int)) : (doms g).length ≤ 40 := by
  have : verts.length = 40 := by simp [verts]
  exact Nat.le_trans (List.length_filter_le _ _) (by omega)
theorem ordered_of {l r : List Int} (hl : l.Nodup) (hr : r.Pairwise (· < ·)) (h : ∀ x, x ∈ l ↔ x ∈ r) : ordered l = r := by
  have hrn : r.Nodup := hr.imp (fun h => by omega)
  have hp : l.Perm r := (List.perm_ext_iff_of_nodup hl hrn).2 h
  have hp2 : (ordered l).Perm r := (List.mergeSort_perm _ _).trans hp
  refine List.Perm.eq_of_pairwise (le := fun a b => a ≤ b) (fun a b _ _ h1 h2 => by omega) ?_ (hr.imp (fun h => by omega)) hp2
  have := List.pairwise_mergeSort (le := fun x y : Int => decide (x ≤ y)) (fun a b c h1 h2 => by simp only [decide_eq_true_eq] at *; omega) (fun a b => by simp only [Bool.or_eq_true, decide_eq_true_eq]; omega) l
  exact this.imp (fun h => by simpa using h)
theorem dir_keys {w : World} {db mb : Nat} {n : Int} {g : Int → Option (Int × Int)} (h : DirAt w db mb n g) (hd : Dom g) : ∃ L, MapIs w mb .u32 L ∧ ordered (L.map (·.1)) = doms g ∧ L.length = (doms g).length := by
  obtain ⟨_, L, hL, hg⟩ := h
  have hn : (L.map (·.1)).Nodup := by obtain ⟨_, _, _, _, h, _⟩ := hL; exact h
  have ho : ordered (L.map (·.1)) = doms g := ordered_of hn (doms_up g) (fun x => by
    rw [← look_mem, hg x, mem_doms hd]; simp)
  exact ⟨L, hL, ho, by rw [← ho, ordered_len]; simp⟩
/-- an entry's cells -/
def ecell (g : Int → Option (Int × Int)) (v : Int) : List Value := [.int .u32 v, .int .u8 ((g v).getD (0, 0)).1, .int .u32 ((g v).getD (0, 0)).2]
def ecells (g : Int → Option (Int × Int)) (l : List Int) : List Value := l.flatMap (ecell g)
theorem infoEnt : (Try.prog.info? 33).map (fun i => (i.zero, i.size, i.bytes)) = some (some (.agg #[.int .u32 0, .int .u8 0, .int .u32 0]), 3, 12) := by kernel_rfl
theorem DirAt.look_one {w : World} {db mb : Nat} {n : Int} {g : Int → Option (Int × Int)} (h : DirAt w db mb n g) {v : Int} (hg : (g v).isSome = true) :
    (Instr.lookup 50 (.map (some mb)) (.int .u32 v) false).run Try.prog w = .ok (.agg #[.int .u32 v, .int .u8 ((g v).getD (0, 0)).1, .int .u32 ((g v).getD (0, 0)).2]) w := by
  obtain ⟨_, L, h1, h2⟩ := h
  obtain ⟨p, hp⟩ := Option.isSome_iff_exists.1 hg
  exact h1.run_look_some Try.underlying50 Try.underlying23 (by rw [h2, hp]; rfl) false
set_option maxRecDepth 100000 in
set_option maxHeartbeats 1000000 in
theorem list_any {w : World} {db mb : Nat} {n : Int} {g : Int → Option (Int × Int)} (h : DirAt w db mb n g) (hd : Dom g) :
    Calls Try.prog 14 #[.pointer (some ⟨db, 0, none⟩)] w fun e w' => ∃ (a : Option Addr) (c : Nat), e = .returned (.slice a (doms g).length c) ∧ Own w' 33 3 (.slice a (doms g).length c) (doms g).length (ecells g (doms g)) ∧ (∀ b, (Value.slice a (doms g).length c).ownBlock = some b → w.heap.size ≤ b) ∧ Kept (fun _ => False) w w' := by
  have H := hid h
  obtain ⟨L, hL, ho, hlen⟩ := dir_keys h hd
  have HL := hid hL; have HO := hid ho; have HD := hid (fun v => mem_doms (v := v) hd)
  obtain ⟨D, hD⟩ : ∃ D, doms g = D := ⟨_, rfl⟩
  have hdl := doms_len g
  rw [hD] at HO HD hdl hlen ⊢
  have HN := hid hlen
  have c1 := row_cell h.obj 1
  simp only [List.getElem?_toArray, List.getElem?_cons_zero, List.getElem?_cons_succ] at c1
  clear h hL ho hlen hD
  go_enter Try.func14, Try.ntmps14
  go_wp2_with fail
  refine (keys_any (some mb) w).mono ?_
  rintro e w1 ⟨rfl, hw1⟩
  have hb := row_new w (.cells #[.map (some mb)] 50)
  have hk1 := (Kept.refl (fun _ => False) w).alloc (.cells #[.map (some mb)] 50)
  rw [← hw1] at hb hk1
  have cb := row_cell hb 0
  simp only [List.getElem?_toArray, List.getElem?_cons_zero] at cb
  obtain ⟨bm, hbm⟩ : ∃ bm, w.heap.size = bm := ⟨_, rfl⟩
  rw [hbm] at cb ⊢
  have HB := hid hbm; have K1 := hid hk1
  clear hb hk1 hw1 hbm
  go_wp2_with fail
  refine (sorted_any cb (L := L) (by exact (HL.out.of_block (K1.out.block _ HL.out.lt id)).mapOf) (by rw [HN.out]; omega)).mono ?_
  rintro e w2 ⟨sa, sc, rfl, hs, hf, hk2⟩
  rw [HO.out] at hs
  rw [HN.out] at hs hf ⊢
  have HS := hid hs; have HF := hid hf; have K2 := hid (K1.out.trans hk2)
  clear hs hf hk2 cb
  go_wp2_with fail
  go_loopw [3, 5, 15] (fun o _ i wr => ∃ (k : Nat) (a : Option Addr) (c : Nat), i = .int .i64 k ∧ k ≤ D.length ∧ o = .slice a k c ∧ Own wr 33 3 (.slice a k c) k (ecells g (D.take k)) ∧ (∀ b, (Value.slice a k c).ownBlock = some b → w2.heap.size ≤ b) ∧ Kept (fun _ => False) w2 wr) (fun _ _ i _ => D.length - (RowKit.intOf i).toNat)
  case atStart => exact ⟨0, none, 0, rfl, Nat.zero_le _, rfl, Own.nil _ _ _, fun b hb => by simp [Value.ownBlock] at hb, Kept.refl _ _⟩
  case round =>
    rename World => wA
    obtain ⟨k, a, c, rfl, hk, rfl, ho, hf, hkp⟩ := hrel
    have HA := hid ho; have HAF := hid hf; have KA := hid hkp
    clear ho hf hkp
    by_cases hlt : k < D.length
    · obtain ⟨v, hv⟩ : ∃ v, D[k]? = some v := ⟨_, List.getElem?_eq_getElem hlt⟩
      have hgv := (HD.out v).1 (List.mem_of_getElem? hv)
      have KW := hid (K2.out.trans KA.out)
      have hl := (H.out.kept KW.out id id).look_one hgv
      have c1' := KW.out.cell c1 id
      obtain ⟨gs, sc', hse, hs1, hs2⟩ := HS.out.some_of_pos (by omega)
      simp only [Value.slice.injEq] at hse
      obtain ⟨rfl, _, rfl⟩ := hse
      have cs : wA.cell? ⟨gs, k, none⟩ = some (.int .u32 v) := by
        have := KA.out.cell (HS.out.cells rfl k (by simpa using hlt)) id
        rw [this]
        simp only [List.getElem_map]
        rw [(List.getElem?_eq_some_iff.1 hv).2]
      have hdk : (k : Int) < (D.length : Int) := by omega
      have hEC := hid (show ecells g (D.take (k + 1)) = ecells g (D.take k) ++ [.int .u32 v, .int .u8 ((g v).getD (0, 0)).1, .int .u32 ((g v).getD (0, 0)).2] from by
        rw [List.take_add_one, hv]
        simp [ecells, ecell])
      clear hgv hv hs1
      unfold maxLen at hs2
      obtain ⟨p1, hp1⟩ : ∃ p, ((g v).getD (0, 0)).1 = p := ⟨_, rfl⟩
      obtain ⟨p2, hp2⟩ : ∃ p, ((g v).getD (0, 0)).2 = p := ⟨_, rfl⟩
      rw [hp1, hp2] at hl hEC
      clear hp1 hp2
      have hs0 : Src (wA.alloc (.cells #[.int .u32 v, .int .u8 p1, .int .u32 p2] 33)) 3 (.slice (some ⟨wA.heap.size, 0, none⟩) 1 1) 1 [.int .u32 v, .int .u8 p1, .int .u32 p2] :=
        src_row rfl (fun j u hu => by rw [row_cell (row_new wA _)]; simpa using hu) (by simp [Value.oneCell'])
      have HSR := hid hs0
      clear hs0
      go_wp2_with (at_builtin; refine wpList_app rfl _ _ 41 rfl 33 _ 3 12 Try.underlying41 infoEnt rfl (by decide) _ k (ecells g (D.take k)) rfl (HA.out.alloc _) _ rfl 1 _ HSR.out (by unfold maxLen; omega) (by omega) ?_; intro a' c' w3 ho3 hk3 hf3 _; have HA3 := hid ho3; have HK3 := hid hk3; have HF3 := hid hf3; clear ho3 hk3 hf3)
      go_roundw
      case rel =>
        refine ⟨k + 1, a', c', by go_num, by omega, rfl, by rw [hEC.out]; exact HA3.out, fun b hb => ?_, ?_⟩
        · rcases HF3.out b hb with h | h
          · exact HAF.out b h
          · simp at h; have := KA.out.size; omega
        · exact (KA.out.alloc _).trans' HK3.out (fun i hi => .inr (HAF.out i hi))
      case measure => (simp only [RowKit.intOf]; omega)
    · obtain rfl : k = D.length := by omega
      go_wp2_with fail
      have e : ∀ c', Ending.returned (Value.slice a D.length c') = .returned (.slice a D.length c') := fun _ => rfl
      go_ret
      refine ⟨a, c, rfl, by rw [List.take_length] at HA; exact HA.out, fun b hb => ?_, K2.out.trans KA.out⟩
      have h1 := HAF.out b hb
      have h2 := K2.out.size
      omega
end Go.Proofs.Ytekapdankpamiaa
