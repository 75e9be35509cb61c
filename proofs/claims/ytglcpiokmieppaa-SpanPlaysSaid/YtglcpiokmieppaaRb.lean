/- insert, edges: plain laws and walks. -/
import Derived.Test.YtglcpiokmieppaaRa
namespace Go.Proofs.Ytglcpiokmieppaa
open Go.RowKit

def ins : List Int → Int → List Int
  | [], n => [n]
  | x :: l, n => if x = n then x :: l else if n < x then n :: x :: l else x :: ins l n
theorem mem_ins : ∀ (l : List Int) (n x : Int), x ∈ ins l n ↔ x = n ∨ x ∈ l
  | [], n, x => by simp [ins]
  | y :: l, n, x => by
    unfold ins
    split
    · rename_i h; subst h; simp
    · split
      · simp
      · rw [List.mem_cons, mem_ins l n x, List.mem_cons]
        constructor
        · rintro (h | h | h)
          · exact .inr (.inl h)
          · exact .inl h
          · exact .inr (.inr h)
        · rintro (h | h | h)
          · exact .inr (.inl h)
          · exact .inl h
          · exact .inr (.inr h)
structure Srt (l : List Int) : Prop where
  p : l.Pairwise (· < ·)
  b : ∀ x ∈ l, 0 ≤ x ∧ x ≤ 4294967295
theorem Srt.ins {l : List Int} (h : Srt l) (n : Int) (h0 : 0 ≤ n) (h1 : n ≤ 4294967295) : Srt (ins l n) := by
  refine ⟨?_, fun x hx => ?_⟩
  · have hp := h.p
    clear h
    induction l with
    | nil => simp [Go.Proofs.Ytglcpiokmieppaa.ins]
    | cons y l ih =>
      have hp' := List.pairwise_cons.1 hp
      unfold Go.Proofs.Ytglcpiokmieppaa.ins
      split
      · exact hp
      · rename_i hne
        split
        · rename_i hlt
          exact List.pairwise_cons.2 ⟨fun z hz => by
            rcases List.mem_cons.1 hz with rfl | hz
            · exact hlt
            · have := hp'.1 z hz; omega, hp⟩
        · rename_i hge
          refine List.pairwise_cons.2 ⟨fun z hz => ?_, ih hp'.2⟩
          rcases (mem_ins l n z).1 hz with rfl | hz
          · omega
          · exact hp'.1 z hz
  · rcases (mem_ins l n x).1 hx with rfl | hx
    · exact ⟨h0, h1⟩
    · exact h.b x hx
theorem srt_len : ∀ (l : List Int) (lo : Int), l.Pairwise (· < ·) → (∀ x ∈ l, lo ≤ x ∧ x ≤ 4294967295) → lo ≤ 4294967296 → (l.length : Int) ≤ 4294967296 - lo
  | [], lo, _, _, h => by simp; omega
  | x :: l, lo, hp, hb, h => by
    have hp' := List.pairwise_cons.1 hp
    have h1 := hb x (by simp)
    have h2 := srt_len l (x + 1) hp'.2 (fun y hy => by have := hp'.1 y hy; have := hb y (by simp [hy]); omega) (by omega)
    simp only [List.length_cons]
    omega
theorem Srt.len {l : List Int} (h : Srt l) : l.length ≤ 4294967296 := by
  have := srt_len l 0 h.p (fun x hx => h.b x hx) (by omega)
  omega
theorem ins_skip (n : Int) : ∀ (l : List Int) (k : Nat), (∀ j, j < k → ∀ x, l[j]? = some x → x ≠ n ∧ ¬ n < x) → k ≤ l.length → ins l n = l.take k ++ ins (l.drop k) n
  | l, 0, _, _ => by simp
  | [], k + 1, _, h => by simp at h
  | y :: l, k + 1, h, hk => by
    have h0 := h 0 (by omega) y (by simp)
    have h1 := ins_skip n l k (fun j hj x hx => h (j + 1) (by omega) x (by simpa using hx)) (by simpa using hk)
    conv => lhs; unfold ins
    rw [if_neg h0.1, if_neg h0.2, h1]
    simp
theorem infoN : (Try.prog.info? 23).map (fun i => (i.zero, i.size, i.bytes)) = some (some (.int .u32 0), 1, 4) := by kernel_rfl
theorem Src.drew {w : World} {size m : Nat} {v : Value} {news : List Value} (h : Src w size v m news) : Src w.drew size v m news := h
theorem ncells_app (l k : List Int) : ncells (l ++ k) = ncells l ++ ncells k := by simp [ncells]
theorem ncells_drop (l : List Int) (k : Nat) : ncells (l.drop k) = (ncells l).drop k := by simp [ncells, List.map_drop]
def NumPost (B : Nat) (w : World) (l : List Int) (e : Ending) (w' : World) : Prop :=
  ∃ ao c, e = .returned (.slice ao l.length c) ∧ Lies (fun g => g < B) w' 1 (.slice ao l.length c) l.length (ncells l) ∧ Kept (fun _ => False) w w'
set_option maxRecDepth 100000 in
set_option maxHeartbeats 4000000 in
theorem ins_any2 {B : Nat} {w : World} {v : Value} {l : List Int} (h : Lies (fun g => g < B) w 1 v l.length (ncells l)) (hB : B ≤ w.heap.size) (hl : l.length ≤ 4294967296) (n : Int) :
    Calls Try.prog 34 #[v, .int .u32 n] w (NumPost B w (ins l n)) := by
  have HL := hid h
  obtain ⟨a1, c1, rfl, m1, m2, _⟩ := h
  unfold maxLen at m2
  go_enter Try.func34, Try.ntmps34
  go_wp2_with fail
  go_loopw [5, 10] (fun o i wr => ∃ k : Nat, k ≤ l.length ∧ i = .int .i64 k ∧ (∀ j, j < k → ∀ x, l[j]? = some x → x ≠ n ∧ ¬ n < x) ∧ Kept (fun _ => False) w wr ∧ ∃ oo oc, o = .slice oo k oc ∧ Own wr 23 1 (.slice oo k oc) k (ncells (l.take k)) ∧ (∀ g, (Value.slice oo k oc).ownBlock = some g → w.heap.size ≤ g)) (fun _ i _ => l.length - (intOf i).toNat)
  case atStart => exact ⟨0, Nat.zero_le _, rfl, fun j hj => by omega, Kept.refl _ _, none, 0, rfl, by simpa [ncells] using Own.nil _ _ _, by simp [Value.ownBlock]⟩
  case round =>
    obtain ⟨k, hk, rfl, hs, hkp, oo, oc, rfl, ho, hf⟩ := hrel
    have HK := hid hkp; have HO := hid ho; have HF := hid hf; have HSK := hid hs; clear hkp ho hf hs
    by_cases hlt : k < l.length
    · obtain ⟨g1, o1, q1, e1, n1, _, hnF, hg1, z1⟩ := HL.out.cell (by omega)
      simp only [Value.slice.injEq] at e1
      obtain ⟨rfl, _, rfl⟩ := e1
      have x0 := ncells_at l k l[k] (by simp [hlt])
      have y0 := HK.out.cell (z1 _ _ x0) id
      have htk : l.take (k + 1) = l.take k ++ [l[k]] := List.take_succ_eq_append_getElem hlt
      have hdr : l.drop k = l[k] :: l.drop (k + 1) := List.drop_eq_getElem_cons hlt
      have hsk := ins_skip n l k HSK.out (by omega)
      obtain ⟨x, hx⟩ : ∃ x, l[k] = x := ⟨_, rfl⟩
      have hkx : l[k]? = some x := by rw [← hx]; simp
      rw [hx] at y0 htk hdr
      have Z1 := hid z1; have HTK := hid htk; have HDR := hid hdr; have HS2 := hid hsk; have HKX := hid hkx
      clear x0 z1 hx htk hdr hsk hkx
      have hck : ¬ c1 = k := by omega
      by_cases hxn : x = n
      · have hxb : (x == n) = true := by simpa using hxn
        have hres : ins l n = l := by rw [HS2.out, HDR.out]; unfold ins; rw [if_pos hxn, ← HDR.out, List.take_append_drop]
        have HR := hid hres; clear hres
        go_wp2
        go_ret
        refine ⟨some ⟨g1, o1, none⟩, c1, by rw [HR.out]; rfl, ?_, HK.out⟩
        rw [HR.out]
        exact HL.out.same HK.out
      · have hxb : (x == n) = false := by simpa using hxn
        by_cases hnx : n < x
        · have hres : ins l n = l.take k ++ [n] ++ l.drop k := by rw [HS2.out, HDR.out, show ins (x :: l.drop (k + 1)) n = n :: x :: l.drop (k + 1) by rw [ins, if_neg hxn, if_pos hnx]]; simp
          have HR := hid hres; clear hres
          have hsrc : Src wr 1 (.slice (some ⟨g1, o1 + k, none⟩) (l.length - k) (c1 - k)) (l.length - k) (ncells (l.drop k)) := by
            refine src_row (by rw [ncells_len]; simp) (fun j u hu => ?_) (ncells_one _)
            rw [ncells_drop, List.getElem?_drop] at hu
            rw [Nat.add_assoc]
            exact HK.out.cell (Z1.out _ _ hu) id
          have SRC := hid hsrc; clear hsrc
          go_wp2_with fail
          go_region_law (first
            | (refine step_app rfl (.tmp 22) (.tmp 24) 47 rfl 23 (.int .u32 0) 1 4 Try.underlying47 infoN rfl (by decide) (.slice oo k oc) k (ncells (l.take k)) (by simp [Act.eval, Act.put]) (by first | exact (HO.out.alloc _).drew | exact (HO.out.drew).alloc _) (.slice (some ⟨wr.heap.size, 0, none⟩) 1 1) (by simp [Act.eval, Act.put]) 1 [.int .u32 n] (by first | exact (src_one _ rfl).drew | exact src_one _ rfl) (by unfold maxLen; omega) (by omega) ?_; intro a3 c3 w3 ho3 hk3 hf3 _; have HO3 := hid ho3; have HF3 := hid hf3; have HK3 := hid (Kept.trans' (F := fun g => w.heap.size ≤ g) (Kept.mono (HK.out.alloc _) (fun _ _ h => h.elim)) (Kept.of_drew hk3) (fun i hi => Or.inl (HF.out i hi))); have SRC3 := hid (((SRC.out.kept ((Kept.refl (fun _ => False) wr).alloc _) (fun _ _ h => h)).drew).kept hk3 (fun g hg e => by have := HF.out _ e; simp [Value.ownBlock] at hg; omega)); clear ho3 hk3 hf3)
            | (refine step_app rfl (.tmp 25) (.tmp 28) 47 rfl 23 (.int .u32 0) 1 4 Try.underlying47 infoN rfl (by decide) (.slice a3 (k + 1) c3) (k + 1) (ncells (l.take k) ++ [.int .u32 n]) (by simp [Act.eval, Act.put]) (by exact HO3.out) (.slice (some ⟨g1, o1 + k, none⟩) (l.length - k) (c1 - k)) (by simp [Act.eval, Act.put]) (l.length - k) (ncells (l.drop k)) (by exact SRC3.out) (by unfold maxLen; omega) (by omega) ?_; intro a4 c4 w4 ho4 hk4 hf4 _; have HO4 := hid ho4; have HF4 := hid hf4; have HK4 := hid hk4; clear ho4 hk4 hf4))
          all_goals
            go_wp2
            go_ret
            have ho := HO4.out
            have hlen : k + 1 + (l.length - k) = (ins l n).length := by rw [HR.out]; simp; omega
            rw [show ncells (l.take k) ++ [.int .u32 n] ++ ncells (l.drop k) = ncells (ins l n) by rw [HR.out, ncells_app, ncells_app]; rfl, hlen] at ho
            have hf := HF4.out
            rw [hlen] at hf ⊢
            have hb3 : ∀ g, (Value.slice a3 (k + 1) c3).ownBlock = some g → w.heap.size ≤ g := fun g hg => by
              rcases HF3.out g hg with h | h
              · exact HF.out g h
              · have := HK.out.size; (try simp at h); omega
            refine ⟨a4, c4, rfl, ho.lies (ncells_one _) (fun g hg hlt => ?_), ?_⟩
            · rcases hf g hg with h | h
              · have := hb3 g h; omega
              · have := HK3.out.size; (try simp at h); omega
            · exact (HK3.out.trans' HK4.out (fun i hi => .inl (hb3 i hi))).mono (fun g h1 h2 => by omega)
        · have hnx' : ¬ n < x := hnx
          go_wp2_with (at_builtin; refine wpList_app (o := ⟨some 33, _, _, _, _, _⟩) rfl (.tmp 30) (.tmp 32) 47 rfl 23 (.int .u32 0) 1 4 Try.underlying47 infoN rfl (by decide) (.slice oo k oc) k (ncells (l.take k)) (by simp [Act.eval, Act.put]) (by exact HO.out.alloc _) (.slice (some ⟨wr.heap.size, 0, none⟩) 1 1) (by simp [Act.eval, Act.put]) 1 [.int .u32 x] (by exact src_one _ rfl) (by unfold maxLen; omega) (by omega) ?_; intro a3 c3 w3 ho3 hk3 hf3 _; have HO3 := hid ho3; have HF3 := hid hf3; have HK3 := hid hk3; clear ho3 hk3 hf3)
          go_roundw
          case rel => exact ⟨k + 1, hlt, by go_num, fun j hj y hy => by
            by_cases e : j = k
            · subst e; rw [HKX.out] at hy; cases hy; exact ⟨hxn, hnx⟩
            · exact HSK.out j (by omega) y hy, Kept.trans' (F := fun _ => False) (HK.out.alloc _) HK3.out (fun i hi => Or.inr (HF.out i hi)), a3, c3, rfl, by have := HO3.out; rw [HTK.out, ncells_app]; exact this, fun g hg => by
            rcases HF3.out g hg with h | h
            · exact HF.out g h
            · have := HK.out.size; (try simp at h); omega⟩
          case measure => simp [intOf]; omega
    · obtain rfl : k = l.length := by omega
      have hres : ins l n = l ++ [n] := by
        have := ins_skip n l l.length HSK.out (Nat.le_refl _)
        rw [this, List.drop_length, List.take_length]; rfl
      have ht : l.take l.length = l := List.take_length
      have HR := hid hres; have HT := hid ht; clear hres ht
      go_wp2_with (at_builtin; refine wpList_app (o := ⟨some 38, _, _, _, _, _⟩) rfl (.tmp 35) (.tmp 37) 47 rfl 23 (.int .u32 0) 1 4 Try.underlying47 infoN rfl (by decide) (.slice oo l.length oc) l.length (ncells (l.take l.length)) (by simp [Act.eval, Act.put]) (by exact HO.out.alloc _) (.slice (some ⟨wr.heap.size, 0, none⟩) 1 1) (by simp [Act.eval, Act.put]) 1 [.int .u32 n] (by exact src_one _ rfl) (by unfold maxLen; omega) (by omega) ?_; intro a3 c3 w3 ho3 hk3 hf3 _; have HO3 := hid ho3; have HF3 := hid hf3; have HK3 := hid hk3; clear ho3 hk3 hf3)
      go_ret
      have ho := HO3.out
      have hf := HF3.out
      have hlen : l.length + 1 = (ins l n).length := by rw [HR.out]; simp
      rw [show ncells (l.take l.length) ++ [.int .u32 n] = ncells (ins l n) by rw [HR.out, HT.out, ncells_app]; rfl, hlen] at ho
      rw [hlen] at hf ⊢
      refine ⟨a3, c3, rfl, ho.lies (ncells_one _) (fun g hg hlt => ?_), Kept.trans' (F := fun _ => False) (HK.out.alloc _) HK3.out (fun i hi => Or.inr (HF.out i hi))⟩
      rcases hf g hg with h | h
      · have := HF.out g h; omega
      · have := HK.out.size; (try simp at h); omega
end Go.Proofs.Ytglcpiokmieppaa
