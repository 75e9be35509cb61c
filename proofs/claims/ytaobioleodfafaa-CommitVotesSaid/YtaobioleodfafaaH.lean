/- awake. -/
import Derived.Test.YtaobioleodfafaaG
namespace Go.Proofs.Ytaobioleodfafaa
open Go.RowKit
/-- the book with its one run, and the block that holds the TxID -/
structure St (B U : Nat) (w : World) (bb m1 rb mp tb : Nat) (ns : List Int) (pb : Int → Nat) (Y : Int → Bool) (st : Int) : Prop where
  book : ∃ T B' T', BookAt B T w bb m1 [((0, 0, 1), ptr rb)] ∧ RunAt B' T' w rb mp ns pb Y st ∧ T ≤ B' ∧ B ≤ B' ∧ tb < B' ∧ T' ≤ U
  tx : w.heap[tb]? = some (.cells #[.int .u8 0, .int .u32 0, .int .u32 1] 28 (0, 0))
section
variable {B U : Nat} {w : World} {bb m1 rb mp tb : Nat} {ns : List Int} {pb : Int → Nat} {Y : Int → Bool} {st : Int}
theorem St.same {w' : World} (h : St B U w bb m1 rb mp tb ns pb Y st) (k : Kept (fun _ => False) w w') : St B U w' bb m1 rb mp tb ns pb Y st := by
  obtain ⟨⟨T, B', T', h1, h2, h3, h4, h5, h6⟩, h7⟩ := h
  exact ⟨⟨T, B', T', h1.same k, h2.same k, h3, h4, h5, h6⟩, (k.block _ (row_lt h7) id).trans h7⟩
theorem St.kept {w' : World} {F : Nat → Prop} (h : St B U w bb m1 rb mp tb ns pb Y st) (k : Kept F w w') (hF : ∀ i, i < U → ¬ F i) : St B U w' bb m1 rb mp tb ns pb Y st := by
  obtain ⟨⟨T, B', T', h1, h2, h3, h4, h5, h6⟩, h7⟩ := h
  have hin := h2.inn.1
  unfold In at hin
  exact ⟨⟨T, B', T', h1.kept k (fun i hi => hF i (by unfold In at hi; omega)), h2.kept k (fun i hi => hF i (by unfold In at hi; omega)), h3, h4, h5, h6⟩, (k.block _ (row_lt h7) (hF tb (by omega))).trans h7⟩
theorem St.vote (h : St B U w bb m1 rb mp tb ns pb Y st) {x : Int} (hx : x ∈ ns) (yes : Bool) :
    Calls Try.prog 10 #[.pointer (some ⟨bb, 0, none⟩), .agg #[.int .u8 0, .int .u32 0, .int .u32 1], .int .u8 x, .bool yes] w fun e w' => e = .returned (.tuple #[.int .i64 (vt ns Y st x yes).1, .int .i64 (vt ns Y st x yes).2.1]) ∧
      St B U w' bb m1 rb mp tb ns pb (vt ns Y st x yes).2.2.2 (vt ns Y st x yes).2.2.1 ∧ Kept (fun i => B ≤ i ∧ i ≠ tb ∧ i < U) w w' := by
  obtain ⟨⟨T, B', T', h1, h2, h3, h4, h5, h6⟩, h7⟩ := h
  refine (vote_any h1 h2 h3 hx yes).mono ?_
  rintro e w' ⟨rfl, hb, hr, hk⟩
  exact ⟨rfl, ⟨⟨T, B', T', hb, hr, h3, h4, h5, h6⟩, (hk.block _ (row_lt h7) (fun h => by unfold In at h; omega)).trans h7⟩, hk.mono (fun i _ hi => by unfold In at hi; exact ⟨by omega, by omega, by omega⟩)⟩
theorem St.commit (h : St B U w bb m1 rb mp tb ns pb Y st) :
    Calls Try.prog 11 #[.pointer (some ⟨bb, 0, none⟩), .agg #[.int .u8 0, .int .u32 0, .int .u32 1]] w fun e w' => e = .returned (.int .i64 (cm ns Y st).1) ∧
      St B U w' bb m1 rb mp tb ns pb Y (cm ns Y st).2 ∧ Kept (fun i => B ≤ i ∧ i ≠ tb ∧ i < U) w w' := by
  obtain ⟨⟨T, B', T', h1, h2, h3, h4, h5, h6⟩, h7⟩ := h
  refine (commit_any h1 h2 h3).mono ?_
  rintro e w' ⟨rfl, hb, hr, hk⟩
  exact ⟨rfl, ⟨⟨T, B', T', hb, hr, h3, h4, h5, h6⟩, (hk.block _ (row_lt h7) (fun h => by unfold In at h; omega)).trans h7⟩, hk.mono (fun i _ hi => by unfold In at hi; exact ⟨by omega, by omega, by omega⟩)⟩
theorem St.runs (h : St B U w bb m1 rb mp tb ns pb Y st) :
    Calls Try.prog 13 #[.pointer (some ⟨bb, 0, none⟩), .agg #[.int .u8 0, .int .u32 0, .int .u32 1]] w fun e w' => e = .returned (.int .i64 st) ∧ Kept (fun _ => False) w w' := by
  obtain ⟨⟨T, B', T', h1, h2, _⟩, _⟩ := h
  exact runs_any h1 h2
theorem St.owing (h : St B U w bb m1 rb mp tb ns pb Y 3) (hn : ns.length ≤ 4) :
    Calls Try.prog 16 #[.pointer (some ⟨bb, 0, none⟩), .agg #[.int .u8 0, .int .u32 0, .int .u32 1]] w fun e w' => (∃ a c, e = .returned (.slice a ns.length c)) ∧ Kept (fun _ => False) w w' := by
  obtain ⟨⟨T, B', T', h1, h2, _⟩, _⟩ := h
  exact owing_len h1 h2 hn
theorem St.cells (h : St B U w bb m1 rb mp tb ns pb Y st) : w.cell? ⟨tb, 0, none⟩ = some (.int .u8 0) ∧ w.cell? ⟨tb, 1, none⟩ = some (.int .u32 0) ∧ w.cell? ⟨tb, 2, none⟩ = some (.int .u32 1) := cells3 h.tx
end
set_option maxHeartbeats 400000 in
/-- Begin of (0, 0, 1) -/
theorem st_begin {B T : Nat} {w : World} {F : Nat → Prop} {bb m1 tb : Nat} (hb : BookAt B T w bb m1 []) (hT : T ≤ w.heap.size) (ht : w.heap[tb]? = some (.cells #[.int .u8 0, .int .u32 0, .int .u32 1] 28 (0, 0))) {a : Option Addr} {N c : Nat} {ns : List Int} (hl : Lies F w 1 (.slice a N c) N (bcells ns)) (h4 : 1 ≤ N ∧ N ≤ 4) (hn : ns.Nodup) (hr : ∀ v ∈ ns, 0 ≤ v ∧ v < 4) :
    Calls Try.prog 9 #[.pointer (some ⟨bb, 0, none⟩), .agg #[.int .u8 0, .int .u32 0, .int .u32 1], .slice a N c] w fun e w' => e = .returned (.int .i64 0) ∧ (∃ rb mp pb, St B w'.heap.size w' bb m1 rb mp tb ns pb (fun _ => false) 1) ∧ Kept (fun i => B ≤ i ∧ i ≠ tb ∧ i < w.heap.size) w w' := by
  have hne : m1 ≠ tb := fun e => by
    obtain ⟨es, cl, hm, _⟩ := hb.map
    rw [e, ht] at hm
    simp at hm
  have hin := hb.inn
  unfold In at hin
  refine (begin_any hb (0, 0, 1) hl h4 hn hr).mono ?_
  rintro e w' ⟨rfl, ⟨rb, mp, pb, h1, h2⟩, hk⟩
  exact ⟨rfl, ⟨rb, mp, pb, ⟨⟨T, w.heap.size, w'.heap.size, h1, h2, hT, by omega, row_lt ht, Nat.le_refl _⟩, (hk.block _ (row_lt ht) (fun e => hne e.symm)).trans ht⟩⟩, hk.mono (fun i _ e => ⟨by omega, by omega, by omega⟩)⟩
set_option maxRecDepth 100000 in
set_option maxHeartbeats 1000000 in
theorem awake_any (w : World) :
    Calls Try.prog 7 #[] w fun e w' => e = .returned (.bool true) ∧ Below w.heap.size w w' := by
  go_enter Try.func7, Try.ntmps7
  go_wp2_with fail
  refine (new_any _).mono ?_; rintro e w1 ⟨rfl, hb1, hk1⟩
  simp only [ptr]
  have HB1 := hid hb1; have K1 := hid hk1
  have hz : w.heap.size + 2 < w1.heap.size := by obtain ⟨m2, h⟩ := hb1.obj; exact row_lt h
  clear hb1 hk1
  obtain ⟨bb, hbb⟩ : ∃ bb, w.heap.size + 2 = bb := ⟨_, rfl⟩
  rw [hbb] at HB1 hz ⊢
  have HZ := hid (show w.heap.size + 3 ≤ w1.heap.size by omega)
  clear hz hbb
  go_wp2_with fail
  have htw := two_new w1 (.cells #[.int .u8 0, .int .u32 0, .int .u32 1] 28) (.cells #[.int .u8 0, .int .u8 2] 5)
  have hk2 := (((Kept.refl (fun _ => False) w1).alloc (.cells #[.int .u8 0, .int .u32 0, .int .u32 1] 28)).alloc (.cells #[.int .u8 0, .int .u8 2] 5))
  obtain ⟨w2, hw2⟩ : ∃ w2, (w1.alloc (.cells #[.int .u8 0, .int .u32 0, .int .u32 1] 28)).alloc (.cells #[.int .u8 0, .int .u8 2] 5) = w2 := ⟨_, rfl⟩
  rw [hw2] at htw hk2 ⊢
  obtain ⟨tb, htb⟩ : ∃ tb, w1.heap.size = tb := ⟨_, rfl⟩
  rw [htb] at htw HZ ⊢
  have HTW := hid htw; have HB2 := hid (HB1.out.same hk2); have K2 := hid (K1.out.trans hk2)
  have hz2 : w.heap.size + 3 ≤ w2.heap.size := by have := row_lt htw.1; have := HZ.out; omega
  have hls : Lies (fun _ => False) w2 1 (.slice (some ⟨tb + 1, 0, none⟩) 2 2) 2 (bcells [0, 2]) := (Own.mk (n := 2) htw.2 (Nat.le_refl _) (by decide) rfl).lies (by simp [Value.oneCell']) (fun _ _ => id)
  have HLS := hid hls; have HZ2 := hid hz2
  clear htw hk2 hls hz2 hw2 htb HB1 K1
  refine (st_begin HB2.out HZ2.out HTW.out.1 HLS.out (by omega) (by decide) (by decide)).mono ?_
  rintro e w3 ⟨rfl, ⟨rb, mp, pb, hst⟩, hk⟩
  have S3 := hid hst
  have K3 := hid (K2.out.trans' hk (fun i h => .inr h.1))
  obtain ⟨d0, d1, d2⟩ := S3.out.cells
  clear hst hk HTW HB2 HLS HZ2 K2 HZ
  have v1 : vt [0, 2] (fun _ => false) 1 0 true = (1, 0, 1, setY (fun _ => false) 0) := by simp [vt, setY]
  have v2 : cm [0, 2] (setY (fun _ => false) 0) 1 = (9, 1) := by simp [cm, setY]
  have v3 : vt [0, 2] (setY (fun _ => false) 0) 1 2 true = (3, 0, 1, setY (setY (fun _ => false) 0) 2) := by simp [vt, setY]
  have v4 : cm [0, 2] (setY (setY (fun _ => false) 0) 2) 1 = (0, 3) := by simp [cm, setY]
  obtain ⟨Y1, hY1⟩ : ∃ Y, setY (fun _ => false) 0 = Y := ⟨_, rfl⟩
  rw [hY1] at v1 v2 v3 v4
  obtain ⟨Y2, hY2⟩ : ∃ Y, setY Y1 2 = Y := ⟨_, rfl⟩
  rw [hY2] at v3 v4
  have V1 := hid v1; have V2 := hid v2; have V3 := hid v3; have V4 := hid v4
  clear v1 v2 v3 v4 hY1 hY2
  go_wp2_with fail
  refine (S3.out.vote (x := 0) (by decide) true).mono ?_
  rintro e w4 ⟨rfl, hst, hk⟩
  rw [V1.out] at hst ⊢
  have S4 := hid hst; have K4 := hid (K3.out.trans' hk (fun i h => .inr h.1))
  obtain ⟨d0, d1, d2⟩ := S4.out.cells
  clear hst hk S3 K3
  go_wp2_with fail
  refine (S4.out.commit).mono ?_
  rintro e w5 ⟨rfl, hst, hk⟩
  rw [V2.out] at hst ⊢
  have S5 := hid hst; have K5 := hid (K4.out.trans' hk (fun i h => .inr h.1))
  obtain ⟨d0, d1, d2⟩ := S5.out.cells
  clear hst hk S4 K4
  go_wp2_with fail
  refine (S5.out.vote (x := 2) (by decide) true).mono ?_
  rintro e w6 ⟨rfl, hst, hk⟩
  rw [V3.out] at hst ⊢
  have S6 := hid hst; have K6 := hid (K5.out.trans' hk (fun i h => .inr h.1))
  obtain ⟨d0, d1, d2⟩ := S6.out.cells
  clear hst hk S5 K5
  go_wp2_with fail
  refine (S6.out.commit).mono ?_
  rintro e w7 ⟨rfl, hst, hk⟩
  rw [V4.out] at hst ⊢
  have S7 := hid hst; have K7 := hid (K6.out.trans' hk (fun i h => .inr h.1))
  obtain ⟨d0, d1, d2⟩ := S7.out.cells
  clear hst hk S6 K6
  go_wp2_with fail
  refine (S7.out.runs).mono ?_
  rintro e w8 ⟨rfl, hk⟩
  have S8 := hid (S7.out.same hk); have K8 := hid (K7.out.trans hk)
  obtain ⟨d0, d1, d2⟩ := S8.out.cells
  clear hk S7 K7
  go_wp2_with fail
  refine (S8.out.owing (by decide)).mono ?_
  rintro e w9 ⟨⟨a, c, rfl⟩, hk⟩
  have K9 := hid (K8.out.trans hk)
  clear hk S8 K8
  go_wp2
  go_ret
  exact ⟨rfl, K9.out.below (Nat.le_refl _) (fun _ h => h.elim)⟩
end Go.Proofs.Ytaobioleodfafaa
