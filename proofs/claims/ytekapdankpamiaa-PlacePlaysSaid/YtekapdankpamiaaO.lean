/- Both directories side by side, or both nil. -/
import Derived.Test.YtekapdankpamiaaN
import Derived.Test.YtekapdankpamiaaI
namespace Go.Proofs.Ytekapdankpamiaa
open Go.RowKit
abbrev Gm := Int → Option (Int × Int)
def PS (B T : Nat) (w : World) (pd px : Option Addr) (n : Int) (g1 g2 : Gm) : Prop :=
  (pd = none ∧ px = none) ∨ ∃ db mb yb, pd = some ⟨db, 0, none⟩ ∧ px = some ⟨yb, 0, none⟩ ∧ DirAt w db mb n g1 ∧ RD w yb n g2 ∧ (0 < n ∧ n ≤ 4) ∧ Dom g1 ∧ Dom g2 ∧ (B ≤ mb ∧ mb < T) ∧ (B ≤ yb ∧ yb < T)
theorem PS.same {B T : Nat} {w w' : World} {pd px : Option Addr} {n : Int} {g1 g2 : Gm} (h : PS B T w pd px n g1 g2) (k : Kept (fun _ => False) w w') : PS B T w' pd px n g1 g2 := by
  rcases h with h | ⟨db, mb, yb, e1, e2, h1, h2, h3⟩
  · exact .inl h
  · exact .inr ⟨db, mb, yb, e1, e2, h1.kept k id id, h2.same k, h3⟩
theorem PS.mono {B T B' T' : Nat} {w : World} {pd px : Option Addr} {n : Int} {g1 g2 : Gm} (h : PS B T w pd px n g1 g2) (hB : B' ≤ B) (hT : T ≤ T') : PS B' T' w pd px n g1 g2 := by
  rcases h with h | ⟨db, mb, yb, e1, e2, h1, h2, h3, h4, h5, h6, h7⟩
  · exact .inl h
  · exact .inr ⟨db, mb, yb, e1, e2, h1, h2, h3, h4, h5, by omega, by omega⟩
theorem PS.lt {B T : Nat} {w : World} {pd px : Option Addr} {n : Int} {g1 g2 : Gm} (h : PS B T w pd px n g1 g2) : PS B w.heap.size w pd px n g1 g2 := by
  rcases h with h | ⟨db, mb, yb, e1, e2, h1, h2, h3, h4, h5, h6, h7⟩
  · exact .inl h
  · have a : mb < w.heap.size := by obtain ⟨L, hL, _⟩ := h1.map; exact hL.lt
    have b : yb < w.heap.size := by obtain ⟨v, hy, _⟩ := h2; exact row_lt hy
    exact .inr ⟨db, mb, yb, e1, e2, h1, h2, h3, h4, h5, by omega, by omega⟩
theorem mv_dom {n : Int} {g : Gm} (h : Dom g) (v tt ep : Int) : Dom (mv n g v tt ep).2 := by
  unfold mv
  split
  · exact h
  · rename_i h1
    split
    · exact h
    · have hv : num v = true := by
        unfold thr at h1
        split at h1
        · rename_i h2; exact h2.1
        · exact absurd (by decide) h1
      exact upd_dom h hv (tt, ep)
def mvA (p : Option Addr) (n : Int) (g : Gm) (v tt ep : Int) : Int × Gm := match p with | none => (nilc v, g) | some _ => mv n g v tt ep
def chkA (p : Option Addr) (n : Int) (g : Gm) (v k ep : Int) : Int := match p with | none => nilc v | some _ => chk n g v k ep
def ownA (p : Option Addr) (n : Int) (g : Gm) (v : Int) : Int × Int × Int × Int := match p with | none => (0, 0, 0, nilc v) | some _ => if num v = true then (v, (own n g v).1, (own n g v).2, 0) else (0, 0, 0, 1)
def ownV (x : Int × Int × Int × Int) : Value := .tuple #[.agg #[.int .u32 x.1, .int .u8 x.2.1, .int .u32 x.2.2.1], .int .i64 x.2.2.2]
def In (B T : Nat) (i : Nat) : Prop := B ≤ i ∧ i < T
section
variable {B T : Nat} {w : World} {pd px : Option Addr} {n : Int} {g1 g2 : Gm}
theorem db_ne {db mb yb : Nat} (h1 : DirAt w db mb n g1) (h2 : RD w yb n g2) : db ≠ yb ∧ mb ≠ yb := by
  obtain ⟨v, hy, _⟩ := h2
  refine ⟨fun e => ?_, fun e => ?_⟩
  · have := h1.obj
    rw [e, hy] at this
    simp at this
  · obtain ⟨L, hL, _⟩ := h1.map
    obtain ⟨_, _, h, _⟩ := hL
    rw [e] at h
    simp_all
theorem ps_move (h : PS B T w pd px n g1 g2) (v tt ep : Int) (ht : 0 ≤ tt ∧ tt ≤ 255) :
    Calls Try.prog 9 #[.pointer pd, .int .u32 v, .int .u8 tt, .int .u32 ep] w fun e w' =>
      e = .returned (.int .i64 (mvA pd n g1 v tt ep).1) ∧ PS B T w' pd px n (mvA pd n g1 v tt ep).2 g2 ∧ Kept (In B T) w w' := by
  rcases h with ⟨rfl, rfl⟩ | ⟨db, mb, yb, rfl, rfl, h1, h2, h3, h4, h5, h6, h7⟩
  · refine (move_nil v tt ep w).mono ?_
    rintro e w' ⟨rfl, rfl⟩
    exact ⟨rfl, .inl ⟨rfl, rfl⟩, Kept.refl _ _⟩
  · refine (move_any v tt ep w h1 h3 ht).mono ?_
    rintro e w' ⟨rfl, hd, hk⟩
    have hne := db_ne h1 h2
    obtain ⟨L, hL, _⟩ := h1.map
    refine ⟨rfl, .inr ⟨db, mb, yb, rfl, rfl, hd, h2.kept hk (fun e => hne.2 e.symm) (fun b cur hb e => ?_), h3, mv_dom h4 v tt ep, h5, h6, h7⟩, hk.mono (fun i _ e => by show B ≤ i ∧ i < T; omega)⟩
    obtain ⟨_, _, h, _⟩ := hL
    rw [e] at hb
    simp_all
theorem ps_docmove (h : PS B T w pd px n g1 g2) (v tt ep : Int) (hv : 0 ≤ v ∧ v ≤ 4294967295) (ht : 0 ≤ tt ∧ tt ≤ 255) :
    Calls Try.prog 18 #[.pointer px, .int .u32 v, .int .u8 tt, .int .u32 ep] w fun e w' =>
      e = .returned (.int .i64 (mvA pd n g2 v tt ep).1) ∧ PS B T w' pd px n g1 (mvA pd n g2 v tt ep).2 ∧ Kept (In B T) w w' := by
  rcases h with ⟨rfl, rfl⟩ | ⟨db, mb, yb, rfl, rfl, h1, h2, h3, h4, h5, h6, h7⟩
  · refine (docmove_nil v tt ep w hv ht).mono ?_
    rintro e w' ⟨rfl, rfl⟩
    exact ⟨rfl, .inl ⟨rfl, rfl⟩, Kept.refl _ _⟩
  · refine (docmove_any h2 h5 h3 v tt ep hv ht).mono ?_
    rintro e w' ⟨rfl, hd, hk⟩
    have hne := db_ne h1 h2
    exact ⟨rfl, .inr ⟨db, mb, yb, rfl, rfl, h1.kept hk (by omega) (by omega), hd, h3, h4, mv_dom h5 v tt ep, h6, h7⟩, hk.mono (fun i _ e => by show B ≤ i ∧ i < T; omega)⟩
theorem ps_check (h : PS B T w pd px n g1 g2) (v k ep : Int) (ht : 0 ≤ k ∧ k ≤ 255) :
    Calls Try.prog 11 #[.pointer pd, .int .u32 v, .int .u8 k, .int .u32 ep] w fun e w' =>
      e = .returned (.int .i64 (chkA pd n g1 v k ep)) ∧ Kept (fun _ => False) w w' := by
  rcases h with ⟨rfl, rfl⟩ | ⟨db, mb, yb, rfl, rfl, h1, h2, h3, h4, h5, h6, h7⟩
  · refine (check_nil v k ep w).mono ?_
    rintro e w' ⟨rfl, rfl⟩
    exact ⟨rfl, Kept.refl _ _⟩
  · refine (check_any v k ep w h1 h3 ht).mono ?_
    rintro e w' ⟨rfl, hk⟩
    exact ⟨rfl, Kept.of_below hk _⟩
theorem ps_doccheck (h : PS B T w pd px n g1 g2) (v k ep : Int) (hv : 0 ≤ v ∧ v ≤ 4294967295) (ht : 0 ≤ k ∧ k ≤ 255) :
    Calls Try.prog 19 #[.pointer px, .int .u32 v, .int .u8 k, .int .u32 ep] w fun e w' =>
      e = .returned (.int .i64 (chkA pd n g2 v k ep)) ∧ Kept (fun _ => False) w w' := by
  rcases h with ⟨rfl, rfl⟩ | ⟨db, mb, yb, rfl, rfl, h1, h2, h3, h4, h5, h6, h7⟩
  · refine (doccheck_nil v k ep w hv ht).mono ?_
    rintro e w' ⟨rfl, rfl⟩
    exact ⟨rfl, Kept.refl _ _⟩
  · exact doccheck_any h2 h5 h3 v k ep hv ht
theorem ps_owner (h : PS B T w pd px n g1 g2) (v : Int) (hv : 0 ≤ v ∧ v ≤ 4294967295) :
    Calls Try.prog 10 #[.pointer pd, .int .u32 v] w fun e w' =>
      e = .returned (ownV (ownA pd n g1 v)) ∧ Kept (fun _ => False) w w' := by
  rcases h with ⟨rfl, rfl⟩ | ⟨db, mb, yb, rfl, rfl, h1, h2, h3, h4, h5, h6, h7⟩
  · exact owner_nil v w
  · refine (owner_any v w h1 h3 hv).mono ?_
    rintro e w' ⟨rfl, hk⟩
    refine ⟨?_, Kept.of_below hk _⟩
    simp only [ownA, ownV]
    split <;> simp [ent]
theorem ps_docowner (h : PS B T w pd px n g1 g2) (v : Int) (hv : 0 ≤ v ∧ v ≤ 4294967295) :
    Calls Try.prog 20 #[.pointer px, .int .u32 v] w fun e w' =>
      e = .returned (ownV (ownA pd n g2 v)) ∧ Kept (fun _ => False) w w' := by
  rcases h with ⟨rfl, rfl⟩ | ⟨db, mb, yb, rfl, rfl, h1, h2, h3, h4, h5, h6, h7⟩
  · exact docowner_nil v w hv
  · refine (docowner_any h2 h5 h3 v hv).mono ?_
    rintro e w' ⟨rfl, hk⟩
    refine ⟨?_, hk⟩
    simp only [ownA, ownV]
    split <;> simp [ent]
end
end Go.Proofs.Ytekapdankpamiaa
