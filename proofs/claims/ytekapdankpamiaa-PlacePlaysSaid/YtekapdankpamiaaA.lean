/- The directory's functions, each by its contract. -/
import Derived.Test.YtekapdankpamiaaMap
namespace Go.Proofs.Ytekapdankpamiaa
open Go.RowKit

/-- an entry as a value -/
def ent (v : Int) (p : Int × Int) : Value := .agg #[.int .u32 v, .int .u8 p.1, .int .u32 p.2]

/-- Block db is a directory of n nodes whose moved vertices are those of g; its map is block mb. -/
structure DirAt (w : World) (db mb : Nat) (n : Int) (g : Int → Option (Int × Int)) : Prop where
  obj : w.heap[db]? = some (.cells #[.int .i64 n, .map (some mb)] 52 (0, 0))
  map : ∃ L, MapIs w mb .u32 L ∧ ∀ v, look L v = (g v).map (ent v)

theorem DirAt.kept {w w' : World} {db mb : Nat} {n : Int} {g : Int → Option (Int × Int)} {F : Nat → Prop} (h : DirAt w db mb n g) (k : Kept F w w') (h1 : ¬ F db) (h2 : ¬ F mb) : DirAt w' db mb n g := by
  obtain ⟨h3, L, h4, h5⟩ := h
  exact ⟨(k.block _ (row_lt h3) h1).trans h3, L, h4.of_block (k.block _ h4.lt h2), h5⟩
theorem DirAt.alloc {w : World} {db mb : Nat} {n : Int} {g : Int → Option (Int × Int)} (h : DirAt w db mb n g) (o : Obj) : DirAt (w.alloc o) db mb n g :=
  h.kept (F := fun _ => False) ((Kept.refl _ _).alloc o) id id

def num (v : Int) : Bool := decide (1 ≤ v ∧ v ≤ 40)
def thr (n v k : Int) : Int := if num v = true ∧ k < n then 0 else 1
/-- who owns it, since which epoch -/
def own (n : Int) (g : Int → Option (Int × Int)) (v : Int) : Int × Int := (g v).getD (v % n, 0)

set_option maxHeartbeats 400000 in
theorem number_any (v : Int) (w : World) : Calls Try.prog 17 #[.int .u32 v] w fun e w' => e = .returned (.bool (num v)) ∧ w = w' := by
  go_enter Try.func17, Try.ntmps17
  go_wp2
  all_goals (go_ret; exact ⟨ret_bool (by simp_all [num]; try omega), rfl⟩)

set_option maxHeartbeats 400000 in
theorem there_any {db mb : Nat} {n : Int} {g : Int → Option (Int × Int)} (v k : Int) (w : World) (h : DirAt w db mb n g) (hn : 0 < n ∧ n ≤ 4) (hk : 0 ≤ k ∧ k ≤ 255) :
    Calls Try.prog 16 #[.pointer (some ⟨db, 0, none⟩), .int .u32 v, .int .u8 k] w fun e w' => e = .returned (.int .i64 (thr n v k)) ∧ w = w' := by
  have c0 := row_cell h.obj 0
  simp at c0
  go_enter Try.func16, Try.ntmps16
  go_wp2_with fail
  refine (number_any _ _).mono ?_; rintro e w' ⟨rfl, rfl⟩
  by_cases hv : num v = true
  · by_cases hkn : k < n
    · go_wp2
      go_ret
      exact ⟨ret_int (by simp [thr, hv, hkn]), rfl⟩
    · go_wp2
      go_ret
      exact ⟨ret_int (by simp [thr, hkn]), rfl⟩
  · have hv' : num v = false := by simpa using hv
    go_wp2
    go_ret
    exact ⟨ret_int (by simp [thr, hv]), rfl⟩

theorem DirAt.look_some {w : World} {db mb : Nat} {n : Int} {g : Int → Option (Int × Int)} (h : DirAt w db mb n g) {v : Int} {p : Int × Int} (hg : g v = some p) :
    (Instr.lookup 50 (.map (some mb)) (.int .u32 v) true).run Try.prog w = .ok (.tuple #[ent v p, .bool true]) w := by
  obtain ⟨_, L, h1, h2⟩ := h
  exact h1.run_look_some Try.underlying50 Try.underlying23 (v := ent v p) (by rw [h2, hg]; rfl) true
theorem DirAt.look_none {w : World} {db mb : Nat} {n : Int} {g : Int → Option (Int × Int)} (h : DirAt w db mb n g) {v : Int} (hg : g v = none) :
    (Instr.lookup 50 (.map (some mb)) (.int .u32 v) true).run Try.prog w = .ok (.tuple #[.agg #[.int .u32 0, .int .u8 0, .int .u32 0], .bool false]) w := by
  obtain ⟨_, L, h1, h2⟩ := h
  exact h1.run_look_none Try.underlying50 Try.underlying23 (by kernel_rfl) (by rw [h2, hg]; rfl) true

set_option maxRecDepth 100000 in
set_option maxHeartbeats 1000000 in
theorem owner_any {db mb : Nat} {n : Int} {g : Int → Option (Int × Int)} (v : Int) (w : World) (h : DirAt w db mb n g) (hn : 0 < n ∧ n ≤ 4) (hv : 0 ≤ v ∧ v ≤ 4294967295) :
    Calls Try.prog 10 #[.pointer (some ⟨db, 0, none⟩), .int .u32 v] w fun e w' =>
      e = .returned (.tuple (if num v = true then #[ent v (own n g v), .int .i64 0] else #[ent 0 (0, 0), .int .i64 1])) ∧ Below w.heap.size w w' := by
  have hlt := row_lt h.obj
  obtain ⟨n0, n4⟩ := hn
  have m0 : 0 ≤ v % n := Int.emod_nonneg _ (by omega)
  have m1 : v % n < 4 := by have := Int.emod_lt_of_pos v n0; omega
  have c0 : ∀ o, (w.alloc o).cell? ⟨db, 0, none⟩ = some (.int .i64 n) := fun o => by rw [World.cell?_alloc_lt _ _ _ hlt, row_cell h.obj]; rfl
  have c1 : ∀ o, (w.alloc o).cell? ⟨db, 1, none⟩ = some (.map (some mb)) := fun o => by rw [World.cell?_alloc_lt _ _ _ hlt, row_cell h.obj]; rfl
  by_cases hnv : num v = true
  · cases hg : g v with
    | none =>
      have hl : ∀ o, (Instr.lookup 50 (.map (some mb)) (.int .u32 v) true).run Try.prog (w.alloc o) = _ := fun o => (h.alloc o).look_none hg
      have HG := hid hg
      clear hg h
      go_enter Try.func10, Try.ntmps10
      go_wp2_with fail
      refine (number_any _ _).mono ?_; rintro e w' ⟨rfl, rfl⟩
      go_wp2
      go_returns
      exact ⟨by simp [own, HG.out, ent, hnv], by go_grown⟩
    | some p =>
      obtain ⟨p1, p2⟩ := p
      have hl : ∀ o, (Instr.lookup 50 (.map (some mb)) (.int .u32 v) true).run Try.prog (w.alloc o) = _ := fun o => (h.alloc o).look_some hg
      have HG := hid hg
      clear hg h
      go_enter Try.func10, Try.ntmps10
      go_wp2_with fail
      refine (number_any _ _).mono ?_; rintro e w' ⟨rfl, rfl⟩
      unfold ent at hl
      go_wp2
      go_returns
      exact ⟨by simp [own, HG.out, ent, hnv], by go_grown⟩
  · have hnv' : num v = false := by simpa using hnv
    clear h
    go_enter Try.func10, Try.ntmps10
    go_wp2_with fail
    refine (number_any _ _).mono ?_; rintro e w' ⟨rfl, rfl⟩
    go_wp2
    go_returns
    exact ⟨by simp [ent, hnv'], by go_grown⟩

theorem owner_yes {db mb : Nat} {n : Int} {g : Int → Option (Int × Int)} (v : Int) (w : World) (h : DirAt w db mb n g) (hn : 0 < n ∧ n ≤ 4) (hv : num v = true) {o ep : Int} (ho : own n g v = (o, ep)) :
    Calls Try.prog 10 #[.pointer (some ⟨db, 0, none⟩), .int .u32 v] w fun e w' =>
      e = .returned (.tuple #[.agg #[.int .u32 v, .int .u8 o, .int .u32 ep], .int .i64 0]) ∧ Below w.heap.size w w' := by
  have hv' : 1 ≤ v ∧ v ≤ 40 := by simpa [num] using hv
  refine (owner_any v w h hn ⟨by omega, by omega⟩).mono fun e w' ⟨h1, h2⟩ => ⟨?_, h2⟩
  rw [h1, ho]
  simp [hv, ent]

def mv (n : Int) (g : Int → Option (Int × Int)) (v to ep : Int) : Int × (Int → Option (Int × Int)) :=
  if thr n v to ≠ 0 then (thr n v to, g) else if ep ≤ (own n g v).2 then (15, g) else (0, fun x => if x = v then some (to, ep) else g x)

set_option maxRecDepth 100000 in
set_option maxHeartbeats 1000000 in
theorem move_any {db mb : Nat} {n : Int} {g : Int → Option (Int × Int)} (v to ep : Int) (w : World) (h : DirAt w db mb n g) (hn : 0 < n ∧ n ≤ 4) (hk : 0 ≤ to ∧ to ≤ 255) :
    Calls Try.prog 9 #[.pointer (some ⟨db, 0, none⟩), .int .u32 v, .int .u8 to, .int .u32 ep] w fun e w' =>
      e = .returned (.int .i64 (mv n g v to ep).1) ∧ DirAt w' db mb n (mv n g v to ep).2 ∧ Kept (· = mb) w w' := by
  have H := hid h
  have HN := hid hn; clear hn
  have HK := hid hk; clear hk
  have hob := h.obj
  have hdb := row_lt hob
  have HO := hid hob; clear hob h
  by_cases ht : thr n v to = 0
  · have hnum : num v = true := by
      unfold thr at ht; split at ht
      · rename_i hh; exact hh.1
      · cases ht
    obtain ⟨o, e0, ho⟩ : ∃ o e, own n g v = (o, e) := ⟨_, _, rfl⟩
    have HT := hid ht
    have HV := hid hnum
    have HW := hid ho
    clear hnum ho
    go_enter Try.func9, Try.ntmps9
    go_wp2_with fail
    refine (there_any _ _ _ H.out HN.out HK.out).mono ?_; rintro e w' ⟨rfl, rfl⟩
    go_wp2_with fail
    refine (owner_yes _ _ H.out HN.out HV.out HW.out).mono ?_; rintro e w1 ⟨rfl, hb⟩
    clear ht
    have hd1 : DirAt w1 db mb n g := H.out.kept (F := fun _ => False) (Kept.of_below hb _) id id
    have hk1 : Kept (· = mb) w w1 := Kept.of_below hb _
    have hsz := hb.size
    have HB := hid hb; clear hb
    by_cases hle : ep ≤ e0
    · clear hd1
      go_wp2
      go_ret
      refine ⟨ret_int (by simp [mv, HT.out, HW.out, hle]), ?_, hk1.alloc _⟩
      have : mv n g v to ep = (15, g) := by simp [mv, HT.out, HW.out, hle]
      rw [this]
      exact H.out.kept (F := fun _ => False) ((Kept.of_below HB.out _).alloc _) id id
    · have hd2 := hd1.alloc (.cells #[.int .u32 v, .int .u8 o, .int .u32 e0] 33)
      obtain ⟨L, hL, hg⟩ := hd2.map
      obtain ⟨es, clock, hrun, hmap⟩ := hL.run_lay Try.underlying50 Try.underlying23 v (.agg #[.int .u32 v, .int .u8 to, .int .u32 ep])
      have c1 : (w1.alloc (.cells #[.int .u32 v, .int .u8 o, .int .u32 e0] 33)).cell? ⟨db, 1, none⟩ = some (.map (some mb)) := by rw [row_cell hd2.obj]; rfl
      have HM := hid hmap; clear hmap
      have HD2 := hid hd2; clear hd2 hd1 hL
      have HG := hid hg; clear hg
      have hlt : e0 < ep := by omega
      have HRUN := hid hrun; clear hrun
      have hne : db ≠ mb := by
        rintro rfl
        obtain ⟨_, _, q, _⟩ := HM.out
        have q2 := HD2.out.obj
        obtain ⟨L2, ⟨_, _, q3, _⟩, _⟩ := HD2.out.map
        rw [q2] at q3; cases q3
      obtain ⟨es0, clock0, hmb⟩ : ∃ es clock, (w1.alloc (.cells #[.int .u32 v, .int .u8 o, .int .u32 e0] 33)).heap[mb]? = some (.map es clock) := by
        obtain ⟨L2, ⟨es, clock, q3, _⟩, _⟩ := HD2.out.map
        exact ⟨es, clock, q3⟩
      have hrun := HRUN.out
      go_wp2
      go_ret
      refine ⟨ret_int ?_, ?_, ?_⟩
      · have : ¬ ep ≤ e0 := by omega
        simp [mv, HT.out, HW.out, this]
      · have : mv n g v to ep = (0, fun x => if x = v then some (to, ep) else g x) := by
          have : ¬ ep ≤ e0 := by omega
          simp [mv, HT.out, HW.out, this]
        rw [this]
        refine ⟨?_, _, HM.out, fun x => ?_⟩
        · rw [ChangeMaps.heap_setBlock_other (by exact hmb) _ hne]; exact HD2.out.obj
        · rw [look_lay]
          by_cases hx : x = v
          · subst hx; simp [ent]
          · simp [hx, HG.out]
      · exact (hk1.alloc _).setBlock _ (.inl rfl)
  · have ht' : (thr n v to != 0) = true := by simpa using ht
    have HT := hid ht; clear ht
    go_enter Try.func9, Try.ntmps9
    go_wp2_with fail
    refine (there_any _ _ _ H.out HN.out HK.out).mono ?_; rintro e w' ⟨rfl, rfl⟩
    go_wp2
    go_ret
    refine ⟨ret_int (by simp [mv, HT.out]), ?_, Kept.refl _ _⟩
    have : (mv n g v to ep).2 = g := by simp [mv, HT.out]
    rw [this]
    exact H.out
end Go.Proofs.Ytekapdankpamiaa
