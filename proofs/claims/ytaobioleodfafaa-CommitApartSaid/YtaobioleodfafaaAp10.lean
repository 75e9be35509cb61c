/- Texts of this claim, merged: D, E, F, K, L, M, N, O, SrtB, SrtC, SrtD, SrtE, SrtF. -/
import Derived.Test.YtaobioleodfafaaAp1
import Derived.Test.YtaobioleodfafaaAp2
import Derived.Test.YtaobioleodfafaaAp3
import Derived.Test.YtaobioleodfafaaAp4
import Derived.Test.YtaobioleodfafaaAp5
import Derived.Test.YtaobioleodfafaaAp6
import Derived.Test.YtaobioleodfafaaAp7
import Derived.Test.YtaobioleodfafaaAp8
import Derived.Test.YtaobioleodfafaaAp9
/- at, all, voted. -/
namespace Go.Proofs.Ytaobioleodfafaa
open Go.RowKit
def txc (t : Tx) : Array Value := #[.int .u8 t.1, .int .u32 t.2.1, .int .u32 t.2.2]
theorem BookAt.facts {B T : Nat} {w : World} {bb m1 rb : Nat} {t1 t2 t3 : Int} (h : BookAt B T w bb m1 [((t1, t2, t3), ptr rb)]) :
    w.cell? ⟨bb, 0, none⟩ = some (.map (some m1)) ∧ (∀ q, (Instr.lookup 51 (.map (some m1)) (.agg #[.int .u8 t1, .int .u32 t2, .int .u32 t3]) false).run Try.prog (w.drewN q) = .ok (.pointer (some ⟨rb, 0, none⟩)) (w.drewN q)) := by
  obtain ⟨m2, hb⟩ := h.obj
  refine ⟨by rw [row_cell hb]; rfl, fun q => ?_⟩
  exact (h.same (kept_drewN (F := fun _ => False) w q)).map.run_look_some Try.underlying51 (k := (t1, t2, t3)) (v := ptr rb) (by simp [lookT]) false
theorem RunAt.facts {B T : Nat} {w : World} {rb mp : Nat} {ns : List Int} {pb : Int → Nat} {Y : Int → Bool} {st : Int} (h : RunAt B T w rb mp ns pb Y st) :
    w.cell? ⟨rb, 0, none⟩ = some (.map (some mp)) ∧ w.cell? ⟨rb, 1, none⟩ = some (.int .i64 st) ∧ w.frozen? ⟨rb, 1, none⟩ = false := ⟨by rw [row_cell h.obj]; rfl, by rw [row_cell h.obj]; rfl, row_free h.obj 1⟩
theorem RunAt.look {B T : Nat} {w : World} {rb mp : Nat} {ns : List Int} {pb : Int → Nat} {Y : Int → Bool} {st : Int} (h : RunAt B T w rb mp ns pb Y st) {v : Int} (hv : v ∈ ns) (q : Nat) :
    (Instr.lookup 55 (.map (some mp)) (.int .u8 v) false).run Try.prog (w.drewN q) = .ok (.pointer (some ⟨pb v, 0, none⟩)) (w.drewN q) :=
  (h.same (kept_drewN (F := fun _ => False) w q)).map.run_look_some Try.underlying55 Try.underlying5 (v := ptr (pb v)) (by rw [pents, look_map, if_pos hv]) false
theorem RunAt.pcell {B T : Nat} {w : World} {rb mp : Nat} {ns : List Int} {pb : Int → Nat} {Y : Int → Bool} {st : Int} (h : RunAt B T w rb mp ns pb Y st) {v : Int} (hv : v ∈ ns) :
    w.cell? ⟨pb v, 0, none⟩ = some (.bool (Y v)) ∧ w.cell? ⟨pb v, 1, none⟩ = some (.bool false) ∧ w.frozen? ⟨pb v, 0, none⟩ = false := ⟨by rw [row_cell (h.part v hv)]; rfl, by rw [row_cell (h.part v hv)]; rfl, row_free (h.part v hv) 0⟩
set_option maxRecDepth 100000 in
set_option maxHeartbeats 1000000 in
theorem at_any {B T B' T' : Nat} {w : World} {bb m1 rb mp : Nat} {ns : List Int} {pb : Int → Nat} {Y : Int → Bool} {st : Int} {t1 t2 t3 : Int} (hb : BookAt B T w bb m1 [((t1, t2, t3), ptr rb)]) (hr : RunAt B' T' w rb mp ns pb Y st) {v : Int} (hv : v ∈ ns) :
    Calls Try.prog 17 #[.pointer (some ⟨bb, 0, none⟩), .agg #[.int .u8 t1, .int .u32 t2, .int .u32 t3], .int .u8 v] w fun e w' => e = .returned (.tuple #[.pointer (some ⟨rb, 0, none⟩), .pointer (some ⟨pb v, 0, none⟩), .int .i64 0]) ∧ Kept (fun _ => False) w w' := by
  have hk1 := (Kept.refl (fun _ => False) w).alloc (.cells #[.int .u8 t1, .int .u32 t2, .int .u32 t3] 28)
  have hkb := row_new w (.cells #[.int .u8 t1, .int .u32 t2, .int .u32 t3] 28)
  obtain ⟨w1, hw1⟩ : ∃ w1, w.alloc (.cells #[.int .u8 t1, .int .u32 t2, .int .u32 t3] 28) = w1 := ⟨_, rfl⟩
  obtain ⟨kb, hkb'⟩ : ∃ kb, w.heap.size = kb := ⟨_, rfl⟩
  rw [hw1] at hk1 hkb
  rw [hkb'] at hkb
  have HB := hid (hb.same hk1); have HR := hid (hr.same hk1); have HK := hid hkb; have K1 := hid hk1
  obtain ⟨c0, l0⟩ := HB.out.facts
  obtain ⟨d0, d1, d2⟩ := cells3 HK.out
  clear hb hr hk1 hkb
  go_enter Try.func17, Try.ntmps17
  go_wp2_with fail
  try rw [hw1, hkb']
  clear hw1 hkb'
  go_quiet (fail)
  have KQ := kept_drewN (F := fun _ => False) w1 nq
  have HB2 := hid (HB.out.same KQ); have HR2 := hid (HR.out.same KQ); have HK2 := hid ((KQ.block _ (row_lt HK.out) id).trans HK.out); have K2 := hid (K1.out.trans KQ)
  obtain ⟨w2, hw2⟩ : ∃ w2, w1.drewN nq = w2 := ⟨_, rfl⟩
  rw [hw2] at HB2 HR2 HK2 K2 ⊢
  obtain ⟨c0, l0⟩ := HB2.out.facts
  obtain ⟨d0, d1, d2⟩ := cells3 HK2.out
  clear HB HR HK K1 KQ hw2
  go_wp2_with fail
  go_quiet (fail)
  have KQ := kept_drewN (F := fun _ => False) w2 nq
  have HR3 := hid (HR2.out.same KQ); have K3 := hid (K2.out.trans KQ)
  obtain ⟨w3, hw3⟩ : ∃ w3, w2.drewN nq = w3 := ⟨_, rfl⟩
  rw [hw3] at HR3 K3 ⊢
  obtain ⟨r0, r1, _⟩ := HR3.out.facts
  have lk := HR3.out.look hv
  have lk0 : (Instr.lookup 55 (.map (some mp)) (.int .u8 v) false).run Try.prog w3 = .ok (.pointer (some ⟨pb v, 0, none⟩)) w3 := lk 0
  clear HB2 HR2 HK2 K2 KQ hw3 c0 l0 d0 d1 d2
  go_wp2_with fail
  go_quiet (fail)
  have K4 := hid (K3.out.trans (kept_drewN (F := fun _ => False) w3 nq))
  go_wp2
  go_returns
  exact ⟨rfl, K4.out⟩
end Go.Proofs.Ytaobioleodfafaa
/- voted. -/
namespace Go.Proofs.Ytaobioleodfafaa
open Go.RowKit
set_option maxHeartbeats 400000 in
theorem yes_any {w : World} {b : Nat} {y z : Bool} (h : w.heap[b]? = some (.cells #[.bool y, .bool z] 58 (0, 0))) :
    Calls Try.prog 39 #[.pointer (some ⟨b, 0, none⟩)] w fun e w' => e = .returned (.bool y) ∧ w = w' := by
  have c0 : w.cell? ⟨b, 0, none⟩ = some (.bool y) := by rw [row_cell h]; rfl
  clear h
  go_enter Try.func39, Try.ntmps39
  go_wp2
  go_ret
  exact ⟨rfl, rfl⟩
theorem mem_erase {α : Type} {R : List α} {i : Nat} {x y : α} (hi : R[i]? = some x) (hy : y ∈ R) : y = x ∨ y ∈ R.eraseIdx i := by
  obtain ⟨j, hj⟩ := List.mem_iff_getElem?.1 hy
  by_cases h : j = i
  · subst h; rw [hi] at hj; simp at hj; exact .inl hj.symm
  · exact .inr (List.mem_eraseIdx_iff_getElem?.2 ⟨j, h, hj⟩)
set_option maxRecDepth 100000 in
set_option maxHeartbeats 1000000 in
theorem all_any {B T : Nat} {w : World} {rb mp : Nat} {ns : List Int} {pb : Int → Nat} {Y : Int → Bool} {st : Int} (hr : RunAt B T w rb mp ns pb Y st) :
    Calls Try.prog 38 #[.pointer (some ⟨rb, 0, none⟩), .func (.func 39) #[] #[]] w fun e w' => e = .returned (.bool (ns.all Y)) ∧ Kept (fun _ => False) w w' := by
  have HR := hid hr
  obtain ⟨r0, _, _⟩ := HR.out.facts
  clear hr
  go_enter Try.func38, Try.ntmps38
  go_wp2_with (refine wpList_rng rfl _ 55 rfl 5 56 Try.underlying55 mp _ rfl HR.out.map.mapOf ?_; intro w1 hrg hk1 hz1; have RG := hid hrg; have K1 := hid hk1; clear hrg hk1)
  obtain ⟨it, hit⟩ : ∃ it, w.heap.size = it := ⟨_, rfl⟩
  rw [hit] at RG ⊢
  have HIT := hid (Nat.le_of_eq hit)
  clear hit hz1 r0
  have HSUB := hid (fun (p : Value × Value) (hp : p ∈ (pents ns pb).map fun p => (Value.int .u8 p.1, p.2)) => show ∃ x ∈ ns, p = (.int .u8 x, ptr (pb x)) from by
    simp only [pents, List.map_map, List.mem_map, Function.comp] at hp
    obtain ⟨x, hx, e⟩ := hp
    exact ⟨x, hx, e.symm⟩)
  have HALL := hid (fun x (hx : x ∈ ns) => show ((.int .u8 x, ptr (pb x)) : Value × Value) ∈ (pents ns pb).map fun p => (Value.int .u8 p.1, p.2) from by
    simp only [pents, List.map_map, List.mem_map, Function.comp]
    exact ⟨x, hx, rfl⟩)
  obtain ⟨E, hE⟩ : ∃ E, ((pents ns pb).map fun p => (Value.int .u8 p.1, p.2)) = E := ⟨_, rfl⟩
  rw [hE] at RG HSUB HALL
  clear hE
  go_frame
  go_loopw [6] (fun _ wr => ∃ R, RngOf wr mp it E R ∧ (∀ x ∈ ns, ((.int .u8 x, ptr (pb x)) : Value × Value) ∈ R ∨ Y x = true) ∧ Kept (fun _ => False) w wr) (fun _ wr => rngLeft wr mp it)
  case atStart => exact ⟨E, RG.out, fun x hx => .inl (HALL.out x hx), K1.out⟩
  case round =>
    rename World => wr
    obtain ⟨R, hrg, hx, hkp⟩ := hrel
    have RR := hid hrg; have HX := hid hx; have KR := hid hkp
    have MW := hid hrg.left
    clear hrg hx hkp RG K1
    go_wp2_with (refine wpList_nxt rfl _ rfl mp it _ _ rfl RR.out ?_ ?_)
    · intro hR0
      have hall : ns.all Y = true := by
        rw [List.all_eq_true]
        intro x hx
        rcases HX.out x hx with h | h
        · rw [hR0] at h; cases h
        · exact h
      clear hR0
      go_wp2
      go_ret
      exact ⟨by rw [hall]; rfl, KR.out⟩
    · intro i kv v w2 hi hrg2 hk2 hz2 hen
      obtain ⟨x, hx, hxe⟩ := HSUB.out _ (RR.out.sub _ (List.mem_of_getElem? hi))
      simp only [Prod.mk.injEq] at hxe
      obtain ⟨rfl, rfl⟩ := hxe
      have hmz : rngLeft w2 mp it < rngLeft wr mp it := by
        rw [hrg2.left, MW.out, List.length_eraseIdx]
        have := (List.getElem?_eq_some_iff.1 hi).1
        split <;> omega
      have HMZ := hid hmz
      have K2 := hid (KR.out.trans' hk2 (fun j e => .inr (by have := HIT.out; omega)))
      have hpt := (HR.out.same K2.out).part x hx
      have HE := hid (fun y hy => mem_erase hi (y := y) hy)
      have HPT := hid hpt; have HG2 := hid hrg2; have HXN := hid hx
      unfold ptr at hen
      simp only [ptr]
      clear hmz hrg2 hk2 hz2 hi hpt hx
      go_wp2_with fail
      refine (yes_any HPT.out).mono ?_
      rintro e w3 ⟨rfl, rfl⟩
      cases hy : Y x with
      | true =>
        go_wp2
        go_roundw
        case rel =>
          refine ⟨_, HG2.out, fun y hyn => ?_, K2.out⟩
          rcases HX.out y hyn with h | h
          · rcases HE.out _ h with h | h
            · simp only [Prod.mk.injEq, Value.int.injEq, true_and] at h
              rw [h.1]; exact .inr hy
            · exact .inl h
          · exact .inr h
        case measure => exact HMZ.out
      | false =>
        have hall : ns.all Y = false := by
          rw [List.all_eq_false]
          exact ⟨x, HXN.out, by rw [hy]; decide⟩
        go_wp2
        go_ret
        exact ⟨by rw [hall]; rfl, K2.out⟩
set_option maxHeartbeats 400000 in
theorem voted_any {B T : Nat} {w : World} {rb mp : Nat} {ns : List Int} {pb : Int → Nat} {Y : Int → Bool} {st : Int} (hr : RunAt B T w rb mp ns pb Y st) :
    Calls Try.prog 18 #[.pointer (some ⟨rb, 0, none⟩)] w fun e w' => e = .returned (.bool (ns.all Y)) ∧ Kept (fun _ => False) w w' := by
  have HR := hid hr
  clear hr
  go_enter Try.func18, Try.ntmps18
  go_wp2_with fail
  refine (all_any HR.out).mono ?_
  rintro e w1 ⟨rfl, hk⟩
  have K := hid hk
  clear hk
  go_wp2
  go_ret
  exact ⟨rfl, K.out⟩
end Go.Proofs.Ytaobioleodfafaa
/- Vote, Commit, Runs. -/
namespace Go.Proofs.Ytaobioleodfafaa
open Go.RowKit
section
variable {B T : Nat} {w : World} {rb mp : Nat} {ns : List Int} {pb : Int → Nat} {Y : Int → Bool} {st : Int}
theorem RunAt.ne (h : RunAt B T w rb mp ns pb Y st) : mp ≠ rb ∧ ∀ v ∈ ns, pb v ≠ rb ∧ mp ≠ pb v := by
  obtain ⟨es, cl, hm, _⟩ := h.map
  refine ⟨fun e => ?_, fun v hv => ⟨fun e => ?_, fun e => ?_⟩⟩
  · have := h.obj; rw [e] at hm; rw [hm] at this; simp at this
  · have := h.part v hv; rw [e, h.obj] at this; simp at this
  · have := h.part v hv; rw [← e, hm] at this; simp at this
theorem RunAt.setState (h : RunAt B T w rb mp ns pb Y st) (s : Int) : RunAt B T (w.setCell ⟨rb, 1, none⟩ (.int .i64 s)) rb mp ns pb Y s ∧ Kept (fun i => i = rb) w (w.setCell ⟨rb, 1, none⟩ (.int .i64 s)) := by
  have k : Kept (fun i => i = rb) w (w.setCell ⟨rb, 1, none⟩ (.int .i64 s)) := (Kept.refl (fun i => i = rb) w).setCell (p := ⟨rb, 1, none⟩) (.inl rfl) _
  have hn := h.ne
  exact ⟨⟨row_set h.obj 1 _, h.map.of_block (k.block _ h.map.lt hn.1), fun v hv => (k.block _ (row_lt (h.part v hv)) (hn.2 v hv).1).trans (h.part v hv), h.inj, h.inn⟩, k⟩
theorem RunAt.setYes (h : RunAt B T w rb mp ns pb Y st) {x : Int} (hx : x ∈ ns) : RunAt B T (w.setCell ⟨pb x, 0, none⟩ (.bool true)) rb mp ns pb (fun v => if v = x then true else Y v) st ∧ Kept (fun i => i = pb x) w (w.setCell ⟨pb x, 0, none⟩ (.bool true)) := by
  have k : Kept (fun i => i = pb x) w (w.setCell ⟨pb x, 0, none⟩ (.bool true)) := (Kept.refl (fun i => i = pb x) w).setCell (p := ⟨pb x, 0, none⟩) (.inl rfl) _
  have hn := h.ne
  refine ⟨⟨(k.block _ (row_lt h.obj) (fun e => (hn.2 x hx).1 e.symm)).trans h.obj, h.map.of_block (k.block _ h.map.lt (hn.2 x hx).2), fun v hv => ?_, h.inj, h.inn⟩, k⟩
  by_cases hvx : v = x
  · subst hvx
    rw [if_pos rfl]
    exact row_set (h.part v hv) 0 _
  · rw [if_neg hvx]
    exact (k.block _ (row_lt (h.part v hv)) (fun e => hvx (h.inj v hv x hx e))).trans (h.part v hv)
end
def setY (Y : Int → Bool) (x : Int) : Int → Bool := fun v => if v = x then true else Y v
/-- what a vote comes to: a number, an error; the state and the votes behind it -/
def vt (ns : List Int) (Y : Int → Bool) (st x : Int) (yes : Bool) : Int × Int × Int × (Int → Bool) :=
  if st = 1 then (if yes then (if ns.all (setY Y x) then (3, 0, 1, setY Y x) else (1, 0, 1, setY Y x)) else (4, 0, 4, Y))
  else if yes && Y x then (st, 0, st, Y) else (0, 9, st, Y)
set_option maxRecDepth 100000 in
set_option maxHeartbeats 1000000 in
theorem vote_any {B T B' T' : Nat} {w : World} {bb m1 rb mp : Nat} {ns : List Int} {pb : Int → Nat} {Y : Int → Bool} {st : Int} {t1 t2 t3 : Int} (hb : BookAt B T w bb m1 [((t1, t2, t3), ptr rb)]) (hr : RunAt B' T' w rb mp ns pb Y st) (hT : T ≤ B') {x : Int} (hx : x ∈ ns) (yes : Bool) :
    Calls Try.prog 10 #[.pointer (some ⟨bb, 0, none⟩), .agg #[.int .u8 t1, .int .u32 t2, .int .u32 t3], .int .u8 x, .bool yes] w fun e w' => e = .returned (.tuple #[.int .i64 (vt ns Y st x yes).1, .int .i64 (vt ns Y st x yes).2.1]) ∧
      BookAt B T w' bb m1 [((t1, t2, t3), ptr rb)] ∧ RunAt B' T' w' rb mp ns pb (vt ns Y st x yes).2.2.2 (vt ns Y st x yes).2.2.1 ∧ Kept (In B' T') w w' := by
  have hk1 := (Kept.refl (fun _ => False) w).alloc (.cells #[.int .u8 t1, .int .u32 t2, .int .u32 t3] 28)
  have hkb := row_new w (.cells #[.int .u8 t1, .int .u32 t2, .int .u32 t3] 28)
  obtain ⟨w1, hw1⟩ : ∃ w1, w.alloc (.cells #[.int .u8 t1, .int .u32 t2, .int .u32 t3] 28) = w1 := ⟨_, rfl⟩
  obtain ⟨kb, hkb'⟩ : ∃ kb, w.heap.size = kb := ⟨_, rfl⟩
  rw [hw1] at hk1 hkb
  rw [hkb'] at hkb
  have HB := hid (hb.same hk1); have HR := hid (hr.same hk1); have K1 := hid hk1
  obtain ⟨d0, d1, d2⟩ := cells3 hkb
  clear hb hr hkb hk1
  go_enter Try.func10, Try.ntmps10
  go_wp2_with fail
  try rw [hw1]
  clear hw1 hkb' d0 d1 d2
  refine (at_any HB.out HR.out hx).mono ?_
  rintro e w2 ⟨rfl, hk2⟩
  have HB2 := hid (HB.out.same hk2); have HR2 := hid (HR.out.same hk2); have K2 := hid (K1.out.trans hk2)
  obtain ⟨r0, r1, rf⟩ := HR2.out.facts
  obtain ⟨p0, p1, pf⟩ := HR2.out.pcell hx
  have HX := hid hx; have HT := hid hT
  have hrb := HR2.out.inn.1
  have hpx := HR2.out.inn.2.2 x hx
  have HRB := hid hrb; have HPX := hid hpx
  clear hk2 HB HR K1 hx hT r0 hrb hpx
  by_cases hs : st = 1
  · have HS := hid hs
    have hs1 : (st != 1) = false := by simpa using hs
    cases yes with
    | false =>
      have HV := hid (show vt ns Y st x false = (4, 0, 4, Y) by simp [vt, HS.out])
      obtain ⟨hr3, hk3⟩ := HR2.out.setState 4
      have q1 := hr3.facts.2.1
      have HR3 := hid hr3; have K3 := hid hk3
      clear hs hr3 hk3
      go_wp2
      go_returns
      rw [HV.out]
      refine ⟨rfl, HB2.out.kept K3.out (fun i hi e => ?_), HR3.out, (K2.out.mono (fun _ _ h => h.elim) : Kept (In B' T') w w2).trans' K3.out (fun i e => .inl (by rw [e]; exact HRB.out))⟩
      have h1 := HRB.out; have h2 := HT.out
      unfold In at hi h1
      omega
    | true =>
      obtain ⟨hr3, hk3⟩ := HR2.out.setYes HX.out
      have HR3 := hid hr3; have K3 := hid hk3
      have HS3 := hid (show (fun v => if v = x then true else Y v) = setY Y x from rfl)
      rw [HS3.out] at HR3
      obtain ⟨al, hal⟩ : ∃ a, ns.all (setY Y x) = a := ⟨_, rfl⟩
      have HV := hid (show vt ns Y st x true = if al then (3, 0, 1, setY Y x) else (1, 0, 1, setY Y x) by simp [vt, HS.out, hal])
      have HAL := hid hal
      clear hs hr3 hk3 hal
      go_wp2_with fail
      refine (voted_any HR3.out).mono ?_
      rintro e w4 ⟨rfl, hk4⟩
      rw [HAL.out]
      have HR4 := hid (HR3.out.same hk4)
      have K4 := hid (K3.out.trans' hk4 (fun _ h => h.elim))
      have r4 := HR4.out.facts.2.1
      clear hk4
      have fin : BookAt B T w4 bb m1 [((t1, t2, t3), ptr rb)] ∧ Kept (In B' T') w w4 := ⟨HB2.out.kept K4.out (fun i hi e => by
        have h1 := HPX.out; have h2 := HT.out
        unfold In at hi h1
        omega), (K2.out.mono (fun _ _ h => h.elim) : Kept (In B' T') w w2).trans' K4.out (fun i e => .inl (by rw [e]; exact HPX.out))⟩
      have FIN := hid fin
      clear fin
      cases al with
      | true =>
        go_wp2
        go_returns
        rw [HV.out]
        exact ⟨rfl, FIN.out.1, by rw [HS.out] at HR4; exact HR4.out, FIN.out.2⟩
      | false =>
        rw [HS.out] at r4
        go_wp2
        go_returns
        rw [HV.out]
        exact ⟨rfl, FIN.out.1, by rw [HS.out] at HR4; exact HR4.out, FIN.out.2⟩
  · have hs1 : (st != 1) = true := by simpa using hs
    have FIN := hid (⟨HB2.out, HR2.out, K2.out.mono (fun _ _ h => h.elim)⟩ : BookAt B T w2 bb m1 [((t1, t2, t3), ptr rb)] ∧ RunAt B' T' w2 rb mp ns pb Y st ∧ Kept (In B' T') w w2)
    obtain ⟨yx, hyx⟩ : ∃ y, Y x = y := ⟨_, rfl⟩
    rw [hyx] at p0
    cases yes with
    | false =>
      have HV := hid (show vt ns Y st x false = (0, 9, st, Y) by simp [vt, hs])
      clear hs
      go_wp2
      go_returns
      rw [HV.out]
      exact ⟨rfl, FIN.out⟩
    | true =>
      cases yx with
      | false =>
        have HV := hid (show vt ns Y st x true = (0, 9, st, Y) by simp [vt, hs, hyx])
        clear hs
        go_wp2
        go_returns
        rw [HV.out]
        exact ⟨rfl, FIN.out⟩
      | true =>
        have HV := hid (show vt ns Y st x true = (st, 0, st, Y) by simp [vt, hs, hyx])
        clear hs
        go_wp2
        go_returns
        rw [HV.out]
        exact ⟨rfl, FIN.out⟩
def cm (ns : List Int) (Y : Int → Bool) (st : Int) : Int × Int := if st = 4 then (9, st) else if ns.all Y then (0, 3) else (9, st)
set_option maxRecDepth 100000 in
set_option maxHeartbeats 1000000 in
theorem commit_any {B T B' T' : Nat} {w : World} {bb m1 rb mp : Nat} {ns : List Int} {pb : Int → Nat} {Y : Int → Bool} {st : Int} {t1 t2 t3 : Int} (hb : BookAt B T w bb m1 [((t1, t2, t3), ptr rb)]) (hr : RunAt B' T' w rb mp ns pb Y st) (hT : T ≤ B') :
    Calls Try.prog 11 #[.pointer (some ⟨bb, 0, none⟩), .agg #[.int .u8 t1, .int .u32 t2, .int .u32 t3]] w fun e w' => e = .returned (.int .i64 (cm ns Y st).1) ∧
      BookAt B T w' bb m1 [((t1, t2, t3), ptr rb)] ∧ RunAt B' T' w' rb mp ns pb Y (cm ns Y st).2 ∧ Kept (In B' T') w w' := by
  have hk1 := (Kept.refl (fun _ => False) w).alloc (.cells #[.int .u8 t1, .int .u32 t2, .int .u32 t3] 28)
  have hkb := row_new w (.cells #[.int .u8 t1, .int .u32 t2, .int .u32 t3] 28)
  obtain ⟨w1, hw1⟩ : ∃ w1, w.alloc (.cells #[.int .u8 t1, .int .u32 t2, .int .u32 t3] 28) = w1 := ⟨_, rfl⟩
  obtain ⟨kb, hkb'⟩ : ∃ kb, w.heap.size = kb := ⟨_, rfl⟩
  rw [hw1] at hk1 hkb
  rw [hkb'] at hkb
  have HB := hid (hb.same hk1); have HR := hid (hr.same hk1); have K1 := hid hk1; have HK := hid hkb
  obtain ⟨c0, l0⟩ := HB.out.facts
  obtain ⟨d0, d1, d2⟩ := cells3 HK.out
  have HT := hid hT
  clear hb hr hkb hk1 hT
  go_enter Try.func11, Try.ntmps11
  go_wp2_with fail
  try rw [hw1, hkb']
  clear hw1 hkb'
  go_quiet (fail)
  have KQ := kept_drewN (F := fun _ => False) w1 nq
  have HB2 := hid (HB.out.same KQ); have HR2 := hid (HR.out.same KQ); have HK2 := hid ((KQ.block _ (row_lt HK.out) id).trans HK.out); have K2 := hid (K1.out.trans KQ)
  obtain ⟨w2, hw2⟩ : ∃ w2, w1.drewN nq = w2 := ⟨_, rfl⟩
  rw [hw2] at HB2 HR2 HK2 K2 ⊢
  obtain ⟨c0, l0⟩ := HB2.out.facts
  obtain ⟨d0, d1, d2⟩ := cells3 HK2.out
  clear HB HR HK K1 KQ hw2
  go_wp2_with fail
  go_quiet (fail)
  have KQ := kept_drewN (F := fun _ => False) w2 nq
  have HB3 := hid (HB2.out.same KQ); have HR3 := hid (HR2.out.same KQ); have K3 := hid (K2.out.trans KQ)
  obtain ⟨w3, hw3⟩ : ∃ w3, w2.drewN nq = w3 := ⟨_, rfl⟩
  rw [hw3] at HB3 HR3 K3 ⊢
  obtain ⟨r0, r1, rf⟩ := HR3.out.facts
  clear HB2 HR2 HK2 K2 KQ hw3 c0 l0 d0 d1 d2 r0
  by_cases h4 : st = 4
  · have HV := hid (show cm ns Y st = (9, st) by simp [cm, h4])
    have h4' : (st == 4) = true := by simpa using h4
    clear h4
    go_wp2
    go_ret
    rw [HV.out]
    exact ⟨rfl, HB3.out, HR3.out, K3.out.mono (fun _ _ h => h.elim)⟩
  · have h4' : (st == 4) = false := by simpa using h4
    obtain ⟨al, hal⟩ : ∃ a, ns.all Y = a := ⟨_, rfl⟩
    have HV := hid (show cm ns Y st = if al then (0, 3) else (9, st) by simp [cm, h4, hal])
    have HAL := hid hal
    clear h4 hal
    go_wp2_with fail
    refine (voted_any HR3.out).mono ?_
    rintro e w4 ⟨rfl, hk4⟩
    rw [HAL.out]
    have HR4 := hid (HR3.out.same hk4); have HB4 := hid (HB3.out.same hk4); have K4 := hid (K3.out.trans hk4)
    obtain ⟨_, r1, rf⟩ := HR4.out.facts
    clear hk4
    cases al with
    | true =>
      obtain ⟨hr5, hk5⟩ := HR4.out.setState 3
      have HR5 := hid hr5; have K5 := hid hk5
      have HRB := hid HR4.out.inn.1
      clear hr5 hk5
      go_wp2
      go_ret
      rw [HV.out]
      refine ⟨rfl, HB4.out.kept K5.out (fun i hi e => ?_), HR5.out, (K4.out.mono (fun _ _ h => h.elim) : Kept (In B' T') w w4).trans' K5.out (fun i e => .inl (by rw [e]; exact HRB.out))⟩
      have h1 := HRB.out; have h2 := HT.out
      unfold In at hi h1
      omega
    | false =>
      go_wp2
      go_ret
      rw [HV.out]
      exact ⟨rfl, HB4.out, HR4.out, K4.out.mono (fun _ _ h => h.elim)⟩
set_option maxRecDepth 100000 in
set_option maxHeartbeats 1000000 in
theorem runs_any {B T B' T' : Nat} {w : World} {bb m1 rb mp : Nat} {ns : List Int} {pb : Int → Nat} {Y : Int → Bool} {st : Int} {t1 t2 t3 : Int} (hb : BookAt B T w bb m1 [((t1, t2, t3), ptr rb)]) (hr : RunAt B' T' w rb mp ns pb Y st) :
    Calls Try.prog 13 #[.pointer (some ⟨bb, 0, none⟩), .agg #[.int .u8 t1, .int .u32 t2, .int .u32 t3]] w fun e w' => e = .returned (.int .i64 st) ∧ Kept (fun _ => False) w w' := by
  have hk1 := (Kept.refl (fun _ => False) w).alloc (.cells #[.int .u8 t1, .int .u32 t2, .int .u32 t3] 28)
  have hkb := row_new w (.cells #[.int .u8 t1, .int .u32 t2, .int .u32 t3] 28)
  obtain ⟨w1, hw1⟩ : ∃ w1, w.alloc (.cells #[.int .u8 t1, .int .u32 t2, .int .u32 t3] 28) = w1 := ⟨_, rfl⟩
  obtain ⟨kb, hkb'⟩ : ∃ kb, w.heap.size = kb := ⟨_, rfl⟩
  rw [hw1] at hk1 hkb
  rw [hkb'] at hkb
  have HB := hid (hb.same hk1); have HR := hid (hr.same hk1); have K1 := hid hk1; have HK := hid hkb
  obtain ⟨c0, l0⟩ := HB.out.facts
  obtain ⟨d0, d1, d2⟩ := cells3 HK.out
  clear hb hr hkb hk1
  go_enter Try.func13, Try.ntmps13
  go_wp2_with fail
  try rw [hw1, hkb']
  clear hw1 hkb'
  go_quiet (fail)
  have KQ := kept_drewN (F := fun _ => False) w1 nq
  have HB2 := hid (HB.out.same KQ); have HR2 := hid (HR.out.same KQ); have HK2 := hid ((KQ.block _ (row_lt HK.out) id).trans HK.out); have K2 := hid (K1.out.trans KQ)
  obtain ⟨w2, hw2⟩ : ∃ w2, w1.drewN nq = w2 := ⟨_, rfl⟩
  rw [hw2] at HB2 HR2 HK2 K2 ⊢
  obtain ⟨c0, l0⟩ := HB2.out.facts
  obtain ⟨d0, d1, d2⟩ := cells3 HK2.out
  obtain ⟨r0, r1, rf⟩ := HR2.out.facts
  clear HB HR HK K1 KQ hw2
  go_wp2_with fail
  go_quiet (fail)
  have K3 := hid (K2.out.trans (kept_drewN (F := fun _ => False) w2 nq))
  go_wp2
  go_ret
  exact ⟨rfl, K3.out⟩
end Go.Proofs.Ytaobioleodfafaa
/- Commit: a book with many runs: the maps, the book in memory. -/
namespace Go.Proofs.Ytaobioleodfafaa
open Go.RowKit
/-! ### m[k] = v, whether k is there or not -/
theorem mem_layT : ∀ (L : List (Tx × Value)) (k : Tx) (v : Value) (a : Tx), a ∈ (layT L k v).map (·.1) ↔ a = k ∨ a ∈ L.map (·.1)
  | [], k, v, a => by simp [layT]
  | (b, x) :: r, k, v, a => by
    unfold layT
    split
    · rename_i h; subst h; simp
    · simp only [List.map_cons, List.mem_cons, mem_layT r k v a]
      constructor
      · rintro (h | h | h) <;> simp [h]
      · rintro (h | h | h) <;> simp [h]
theorem layT_nodup : ∀ (L : List (Tx × Value)) (k : Tx) (v : Value), (L.map (·.1)).Nodup → ((layT L k v).map (·.1)).Nodup
  | [], k, v, _ => by simp [layT]
  | (b, x) :: r, k, v, h => by
    simp only [List.map_cons, List.nodup_cons] at h
    unfold layT
    split
    · simp only [List.map_cons, List.nodup_cons]; exact h
    · rename_i hk
      simp only [List.map_cons, List.nodup_cons, mem_layT]
      exact ⟨by rintro (h1 | h1); exact hk h1.symm; exact h.1 h1, layT_nodup r k v h.2⟩
theorem lkT_spec {k : Tx} : ∀ (L : List (Tx × Value)) (i j : Nat) (v : Value), lkT L k i = some (j, v) → ∃ d, j = i + d ∧ L[d]? = some (k, v)
  | [], _, _, _, h => by simp [lkT] at h
  | (a, x) :: r, i, j, v, h => by
    unfold lkT at h
    split at h
    · rename_i hk; subst hk
      simp at h; obtain ⟨rfl, rfl⟩ := h
      exact ⟨0, rfl, rfl⟩
    · obtain ⟨d, h1, h2⟩ := lkT_spec r (i + 1) j v h
      exact ⟨d + 1, by omega, by simpa using h2⟩
theorem layT_old {k : Tx} {v : Value} : ∀ (L : List (Tx × Value)) (d : Nat) (x : Value), (L.map (·.1)).Nodup → L[d]? = some (k, x) → layT L k v = L.set d (k, v)
  | [], _, _, _, h => by simp at h
  | (a, y) :: r, 0, x, _, h => by simp at h; obtain ⟨rfl, rfl⟩ := h; simp [layT]
  | (a, y) :: r, d + 1, x, hn, h => by
    simp only [List.map_cons, List.nodup_cons] at hn
    simp only [List.getElem?_cons_succ] at h
    have hne : k ≠ a := by
      rintro rfl
      exact hn.1 (List.mem_map.2 ⟨(k, x), List.mem_of_getElem? h, rfl⟩)
    unfold layT
    rw [if_neg hne, layT_old r d x hn.2 h, List.set_cons_succ]
theorem MapT.run_lay {w : World} {t et : TypeId} {b : Nat} {L : List (Tx × Value)} (h : MapT w b L) (ht : Try.prog.underlying t = some (.map 28 et)) (k : Tx) (v : Value) :
    ∃ es clock, (Instr.mapUpdate t (.map (some b)) (txv k) v).run Try.prog w = .ok () (ChangeMaps.setBlock w b (.map es clock)) ∧ MapT (ChangeMaps.setBlock w b (.map es clock)) b (layT L k v) := by
  cases hl : lookT L k with
  | none =>
    obtain ⟨es, c, h1, h2⟩ := h.run_lay_new ht hl v
    have h3 : lkT L k 0 = none := by have := lookT_lk L k 0; rw [hl] at this; cases h : lkT L k 0 <;> simp_all
    exact ⟨es, c, h1, by rw [(layT_new (v := v) L 0 h3).1]; exact h2⟩
  | some x0 =>
    obtain ⟨es, clock, hb, he, hn, hst0⟩ := h
    have h1 := findKeyT (w := w) (k := k) es.toList L he
    have h2 := lookT_lk L k 0
    rw [hl] at h2
    obtain ⟨⟨j, x⟩, hj, _⟩ := Option.map_eq_some_iff.1 h2
    rw [hj] at h1
    obtain ⟨d, hd, hL⟩ := lkT_spec L 0 j x hj
    have hjd : j = d := by omega
    subst hjd
    have hck := fun e => tx_check k e w
    have hlen : es.toList.length = L.length := by have := congrArg List.length he; simpa using this
    have hlt : j < L.length := (List.getElem?_eq_some_iff.1 hL).1
    have hje : j < es.size := by rw [← hlen] at hlt; simpa using hlt
    have hkey : es[j].key = txv k := by
      have h5 := congrArg (fun l => l[j]?) he
      simp only [List.getElem?_map, hL, Option.map_some] at h5
      simp [hje] at h5
      exact h5.1
    refine ⟨es.modify j (fun e => { e with key := txv k, val := v }), clock, ?_, es.modify j (fun e => { e with key := txv k, val := v }), clock, ChangeMaps.heap_setBlock_same hb _, ?_, layT_nodup _ _ _ hn, ?_⟩
    · have hst := tx_stays k w
      simp [Instr.mapUpdate, run_underlying ht, MapKept.run_getObj_map hb, hck, h1, MapKept.run_setObj_map _ hb, Result.andThen, ChangeMaps.setBlock, hje, hkey, hst]
    · rw [layT_old L j x hn hL]
      apply List.ext_getElem?
      intro i
      have h5 := congrArg (fun l => l[i]?) he
      simp only [List.getElem?_map] at h5
      simp only [List.getElem?_map, Array.getElem?_toList, Array.getElem?_modify, List.getElem?_set, Array.getElem?_toList] at h5 ⊢
      by_cases hij : j = i
      · subst hij
        simp [hje, hlt]
      · simp [hij, h5]
    · refine MapKept.stamped_modify hst0 j _ (fun _ _ => rfl) (fun e _ he => ?_)
      have : e = es[j] := by
        rw [Array.getElem?_eq_getElem hje] at he
        exact (Option.some.inj he).symm
      rw [this, hkey]
/-! ### the book -/
/-- a run: its nodes, their votes, who has applied it, how it stands -/
structure Rn where
  ns : List Int
  Y : Int → Bool
  D : Int → Bool
  st : Int
/-- where a run lies -/
structure Ad where
  rb : Nat
  mp : Nat
  pb : Int → Nat
structure GRun (O : Nat → Prop) (w : World) (a : Ad) (r : Rn) : Prop where
  obj : w.heap[a.rb]? = some (.cells #[.map (some a.mp), .int .i64 r.st] 61 (0, 0))
  map : MapIs w a.mp .u8 (pents r.ns a.pb)
  part : ∀ v ∈ r.ns, w.heap[a.pb v]? = some (.cells #[.bool (r.Y v), .bool (r.D v)] 58 (0, 0))
  inj : ∀ x ∈ r.ns, ∀ y ∈ r.ns, a.pb x = a.pb y → x = y
  own : O a.rb ∧ O a.mp ∧ ∀ v ∈ r.ns, O (a.pb v)
theorem GRun.kept {O F : Nat → Prop} {w w' : World} {a : Ad} {r : Rn} (h : GRun O w a r) (k : Kept F w w') (hF : ∀ i, O i → ¬ F i) : GRun O w' a r where
  obj := (k.block _ (row_lt h.obj) (hF _ h.own.1)).trans h.obj
  map := h.map.of_block (k.block _ h.map.lt (hF _ h.own.2.1))
  part := fun v hv => (k.block _ (row_lt (h.part v hv)) (hF _ (h.own.2.2 v hv))).trans (h.part v hv)
  inj := h.inj
  own := h.own
theorem GRun.ne {O : Nat → Prop} {w : World} {a : Ad} {r : Rn} (h : GRun O w a r) : a.mp ≠ a.rb ∧ ∀ v ∈ r.ns, a.pb v ≠ a.rb ∧ a.mp ≠ a.pb v := by
  obtain ⟨es, c, hm, _⟩ := h.map
  refine ⟨fun e => ?_, fun v hv => ⟨fun e => ?_, fun e => ?_⟩⟩
  · have := h.obj; rw [← e, hm] at this; cases this
  · have h1 := h.obj
    have h2 := h.part v hv
    rw [e, h1] at h2
    simp at h2
  · have := h.part v hv; rw [← e, hm] at this; cases this
def lookG : List (Tx × Rn) → Tx → Option Rn
  | [], _ => none
  | (a, r) :: G, t => if t = a then some r else lookG G t
def setG (G : List (Tx × Rn)) (t : Tx) (r : Rn) : List (Tx × Rn) := G.map fun p => if p.1 = t then (t, r) else p
theorem setG_keys (G : List (Tx × Rn)) (t : Tx) (r : Rn) : (setG G t r).map (·.1) = G.map (·.1) := by
  unfold setG
  rw [List.map_map]
  apply List.map_congr_left
  intro p _
  simp only [Function.comp]
  split
  · rename_i h; exact h.symm
  · rfl
theorem lookG_set (G : List (Tx × Rn)) (t : Tx) (r : Rn) (t' : Tx) : lookG (setG G t r) t' = if t' = t then (lookG G t).map (fun _ => r) else lookG G t' := by
  induction G with
  | nil => simp [setG, lookG]
  | cons p G ih =>
    obtain ⟨a, x⟩ := p
    have e : setG ((a, x) :: G) t r = (if a = t then (t, r) else (a, x)) :: setG G t r := rfl
    rw [e]
    by_cases h1 : a = t
    · subst h1
      simp only [if_true, lookG, ih]
      by_cases h2 : t' = a
      · simp [h2]
      · simp [h2]
    · simp only [if_neg h1, lookG, ih]
      by_cases h2 : t' = a
      · subst h2
        simp [h1]
      · simp only [if_neg h2]
        have h3 : ¬ t = a := fun e => h1 e.symm
        simp [h3]
theorem lookG_mem {G : List (Tx × Rn)} {t : Tx} {r : Rn} (h : lookG G t = some r) : (t, r) ∈ G := by
  induction G with
  | nil => simp [lookG] at h
  | cons p G ih =>
    obtain ⟨a, x⟩ := p
    unfold lookG at h
    split at h
    · rename_i e; simp at h; subst h; subst e; simp
    · exact List.mem_cons_of_mem _ (ih h)
theorem lookT_G (A : Tx → Ad) : ∀ (G : List (Tx × Rn)) (t : Tx), lookT (G.map fun p => (p.1, ptr (A p.1).rb)) t = (lookG G t).map (fun _ => ptr (A t).rb)
  | [], t => rfl
  | (a, r) :: G, t => by
    simp only [List.map_cons, lookT, lookG]
    by_cases h : t = a
    · subst h; simp
    · simp [h, lookT_G A G t]
/-- the book: its runs, where they lie (own: whose a block is), what it takes part in -/
structure GBook (own : Nat → Option Tx) (B : Nat) (w : World) (bb m1 m2 : Nat) (G : List (Tx × Rn)) (A : Tx → Ad) (K : List (Tx × Int)) : Prop where
  obj : w.heap[bb]? = some (.cells #[.map (some m1), .map (some m2)] 54 (0, 0))
  map1 : MapT w m1 (G.map fun p => (p.1, ptr (A p.1).rb))
  map2 : MapT w m2 (K.map fun p => (p.1, .int .i64 p.2))
  runs : ∀ p ∈ G, GRun (fun i => own i = some p.1) w (A p.1) p.2
  top : own bb = none ∧ own m1 = none ∧ own m2 = none ∧ m1 ≠ m2
  new : ∀ i, w.heap.size ≤ i → own i = none
  low : B ≤ bb ∧ B ≤ m1 ∧ B ≤ m2 ∧ ∀ i t, own i = some t → B ≤ i
theorem GBook.nodup {own : Nat → Option Tx} {B : Nat} {w : World} {bb m1 m2 : Nat} {G : List (Tx × Rn)} {A : Tx → Ad} {K : List (Tx × Int)} (h : GBook own B w bb m1 m2 G A K) : (G.map (·.1)).Nodup := by
  obtain ⟨_, _, _, _, hn, _⟩ := h.map1
  rw [List.map_map] at hn
  exact hn
theorem GBook.run {own : Nat → Option Tx} {B : Nat} {w : World} {bb m1 m2 : Nat} {G : List (Tx × Rn)} {A : Tx → Ad} {K : List (Tx × Int)} (h : GBook own B w bb m1 m2 G A K) {t : Tx} {r : Rn} (hl : lookG G t = some r) : GRun (fun i => own i = some t) w (A t) r := h.runs _ (lookG_mem hl)
/-- what writes nothing of it -/
theorem GBook.kept {own : Nat → Option Tx} {B : Nat} {w w' : World} {bb m1 m2 : Nat} {G : List (Tx × Rn)} {A : Tx → Ad} {K : List (Tx × Int)} {F : Nat → Prop} (h : GBook own B w bb m1 m2 G A K) (k : Kept F w w') (hF : ∀ i, F i → i < B) : GBook own B w' bb m1 m2 G A K where
  obj := (k.block _ (row_lt h.obj) (fun hf => by have := hF _ hf; have := h.low.1; omega)).trans h.obj
  map1 := h.map1.of_block (k.block _ h.map1.lt (fun hf => by have := hF _ hf; have := h.low.2.1; omega))
  map2 := h.map2.of_block (k.block _ h.map2.lt (fun hf => by have := hF _ hf; have := h.low.2.2.1; omega))
  runs := fun p hp => (h.runs p hp).kept k (fun i hi hf => by have := hF _ hf; have := h.low.2.2.2 i _ hi; omega)
  top := h.top
  new := fun i hi => h.new i (Nat.le_trans k.size hi)
  low := h.low
/-- one run has turned -/
theorem GBook.put {own : Nat → Option Tx} {B : Nat} {w w' : World} {bb m1 m2 : Nat} {G : List (Tx × Rn)} {A : Tx → Ad} {K : List (Tx × Int)} (h : GBook own B w bb m1 m2 G A K) (t : Tx) (r : Rn) (hr : GRun (fun i => own i = some t) w' (A t) r) (k : Kept (fun i => own i = some t) w w') : GBook own B w' bb m1 m2 (setG G t r) A K where
  obj := (k.block _ (row_lt h.obj) (by rw [h.top.1]; simp)).trans h.obj
  map1 := by
    have e : (setG G t r).map (fun p => (p.1, ptr (A p.1).rb)) = G.map (fun p => (p.1, ptr (A p.1).rb)) := by
      have h1 := setG_keys G t r
      have h2 : ∀ l : List (Tx × Rn), l.map (fun p => (p.1, ptr (A p.1).rb)) = (l.map (·.1)).map (fun t => (t, ptr (A t).rb)) := fun l => by rw [List.map_map]; rfl
      rw [h2, h2, h1]
    rw [e]
    exact h.map1.of_block (k.block _ h.map1.lt (by rw [h.top.2.1]; simp))
  map2 := h.map2.of_block (k.block _ h.map2.lt (by rw [h.top.2.2.1]; simp))
  runs := fun p hp => by
    unfold setG at hp
    obtain ⟨q, hq, rfl⟩ := List.mem_map.1 hp
    by_cases hqt : q.1 = t
    · simp only [if_pos hqt]
      exact hr
    · simp only [if_neg hqt]
      exact (h.runs q hq).kept k (fun i hi hf => hqt (Option.some.inj (hi.symm.trans hf)))
  top := h.top
  new := fun i hi => h.new i (Nat.le_trans k.size hi)
  low := h.low
end Go.Proofs.Ytaobioleodfafaa
/- Commit: the book's look-ups; at; all. -/
namespace Go.Proofs.Ytaobioleodfafaa
open Go.RowKit
section
variable {own : Nat → Option Tx} {B : Nat} {w : World} {bb m1 m2 : Nat} {G : List (Tx × Rn)} {A : Tx → Ad} {K : List (Tx × Int)}
theorem GBook.same {w' : World} (h : GBook own B w bb m1 m2 G A K) (k : Kept (fun _ => False) w w') : GBook own B w' bb m1 m2 G A K := h.kept k (fun _ h => h.elim)
theorem GRun.same {O : Nat → Prop} {w' : World} {a : Ad} {r : Rn} (h : GRun O w a r) (k : Kept (fun _ => False) w w') : GRun O w' a r := h.kept k (fun _ _ => id)
theorem GBook.cells (h : GBook own B w bb m1 m2 G A K) : w.cell? ⟨bb, 0, none⟩ = some (.map (some m1)) ∧ w.cell? ⟨bb, 1, none⟩ = some (.map (some m2)) := ⟨by rw [row_cell h.obj]; rfl, by rw [row_cell h.obj]; rfl⟩
theorem GBook.look1 (h : GBook own B w bb m1 m2 G A K) {t1 t2 t3 : Int} {r : Rn} (hl : lookG G (t1, t2, t3) = some r) (q : Nat) :
    (Instr.lookup 51 (.map (some m1)) (.agg #[.int .u8 t1, .int .u32 t2, .int .u32 t3]) false).run Try.prog (w.drewN q) = .ok (.pointer (some ⟨(A (t1, t2, t3)).rb, 0, none⟩)) (w.drewN q) :=
  (h.same (kept_drewN (F := fun _ => False) w q)).map1.run_look_some Try.underlying51 (k := (t1, t2, t3)) (v := ptr (A (t1, t2, t3)).rb) (by rw [lookT_G, hl]; rfl) false
theorem GBook.look0 (h : GBook own B w bb m1 m2 G A K) {t1 t2 t3 : Int} (hl : lookG G (t1, t2, t3) = none) (q : Nat) :
    (Instr.lookup 51 (.map (some m1)) (.agg #[.int .u8 t1, .int .u32 t2, .int .u32 t3]) false).run Try.prog (w.drewN q) = .ok (.pointer none) (w.drewN q) :=
  (h.same (kept_drewN (F := fun _ => False) w q)).map1.run_look_none Try.underlying51 (k := (t1, t2, t3)) (z := .pointer none) (by kernel_rfl) (by rw [lookT_G, hl]; rfl) false
end
section
variable {O : Nat → Prop} {w : World} {a : Ad} {r : Rn}
theorem GRun.cells (h : GRun O w a r) : w.cell? ⟨a.rb, 0, none⟩ = some (.map (some a.mp)) ∧ w.cell? ⟨a.rb, 1, none⟩ = some (.int .i64 r.st) ∧ w.frozen? ⟨a.rb, 1, none⟩ = false := ⟨by rw [row_cell h.obj]; rfl, by rw [row_cell h.obj]; rfl, row_free h.obj 1⟩
theorem GRun.look (h : GRun O w a r) {v : Int} (hv : v ∈ r.ns) (q : Nat) :
    (Instr.lookup 55 (.map (some a.mp)) (.int .u8 v) false).run Try.prog (w.drewN q) = .ok (.pointer (some ⟨a.pb v, 0, none⟩)) (w.drewN q) :=
  (h.same (kept_drewN (F := fun _ => False) w q)).map.run_look_some Try.underlying55 Try.underlying5 (v := ptr (a.pb v)) (by rw [pents, look_map, if_pos hv]) false
theorem GRun.look_no (h : GRun O w a r) {v : Int} (hv : v ∉ r.ns) (q : Nat) :
    (Instr.lookup 55 (.map (some a.mp)) (.int .u8 v) false).run Try.prog (w.drewN q) = .ok (.pointer none) (w.drewN q) :=
  (h.same (kept_drewN (F := fun _ => False) w q)).map.run_look_none Try.underlying55 Try.underlying5 (z := .pointer none) (by kernel_rfl) (by rw [pents, look_map, if_neg hv]) false
theorem GRun.pcell (h : GRun O w a r) {v : Int} (hv : v ∈ r.ns) :
    w.cell? ⟨a.pb v, 0, none⟩ = some (.bool (r.Y v)) ∧ w.cell? ⟨a.pb v, 1, none⟩ = some (.bool (r.D v)) ∧ w.frozen? ⟨a.pb v, 0, none⟩ = false ∧ w.frozen? ⟨a.pb v, 1, none⟩ = false := ⟨by rw [row_cell (h.part v hv)]; rfl, by rw [row_cell (h.part v hv)]; rfl, row_free (h.part v hv) 0, row_free (h.part v hv) 1⟩
end
section
variable {own : Nat → Option Tx} {B : Nat} {w : World} {bb m1 m2 : Nat} {G : List (Tx × Rn)} {A : Tx → Ad} {K : List (Tx × Int)} {t1 t2 t3 : Int}
set_option maxRecDepth 100000 in
set_option maxHeartbeats 1000000 in
theorem gat_none (hb : GBook own B w bb m1 m2 G A K) (hl : lookG G (t1, t2, t3) = none) (v : Int) :
    Calls Try.prog 17 #[.pointer (some ⟨bb, 0, none⟩), .agg #[.int .u8 t1, .int .u32 t2, .int .u32 t3], .int .u8 v] w fun e w' => e = .returned (.tuple #[.pointer none, .pointer none, .int .i64 6]) ∧ Kept (fun _ => False) w w' := by
  have hk1 := (Kept.refl (fun _ => False) w).alloc (.cells #[.int .u8 t1, .int .u32 t2, .int .u32 t3] 28)
  have hkb := row_new w (.cells #[.int .u8 t1, .int .u32 t2, .int .u32 t3] 28)
  obtain ⟨w1, hw1⟩ : ∃ w1, w.alloc (.cells #[.int .u8 t1, .int .u32 t2, .int .u32 t3] 28) = w1 := ⟨_, rfl⟩
  obtain ⟨kb, hkb'⟩ : ∃ kb, w.heap.size = kb := ⟨_, rfl⟩
  rw [hw1] at hk1 hkb
  rw [hkb'] at hkb
  have HB := hid (hb.same hk1); have HK := hid hkb; have K1 := hid hk1
  have hcb := HB.out.cells
  obtain ⟨c0, c1⟩ := hcb
  obtain ⟨d0, d1, d2⟩ := cells3 HK.out
  have HL := hid hl
  clear hb hk1 hkb hl
  have l0 := HB.out.look0 HL.out
  go_enter Try.func17, Try.ntmps17
  go_wp2_with fail
  try rw [hw1, hkb']
  clear hw1 hkb'
  go_quiet (fail)
  have K2 := hid (K1.out.trans (kept_drewN (F := fun _ => False) w1 nq))
  go_wp2
  go_returns
  exact ⟨rfl, K2.out⟩
theorem gat_nil (w : World) (t1 t2 t3 v : Int) :
    Calls Try.prog 17 #[.pointer none, .agg #[.int .u8 t1, .int .u32 t2, .int .u32 t3], .int .u8 v] w fun e w' => e = .returned (.tuple #[.pointer none, .pointer none, .int .i64 6]) ∧ Kept (fun _ => False) w w' := by
  have hk1 := (Kept.refl (fun _ => False) w).alloc (.cells #[.int .u8 t1, .int .u32 t2, .int .u32 t3] 28)
  have K1 := hid hk1
  go_enter Try.func17, Try.ntmps17
  go_wp2_with fail
  refine wp_region_held_drew (S := fun _ => True) (by kernel_rfl) trivial (fun hHeld => ?_)
  refine wpAnyH_at 0 (some 10) (v := ?v900) (by decide) rfl (by kernel_rfl) (by kernel_rfl) (by kernel_rfl) (fun _ _ _ h => h) (Or.inl ⟨by rfl, ?y900⟩) (by assumption) ?r900
  case y900 => (intro w hSw; (try dsimp only at hSw); go_simp; (try with_reducible rfl))
  simp only [Act.put, List.setIfInBounds_toArray, List.set_cons_zero, List.set_cons_succ]
  refine wpAnyH_at 1 (some 11) (v := ?v901) (by decide) rfl (by kernel_rfl) (by kernel_rfl) (by kernel_rfl) (fun _ _ _ h => h) (Or.inl ⟨by rfl, ?y901⟩) (by assumption) ?r901
  case y901 => (intro w hSw; (try dsimp only at hSw); go_simp; (try with_reducible rfl))
  simp only [Act.put, List.setIfInBounds_toArray, List.set_cons_zero, List.set_cons_succ]
  refine wpAnyH_at 2 (some 12) (v := ?v902) (by decide) rfl (by kernel_rfl) (by kernel_rfl) (by kernel_rfl) (fun _ _ _ h => h) (Or.inl ⟨by rfl, ?y902⟩) (by assumption) ?r902
  case y902 => (intro w hSw; (try dsimp only at hSw); go_simp; (try with_reducible rfl))
  simp only [Act.put, List.setIfInBounds_toArray, List.set_cons_zero, List.set_cons_succ]
  refine wpAnyH_at 3 (some 13) (v := undef) (by decide) rfl (by kernel_rfl) (by kernel_rfl) (by kernel_rfl) (fun _ _ _ h => h) (Or.inr ⟨by rfl, rfl⟩) (by assumption) ?_
  simp only [Act.put, List.setIfInBounds_toArray, List.set_cons_zero, List.set_cons_succ]
  refine wpAnyH_at 4 (some 14) (v := undef) (by decide) rfl (by kernel_rfl) (by kernel_rfl) (by kernel_rfl) (fun _ _ _ h => h) (Or.inr ⟨by rfl, rfl⟩) (by assumption) ?_
  simp only [Act.put, List.setIfInBounds_toArray, List.set_cons_zero, List.set_cons_succ]
  refine wpAnyH_at 5 (some 15) (v := undef) (by decide) rfl (by kernel_rfl) (by kernel_rfl) (by kernel_rfl) (fun _ _ _ h => h) (Or.inr ⟨by rfl, rfl⟩) (by assumption) ?_
  simp only [Act.put, List.setIfInBounds_toArray, List.set_cons_zero, List.set_cons_succ]
  refine wpAnyH_at 6 (some 16) (v := undef) (by decide) rfl (by kernel_rfl) (by kernel_rfl) (by kernel_rfl) (fun _ _ _ h => h) (Or.inr ⟨by rfl, rfl⟩) (by assumption) ?_
  simp only [Act.put, List.setIfInBounds_toArray, List.set_cons_zero, List.set_cons_succ]
  refine wpAnyH_at 7 (some 17) (v := undef) (by decide) rfl (by kernel_rfl) (by kernel_rfl) (by kernel_rfl) (fun _ _ _ h => h) (Or.inr ⟨by rfl, rfl⟩) (by assumption) ?_
  simp only [Act.put, List.setIfInBounds_toArray, List.set_cons_zero, List.set_cons_succ]
  refine wpAnyH_at 8 (some 18) (v := undef) (by decide) rfl (by kernel_rfl) (by kernel_rfl) (by kernel_rfl) (fun _ _ _ h => h) (Or.inr ⟨by rfl, rfl⟩) (by assumption) ?_
  simp only [Act.put, List.setIfInBounds_toArray, List.set_cons_zero, List.set_cons_succ]
  refine wpAnyH_at 9 (some 19) (v := undef) (by decide) rfl (by kernel_rfl) (by kernel_rfl) (by kernel_rfl) (fun _ _ _ h => h) (Or.inr ⟨by rfl, rfl⟩) (by assumption) ?_
  simp only [Act.put, List.setIfInBounds_toArray, List.set_cons_zero, List.set_cons_succ]
  refine wpAnyH_at 10 (some 20) (v := ?v903) (by decide) rfl (by kernel_rfl) (by kernel_rfl) (by kernel_rfl) (fun _ _ _ h => h) (Or.inl ⟨by rfl, ?y903⟩) (by assumption) ?r903
  case y903 => (intro w hSw; (try dsimp only at hSw); go_simp; (try with_reducible rfl))
  simp only [Act.put, List.setIfInBounds_toArray, List.set_cons_zero, List.set_cons_succ]
  refine wpAnyH_done (by kernel_rfl) ?_ _
  go_wp2_with fail
  go_returns
  exact ⟨rfl, K1.out.drew⟩
set_option maxRecDepth 100000 in
set_option maxHeartbeats 1000000 in
theorem gat_ok {r : Rn} (hb : GBook own B w bb m1 m2 G A K) (hl : lookG G (t1, t2, t3) = some r) {v : Int} (hv : v ∈ r.ns) :
    Calls Try.prog 17 #[.pointer (some ⟨bb, 0, none⟩), .agg #[.int .u8 t1, .int .u32 t2, .int .u32 t3], .int .u8 v] w fun e w' => e = .returned (.tuple #[.pointer (some ⟨(A (t1, t2, t3)).rb, 0, none⟩), .pointer (some ⟨(A (t1, t2, t3)).pb v, 0, none⟩), .int .i64 0]) ∧ Kept (fun _ => False) w w' := by
  have hk1 := (Kept.refl (fun _ => False) w).alloc (.cells #[.int .u8 t1, .int .u32 t2, .int .u32 t3] 28)
  have hkb := row_new w (.cells #[.int .u8 t1, .int .u32 t2, .int .u32 t3] 28)
  obtain ⟨w1, hw1⟩ : ∃ w1, w.alloc (.cells #[.int .u8 t1, .int .u32 t2, .int .u32 t3] 28) = w1 := ⟨_, rfl⟩
  obtain ⟨kb, hkb'⟩ : ∃ kb, w.heap.size = kb := ⟨_, rfl⟩
  rw [hw1] at hk1 hkb
  rw [hkb'] at hkb
  have HB := hid (hb.same hk1); have HK := hid hkb; have K1 := hid hk1
  have hcb := HB.out.cells
  obtain ⟨c0, c1⟩ := hcb
  obtain ⟨d0, d1, d2⟩ := cells3 HK.out
  have HL := hid hl
  clear hb hk1 hkb hl
  have l0 := HB.out.look1 HL.out
  go_enter Try.func17, Try.ntmps17
  go_wp2_with fail
  try rw [hw1, hkb']
  clear hw1 hkb'
  go_quiet (fail)
  clear c0 c1 d0 d1 d2 l0
  have KQ := kept_drewN (F := fun _ => False) w1 nq
  have HB2 := hid (HB.out.same KQ); have HK2 := hid ((KQ.block _ (row_lt HK.out) id).trans HK.out); have K2 := hid (K1.out.trans KQ)
  obtain ⟨w2, hw2⟩ : ∃ w2, w1.drewN nq = w2 := ⟨_, rfl⟩
  rw [hw2] at HB2 HK2 K2 ⊢
  have hcb := HB2.out.cells
  obtain ⟨c0, c1⟩ := hcb
  have l0 := HB2.out.look1 HL.out
  obtain ⟨d0, d1, d2⟩ := cells3 HK2.out
  have HR2 := hid (HB2.out.run HL.out)
  clear HB HK K1 KQ hw2
  go_wp2_with fail
  go_quiet (fail)
  have KQ := kept_drewN (F := fun _ => False) w2 nq
  have HR3 := hid (HR2.out.same KQ); have K3 := hid (K2.out.trans KQ)
  obtain ⟨w3, hw3⟩ : ∃ w3, w2.drewN nq = w3 := ⟨_, rfl⟩
  rw [hw3] at HR3 K3 ⊢
  have hrc := HR3.out.cells
  obtain ⟨r0, r1, _⟩ := hrc
  have lk := HR3.out.look hv
  have lk0 : (Instr.lookup 55 (.map (some (A (t1, t2, t3)).mp)) (.int .u8 v) false).run Try.prog w3 = .ok (.pointer (some ⟨(A (t1, t2, t3)).pb v, 0, none⟩)) w3 := lk 0
  clear HB2 HK2 K2 KQ hw3 c0 c1 l0 d0 d1 d2
  go_wp2_with fail
  go_quiet (fail)
  have K4 := hid (K3.out.trans (kept_drewN (F := fun _ => False) w3 nq))
  go_wp2
  go_returns
  exact ⟨rfl, K4.out⟩
set_option maxRecDepth 100000 in
set_option maxHeartbeats 1000000 in
theorem gat_arg {r : Rn} (hb : GBook own B w bb m1 m2 G A K) (hl : lookG G (t1, t2, t3) = some r) {v : Int} (hv : v ∉ r.ns) :
    Calls Try.prog 17 #[.pointer (some ⟨bb, 0, none⟩), .agg #[.int .u8 t1, .int .u32 t2, .int .u32 t3], .int .u8 v] w fun e w' => e = .returned (.tuple #[.pointer none, .pointer none, .int .i64 1]) ∧ Kept (fun _ => False) w w' := by
  have hk1 := (Kept.refl (fun _ => False) w).alloc (.cells #[.int .u8 t1, .int .u32 t2, .int .u32 t3] 28)
  have hkb := row_new w (.cells #[.int .u8 t1, .int .u32 t2, .int .u32 t3] 28)
  obtain ⟨w1, hw1⟩ : ∃ w1, w.alloc (.cells #[.int .u8 t1, .int .u32 t2, .int .u32 t3] 28) = w1 := ⟨_, rfl⟩
  obtain ⟨kb, hkb'⟩ : ∃ kb, w.heap.size = kb := ⟨_, rfl⟩
  rw [hw1] at hk1 hkb
  rw [hkb'] at hkb
  have HB := hid (hb.same hk1); have HK := hid hkb; have K1 := hid hk1
  have hcb := HB.out.cells
  obtain ⟨c0, c1⟩ := hcb
  obtain ⟨d0, d1, d2⟩ := cells3 HK.out
  have HL := hid hl
  clear hb hk1 hkb hl
  have l0 := HB.out.look1 HL.out
  go_enter Try.func17, Try.ntmps17
  go_wp2_with fail
  try rw [hw1, hkb']
  clear hw1 hkb'
  go_quiet (fail)
  clear c0 c1 d0 d1 d2 l0
  have KQ := kept_drewN (F := fun _ => False) w1 nq
  have HB2 := hid (HB.out.same KQ); have HK2 := hid ((KQ.block _ (row_lt HK.out) id).trans HK.out); have K2 := hid (K1.out.trans KQ)
  obtain ⟨w2, hw2⟩ : ∃ w2, w1.drewN nq = w2 := ⟨_, rfl⟩
  rw [hw2] at HB2 HK2 K2 ⊢
  have hcb := HB2.out.cells
  obtain ⟨c0, c1⟩ := hcb
  have l0 := HB2.out.look1 HL.out
  obtain ⟨d0, d1, d2⟩ := cells3 HK2.out
  have HR2 := hid (HB2.out.run HL.out)
  clear HB HK K1 KQ hw2
  go_wp2_with fail
  go_quiet (fail)
  have KQ := kept_drewN (F := fun _ => False) w2 nq
  have HR3 := hid (HR2.out.same KQ); have K3 := hid (K2.out.trans KQ)
  obtain ⟨w3, hw3⟩ : ∃ w3, w2.drewN nq = w3 := ⟨_, rfl⟩
  rw [hw3] at HR3 K3 ⊢
  have hrc := HR3.out.cells
  obtain ⟨r0, r1, _⟩ := hrc
  have lk := HR3.out.look_no hv
  have lk0 : (Instr.lookup 55 (.map (some (A (t1, t2, t3)).mp)) (.int .u8 v) false).run Try.prog w3 = .ok (.pointer none) w3 := lk 0
  clear HB2 HK2 K2 KQ hw3 c0 c1 l0 d0 d1 d2
  go_wp2_with fail
  go_returns
  exact ⟨rfl, K3.out⟩
end
end Go.Proofs.Ytaobioleodfafaa
/- Commit: all, voted; Vote, Commit, Applied, Runs. -/
namespace Go.Proofs.Ytaobioleodfafaa
open Go.RowKit
set_option maxHeartbeats 400000 in
theorem did_any {w : World} {b : Nat} {y z : Bool} (h : w.heap[b]? = some (.cells #[.bool y, .bool z] 58 (0, 0))) :
    Calls Try.prog 43 #[.pointer (some ⟨b, 0, none⟩)] w fun e w' => e = .returned (.bool z) ∧ w = w' := by
  have c0 : w.cell? ⟨b, 1, none⟩ = some (.bool z) := by rw [row_cell h]; rfl
  clear h
  go_enter Try.func43, Try.ntmps43
  go_wp2
  go_ret
  exact ⟨rfl, rfl⟩
set_option maxRecDepth 100000 in
set_option maxHeartbeats 1000000 in
theorem gall_yes {O : Nat → Prop} {w : World} {rb mp : Nat} {pb : Int → Nat} {ns : List Int} {Y D : Int → Bool} {st : Int} (hr : GRun O w ⟨rb, mp, pb⟩ ⟨ns, Y, D, st⟩) :
    Calls Try.prog 38 #[.pointer (some ⟨rb, 0, none⟩), .func (.func 39) #[] #[]] w fun e w' => e = .returned (.bool (ns.all Y)) ∧ Kept (fun _ => False) w w' := by
  have HR := hid hr
  obtain ⟨r0, _, _⟩ := HR.out.cells
  clear hr
  go_enter Try.func38, Try.ntmps38
  go_wp2_with (refine wpList_rng rfl _ 55 rfl 5 56 Try.underlying55 mp _ rfl (show MapIs w mp .u8 (pents ns pb) from HR.out.map).mapOf ?_; intro w1 hrg hk1 hz1; have RG := hid hrg; have K1 := hid hk1; clear hrg hk1)
  obtain ⟨it, hit⟩ : ∃ it, w.heap.size = it := ⟨_, rfl⟩
  rw [hit] at RG ⊢
  have HIT := hid (Nat.le_of_eq hit)
  clear hit hz1 r0
  have HSUB := hid (fun (p : Value × Value) (hp : p ∈ (pents ns pb).map fun p => (Value.int .u8 p.1, p.2)) => show ∃ x ∈ ns, p = (.int .u8 x, ptr (pb x)) from by
    simp only [pents, List.map_map, List.mem_map, Function.comp] at hp
    obtain ⟨x, hx, e⟩ := hp
    exact ⟨x, hx, e.symm⟩)
  have HALL := hid (fun x (hx : x ∈ ns) => show ((.int .u8 x, ptr (pb x)) : Value × Value) ∈ (pents ns pb).map fun p => (Value.int .u8 p.1, p.2) from by
    simp only [pents, List.map_map, List.mem_map, Function.comp]
    exact ⟨x, hx, rfl⟩)
  obtain ⟨E, hE⟩ : ∃ E, ((pents ns pb).map fun p => (Value.int .u8 p.1, p.2)) = E := ⟨_, rfl⟩
  rw [hE] at RG HSUB HALL
  clear hE
  try go_frame
  go_loopw [6] (fun _ wr => ∃ R, RngOf wr mp it E R ∧ (∀ x ∈ ns, ((.int .u8 x, ptr (pb x)) : Value × Value) ∈ R ∨ Y x = true) ∧ Kept (fun _ => False) w wr) (fun _ wr => rngLeft wr mp it)
  case atStart => exact ⟨E, RG.out, fun x hx => .inl (HALL.out x hx), K1.out⟩
  case round =>
    rename World => wr
    obtain ⟨R, hrg, hx, hkp⟩ := hrel
    have RR := hid hrg; have HX := hid hx; have KR := hid hkp
    have MW := hid hrg.left
    clear hrg hx hkp RG K1
    go_wp2_with (refine wpList_nxt rfl _ rfl mp it _ _ rfl RR.out ?_ ?_)
    · intro hR0
      have hall : ns.all Y = true := by
        rw [List.all_eq_true]
        intro x hx
        rcases HX.out x hx with h | h
        · rw [hR0] at h; cases h
        · exact h
      clear hR0
      go_wp2
      go_ret
      exact ⟨by rw [hall]; rfl, KR.out⟩
    · intro i kv v w2 hi hrg2 hk2 hz2 hen
      obtain ⟨x, hx, hxe⟩ := HSUB.out _ (RR.out.sub _ (List.mem_of_getElem? hi))
      simp only [Prod.mk.injEq] at hxe
      obtain ⟨rfl, rfl⟩ := hxe
      have hmz : rngLeft w2 mp it < rngLeft wr mp it := by
        rw [hrg2.left, MW.out, List.length_eraseIdx]
        have := (List.getElem?_eq_some_iff.1 hi).1
        split <;> omega
      have HMZ := hid hmz
      have K2 := hid (KR.out.trans' hk2 (fun j e => .inr (by have := HIT.out; omega)))
      have hpt := (HR.out.same K2.out).part x hx
      have HE := hid (fun y hy => mem_erase hi (y := y) hy)
      have HPT := hid hpt; have HG2 := hid hrg2; have HXN := hid hx
      unfold ptr at hen
      simp only [ptr]
      clear hmz hrg2 hk2 hz2 hi hpt hx
      go_wp2_with fail
      refine (yes_any HPT.out).mono ?_
      rintro e w3 ⟨rfl, rfl⟩
      cases hy : Y x with
      | true =>
        go_wp2
        go_roundw
        case rel =>
          refine ⟨_, HG2.out, fun y hyn => ?_, K2.out⟩
          rcases HX.out y hyn with h | h
          · rcases HE.out _ h with h | h
            · simp only [Prod.mk.injEq, Value.int.injEq, true_and] at h
              rw [h.1]; exact .inr hy
            · exact .inl h
          · exact .inr h
        case measure => exact HMZ.out
      | false =>
        have hall : ns.all Y = false := by
          rw [List.all_eq_false]
          exact ⟨x, HXN.out, by rw [hy]; decide⟩
        go_wp2
        go_ret
        exact ⟨by rw [hall]; rfl, K2.out⟩
set_option maxRecDepth 100000 in
set_option maxHeartbeats 1000000 in
theorem gall_did {O : Nat → Prop} {w : World} {rb mp : Nat} {pb : Int → Nat} {ns : List Int} {Y D : Int → Bool} {st : Int} (hr : GRun O w ⟨rb, mp, pb⟩ ⟨ns, Y, D, st⟩) :
    Calls Try.prog 38 #[.pointer (some ⟨rb, 0, none⟩), .func (.func 43) #[] #[]] w fun e w' => e = .returned (.bool (ns.all D)) ∧ Kept (fun _ => False) w w' := by
  have HR := hid hr
  obtain ⟨r0, _, _⟩ := HR.out.cells
  clear hr
  go_enter Try.func38, Try.ntmps38
  go_wp2_with (refine wpList_rng rfl _ 55 rfl 5 56 Try.underlying55 mp _ rfl (show MapIs w mp .u8 (pents ns pb) from HR.out.map).mapOf ?_; intro w1 hrg hk1 hz1; have RG := hid hrg; have K1 := hid hk1; clear hrg hk1)
  obtain ⟨it, hit⟩ : ∃ it, w.heap.size = it := ⟨_, rfl⟩
  rw [hit] at RG ⊢
  have HIT := hid (Nat.le_of_eq hit)
  clear hit hz1 r0
  have HSUB := hid (fun (p : Value × Value) (hp : p ∈ (pents ns pb).map fun p => (Value.int .u8 p.1, p.2)) => show ∃ x ∈ ns, p = (.int .u8 x, ptr (pb x)) from by
    simp only [pents, List.map_map, List.mem_map, Function.comp] at hp
    obtain ⟨x, hx, e⟩ := hp
    exact ⟨x, hx, e.symm⟩)
  have HALL := hid (fun x (hx : x ∈ ns) => show ((.int .u8 x, ptr (pb x)) : Value × Value) ∈ (pents ns pb).map fun p => (Value.int .u8 p.1, p.2) from by
    simp only [pents, List.map_map, List.mem_map, Function.comp]
    exact ⟨x, hx, rfl⟩)
  obtain ⟨E, hE⟩ : ∃ E, ((pents ns pb).map fun p => (Value.int .u8 p.1, p.2)) = E := ⟨_, rfl⟩
  rw [hE] at RG HSUB HALL
  clear hE
  try go_frame
  go_loopw [6] (fun _ wr => ∃ R, RngOf wr mp it E R ∧ (∀ x ∈ ns, ((.int .u8 x, ptr (pb x)) : Value × Value) ∈ R ∨ D x = true) ∧ Kept (fun _ => False) w wr) (fun _ wr => rngLeft wr mp it)
  case atStart => exact ⟨E, RG.out, fun x hx => .inl (HALL.out x hx), K1.out⟩
  case round =>
    rename World => wr
    obtain ⟨R, hrg, hx, hkp⟩ := hrel
    have RR := hid hrg; have HX := hid hx; have KR := hid hkp
    have MW := hid hrg.left
    clear hrg hx hkp RG K1
    go_wp2_with (refine wpList_nxt rfl _ rfl mp it _ _ rfl RR.out ?_ ?_)
    · intro hR0
      have hall : ns.all D = true := by
        rw [List.all_eq_true]
        intro x hx
        rcases HX.out x hx with h | h
        · rw [hR0] at h; cases h
        · exact h
      clear hR0
      go_wp2
      go_ret
      exact ⟨by rw [hall]; rfl, KR.out⟩
    · intro i kv v w2 hi hrg2 hk2 hz2 hen
      obtain ⟨x, hx, hxe⟩ := HSUB.out _ (RR.out.sub _ (List.mem_of_getElem? hi))
      simp only [Prod.mk.injEq] at hxe
      obtain ⟨rfl, rfl⟩ := hxe
      have hmz : rngLeft w2 mp it < rngLeft wr mp it := by
        rw [hrg2.left, MW.out, List.length_eraseIdx]
        have := (List.getElem?_eq_some_iff.1 hi).1
        split <;> omega
      have HMZ := hid hmz
      have K2 := hid (KR.out.trans' hk2 (fun j e => .inr (by have := HIT.out; omega)))
      have hpt := (HR.out.same K2.out).part x hx
      have HE := hid (fun y hy => mem_erase hi (y := y) hy)
      have HPT := hid hpt; have HG2 := hid hrg2; have HXN := hid hx
      unfold ptr at hen
      simp only [ptr]
      clear hmz hrg2 hk2 hz2 hi hpt hx
      go_wp2_with fail
      refine (did_any HPT.out).mono ?_
      rintro e w3 ⟨rfl, rfl⟩
      cases hy : D x with
      | true =>
        go_wp2
        go_roundw
        case rel =>
          refine ⟨_, HG2.out, fun y hyn => ?_, K2.out⟩
          rcases HX.out y hyn with h | h
          · rcases HE.out _ h with h | h
            · simp only [Prod.mk.injEq, Value.int.injEq, true_and] at h
              rw [h.1]; exact .inr hy
            · exact .inl h
          · exact .inr h
        case measure => exact HMZ.out
      | false =>
        have hall : ns.all D = false := by
          rw [List.all_eq_false]
          exact ⟨x, HXN.out, by rw [hy]; decide⟩
        go_wp2
        go_ret
        exact ⟨by rw [hall]; rfl, K2.out⟩

set_option maxHeartbeats 400000 in
theorem gvoted_any {O : Nat → Prop} {w : World} {a : Ad} {r : Rn} (hr : GRun O w a r) :
    Calls Try.prog 18 #[.pointer (some ⟨a.rb, 0, none⟩)] w fun e w' => e = .returned (.bool (r.ns.all r.Y)) ∧ Kept (fun _ => False) w w' := by
  obtain ⟨rb, mp, pb⟩ := a
  obtain ⟨ns, Y, D, st⟩ := r
  have HR := hid hr
  clear hr
  simp only
  go_enter Try.func18, Try.ntmps18
  go_wp2_with fail
  refine (gall_yes HR.out).mono ?_
  rintro e w1 ⟨rfl, hk⟩
  have KK := hid hk
  clear hk
  go_wp2
  go_ret
  exact ⟨rfl, KK.out⟩
end Go.Proofs.Ytaobioleodfafaa
/- Commit: Vote, Commit, Applied, Runs at a book with many runs. -/
namespace Go.Proofs.Ytaobioleodfafaa
open Go.RowKit
theorem lookG_none {G : List (Tx × Rn)} {t : Tx} (h : lookG G t = none) : ∀ p ∈ G, p.1 ≠ t := by
  induction G with
  | nil => simp
  | cons q G ih =>
    obtain ⟨a, x⟩ := q
    unfold lookG at h
    split at h
    · cases h
    · rename_i hne
      intro p hp
      rcases List.mem_cons.1 hp with rfl | hp
      · exact fun e => hne e.symm
      · exact ih h p hp
theorem setG_self : ∀ (G : List (Tx × Rn)) {t : Tx} {r : Rn}, (G.map (·.1)).Nodup → lookG G t = some r → setG G t r = G
  | [], _, _, _, h => by simp [lookG] at h
  | (a, x) :: G, t, r, hn, h => by
    simp only [List.map_cons, List.nodup_cons] at hn
    have e : setG ((a, x) :: G) t r = (if a = t then (t, r) else (a, x)) :: setG G t r := rfl
    unfold lookG at h
    rw [e]
    by_cases hat : t = a
    · subst hat
      rw [if_pos rfl] at h ⊢
      simp only [Option.some.injEq] at h
      subst h
      congr 1
      unfold setG
      have : ∀ p ∈ G, (if p.1 = t then (t, x) else p) = p := fun p hp => if_neg (fun e => hn.1 (List.mem_map.2 ⟨p, hp, e⟩))
      rw [List.map_congr_left this, List.map_id']
    · rw [if_neg hat] at h
      rw [if_neg (fun e => hat e.symm), setG_self G hn.2 h]
section
variable {O : Nat → Prop} {w : World} {a : Ad} {r : Rn}
theorem GRun.setState (h : GRun O w a r) (s : Int) : GRun O (w.setCell ⟨a.rb, 1, none⟩ (.int .i64 s)) a { r with st := s } ∧ Kept O w (w.setCell ⟨a.rb, 1, none⟩ (.int .i64 s)) := by
  have k : Kept (fun i => i = a.rb) w (w.setCell ⟨a.rb, 1, none⟩ (.int .i64 s)) := Kept.setCell (F := fun i => i = a.rb) (Kept.refl _ _) (p := ⟨a.rb, 1, none⟩) (.inl rfl) _
  have hn := h.ne
  exact ⟨⟨row_set h.obj 1 _, h.map.of_block (k.block _ h.map.lt hn.1), fun v hv => (k.block _ (row_lt (h.part v hv)) (hn.2 v hv).1).trans (h.part v hv), h.inj, h.own⟩, k.mono (fun i _ e => by rw [e]; exact h.own.1)⟩
theorem GRun.setPart (h : GRun O w a r) {x : Int} (hx : x ∈ r.ns) (i : Nat) (Y D : Int → Bool) (u : Value)
    (hrow : (#[.bool (r.Y x), .bool (r.D x)] : Array Value).setIfInBounds i u = #[.bool (Y x), .bool (D x)]) (ho : ∀ v, v ≠ x → Y v = r.Y v ∧ D v = r.D v) :
    GRun O (w.setCell ⟨a.pb x, i, none⟩ u) a { r with Y := Y, D := D } ∧ Kept O w (w.setCell ⟨a.pb x, i, none⟩ u) := by
  have k : Kept (fun i => i = a.pb x) w (w.setCell ⟨a.pb x, i, none⟩ u) := Kept.setCell (F := fun i => i = a.pb x) (Kept.refl _ _) (p := ⟨a.pb x, i, none⟩) (.inl rfl) _
  have hn := h.ne
  refine ⟨⟨(k.block _ (row_lt h.obj) (fun e => (hn.2 x hx).1 e.symm)).trans h.obj, h.map.of_block (k.block _ h.map.lt (hn.2 x hx).2), fun v hv => ?_, h.inj, h.own⟩, k.mono (fun i _ e => by rw [e]; exact h.own.2.2 x hx)⟩
  by_cases hvx : v = x
  · subst hvx
    have h1 := row_set (h.part v hv) i u
    rw [hrow] at h1
    exact h1
  · obtain ⟨e1, e2⟩ := ho v hvx
    show (w.setCell _ u).heap[a.pb v]? = some (.cells #[.bool (Y v), .bool (D v)] _ _)
    rw [e1, e2]
    exact (k.block _ (row_lt (h.part v hv)) (fun e => hvx (h.inj v hv x hx e))).trans (h.part v hv)
end
/-- what a vote comes to -/
def voteR (o : Option Rn) (x : Int) (yes : Bool) : (Int × Int) × Option Rn :=
  match o with
  | none => ((0, 6), none)
  | some r => if x ∈ r.ns then (if r.st = 1 then (if yes then (if r.ns.all (setY r.Y x) then ((3, 0), some { r with Y := setY r.Y x }) else ((1, 0), some { r with Y := setY r.Y x })) else ((4, 0), some { r with st := 4 }))
      else if yes && r.Y x then ((r.st, 0), none) else ((0, 9), none)) else ((0, 1), none)
def comR (o : Option Rn) : Int × Option Rn :=
  match o with
  | none => (6, none)
  | some r => if r.st = 4 then (9, none) else if r.ns.all r.Y then (0, some { r with st := 3 }) else (9, none)
def appR (o : Option Rn) (x : Int) : (Bool × Int) × Option Rn :=
  match o with
  | none => ((false, 6), none)
  | some r => if x ∈ r.ns then (if r.st = 3 then ((r.ns.all (setY r.D x), 0), some { r with D := setY r.D x }) else ((false, 9), none)) else ((false, 1), none)
def updG (G : List (Tx × Rn)) (t : Tx) : Option Rn → List (Tx × Rn)
  | none => G
  | some r => setG G t r
section
variable {own : Nat → Option Tx} {B : Nat} {w : World} {bb m1 m2 : Nat} {G : List (Tx × Rn)} {A : Tx → Ad} {K : List (Tx × Int)} {t1 t2 t3 : Int}
set_option maxRecDepth 100000 in
set_option maxHeartbeats 1000000 in
theorem gvote_any (hb : GBook own B w bb m1 m2 G A K) (x : Int) (yes : Bool) :
    Calls Try.prog 10 #[.pointer (some ⟨bb, 0, none⟩), .agg #[.int .u8 t1, .int .u32 t2, .int .u32 t3], .int .u8 x, .bool yes] w fun e w' => e = .returned (.tuple #[.int .i64 (voteR (lookG G (t1, t2, t3)) x yes).1.1, .int .i64 (voteR (lookG G (t1, t2, t3)) x yes).1.2]) ∧
      GBook own B w' bb m1 m2 (updG G (t1, t2, t3) (voteR (lookG G (t1, t2, t3)) x yes).2) A K ∧ Kept (fun i => own i = some (t1, t2, t3)) w w' := by
  cases hl : lookG G (t1, t2, t3) with
  | none =>
    have hk1 := (Kept.refl (fun _ => False) w).alloc (.cells #[.int .u8 t1, .int .u32 t2, .int .u32 t3] 28)
    have hkb := row_new w (.cells #[.int .u8 t1, .int .u32 t2, .int .u32 t3] 28)
    obtain ⟨w1, hw1⟩ : ∃ w1, w.alloc (.cells #[.int .u8 t1, .int .u32 t2, .int .u32 t3] 28) = w1 := ⟨_, rfl⟩
    obtain ⟨kb, hkb'⟩ : ∃ kb, w.heap.size = kb := ⟨_, rfl⟩
    rw [hw1] at hk1 hkb
    rw [hkb'] at hkb
    have HB := hid (hb.same hk1); have HK := hid hkb; have K1 := hid hk1
    have hcb := HB.out.cells
    obtain ⟨c0, c1⟩ := hcb
    obtain ⟨d0, d1, d2⟩ := cells3 HK.out
    have HL := hid hl
    clear hb hk1 hkb hl
    go_enter Try.func10, Try.ntmps10
    go_wp2_with fail
    try rw [hw1]
    clear hw1 hkb' c0 c1 d0 d1 d2
    refine (gat_none HB.out HL.out x).mono ?_
    rintro e w2 ⟨rfl, hk2⟩
    have K2 := hid (K1.out.trans hk2); have HB2 := hid (HB.out.same hk2)
    clear hk2
    go_wp2
    go_returns
    exact ⟨rfl, HB2.out, K2.out.mono (fun _ _ h => h.elim)⟩
  | some r =>
    by_cases hx : x ∈ r.ns
    · have HX := hid hx
      have HV := hid (show voteR (some r) x yes = if r.st = 1 then (if yes then (if r.ns.all (setY r.Y x) then ((3, 0), some { r with Y := setY r.Y x }) else ((1, 0), some { r with Y := setY r.Y x })) else ((4, 0), some { r with st := 4 })) else if yes && r.Y x then ((r.st, 0), none) else ((0, 9), none) by simp only [voteR, if_pos hx])
      clear hx
      have hk1 := (Kept.refl (fun _ => False) w).alloc (.cells #[.int .u8 t1, .int .u32 t2, .int .u32 t3] 28)
      have hkb := row_new w (.cells #[.int .u8 t1, .int .u32 t2, .int .u32 t3] 28)
      obtain ⟨w1, hw1⟩ : ∃ w1, w.alloc (.cells #[.int .u8 t1, .int .u32 t2, .int .u32 t3] 28) = w1 := ⟨_, rfl⟩
      obtain ⟨kb, hkb'⟩ : ∃ kb, w.heap.size = kb := ⟨_, rfl⟩
      rw [hw1] at hk1 hkb
      rw [hkb'] at hkb
      have HB := hid (hb.same hk1); have HK := hid hkb; have K1 := hid hk1
      have hcb := HB.out.cells
      obtain ⟨c0, c1⟩ := hcb
      obtain ⟨d0, d1, d2⟩ := cells3 HK.out
      have HL := hid hl
      clear hb hk1 hkb hl
      go_enter Try.func10, Try.ntmps10
      go_wp2_with fail
      try rw [hw1]
      clear hw1 hkb' c0 c1 d0 d1 d2
      refine (gat_ok HB.out HL.out HX.out).mono ?_
      rintro e w2 ⟨rfl, hk2⟩
      have HB2 := hid (HB.out.same hk2); have K2 := hid (K1.out.trans hk2)
      have HR2 := hid (HB2.out.run HL.out)
      obtain ⟨r0, r1, rf⟩ := HR2.out.cells
      obtain ⟨p0, p1, pf, pf1⟩ := HR2.out.pcell HX.out
      clear hk2 HB K1 r0
      by_cases hs : r.st = 1
      · have HS := hid hs
        have hs1 : (r.st != 1) = false := by simpa using hs
        cases yes with
        | false =>
          obtain ⟨hr3, hk3⟩ := HR2.out.setState 4
          have q1 := hr3.cells.2.1
          have HR3 := hid hr3; have K3 := hid hk3
          clear hs hr3 hk3
          go_wp2
          go_returns
          rw [HV.out, if_pos HS.out]
          exact ⟨rfl, HB2.out.put _ _ HR3.out K3.out, (K2.out.mono (fun _ _ h => h.elim)).trans K3.out⟩
        | true =>
          obtain ⟨hr3, hk3⟩ := HR2.out.setPart HX.out 0 (setY r.Y x) r.D (.bool true) (by simp [setY]) (fun v hv => ⟨by simp [setY, hv], rfl⟩)
          have HR3 := hid hr3; have K3 := hid hk3
          obtain ⟨al, hal⟩ : ∃ a, r.ns.all (setY r.Y x) = a := ⟨_, rfl⟩
          have HAL := hid hal
          clear hs hr3 hk3 hal
          go_wp2_with fail
          refine (gvoted_any HR3.out).mono ?_
          rintro e w4 ⟨rfl, hk4⟩
          simp only
          rw [HAL.out]
          have HR4 := hid (HR3.out.same hk4)
          have K4 := hid (K3.out.trans' hk4 (fun _ h => h.elim))
          have r4 := HR4.out.cells.2.1
          have FIN := hid (⟨HB2.out.put _ _ HR4.out K4.out, (K2.out.mono (fun _ _ h => h.elim)).trans K4.out⟩ : GBook own B w4 bb m1 m2 (setG G (t1, t2, t3) { r with Y := setY r.Y x }) A K ∧ Kept (fun i => own i = some (t1, t2, t3)) w w4)
          have HV2 := hid (show voteR (some r) x true = if al then ((3, 0), some { r with Y := setY r.Y x }) else ((1, 0), some { r with Y := setY r.Y x }) by rw [HV.out, if_pos HS.out, HAL.out]; rfl)
          clear hk4
          cases al with
          | true =>
            go_wp2
            go_returns
            rw [HV2.out]
            exact ⟨rfl, FIN.out.1, FIN.out.2⟩
          | false =>
            simp only at r4
            rw [HS.out] at r4
            go_wp2
            go_returns
            rw [HV2.out]
            exact ⟨rfl, FIN.out.1, FIN.out.2⟩
      · have hs1 : (r.st != 1) = true := by simpa using hs
        have HS := hid hs
        have FIN := hid (⟨HB2.out, K2.out.mono (fun _ _ h => h.elim)⟩ : GBook own B w2 bb m1 m2 G A K ∧ Kept (fun i => own i = some (t1, t2, t3)) w w2)
        obtain ⟨yx, hyx⟩ : ∃ y, r.Y x = y := ⟨_, rfl⟩
        rw [hyx] at p0
        have HYX := hid hyx
        clear hs hyx
        cases yes with
        | false =>
          go_wp2
          go_returns
          rw [HV.out, if_neg HS.out]
          exact ⟨rfl, FIN.out⟩
        | true =>
          cases yx with
          | false =>
            go_wp2
            go_returns
            rw [HV.out, if_neg HS.out, HYX.out]
            exact ⟨rfl, FIN.out⟩
          | true =>
            go_wp2
            go_returns
            rw [HV.out, if_neg HS.out, HYX.out]
            exact ⟨rfl, FIN.out⟩
    · have HX := hid hx
      have HV := hid (show voteR (some r) x yes = ((0, 1), none) by simp only [voteR, if_neg hx])
      clear hx
      have hk1 := (Kept.refl (fun _ => False) w).alloc (.cells #[.int .u8 t1, .int .u32 t2, .int .u32 t3] 28)
      have hkb := row_new w (.cells #[.int .u8 t1, .int .u32 t2, .int .u32 t3] 28)
      obtain ⟨w1, hw1⟩ : ∃ w1, w.alloc (.cells #[.int .u8 t1, .int .u32 t2, .int .u32 t3] 28) = w1 := ⟨_, rfl⟩
      obtain ⟨kb, hkb'⟩ : ∃ kb, w.heap.size = kb := ⟨_, rfl⟩
      rw [hw1] at hk1 hkb
      rw [hkb'] at hkb
      have HB := hid (hb.same hk1); have HK := hid hkb; have K1 := hid hk1
      have hcb := HB.out.cells
      obtain ⟨c0, c1⟩ := hcb
      obtain ⟨d0, d1, d2⟩ := cells3 HK.out
      have HL := hid hl
      clear hb hk1 hkb hl
      go_enter Try.func10, Try.ntmps10
      go_wp2_with fail
      try rw [hw1]
      clear hw1 hkb' c0 c1 d0 d1 d2
      refine (gat_arg HB.out HL.out HX.out).mono ?_
      rintro e w2 ⟨rfl, hk2⟩
      have K2 := hid (K1.out.trans hk2); have HB2 := hid (HB.out.same hk2)
      clear hk2
      go_wp2
      go_returns
      rw [HV.out]
      exact ⟨rfl, HB2.out, K2.out.mono (fun _ _ h => h.elim)⟩
end
end Go.Proofs.Ytaobioleodfafaa
/- Commit: Commit, Applied, Runs at a book with many runs; the nil book. -/
namespace Go.Proofs.Ytaobioleodfafaa
open Go.RowKit
section
variable {own : Nat → Option Tx} {B : Nat} {w : World} {bb m1 m2 : Nat} {G : List (Tx × Rn)} {A : Tx → Ad} {K : List (Tx × Int)} {t1 t2 t3 : Int}
set_option maxRecDepth 100000 in
set_option maxHeartbeats 1000000 in
theorem gcommit_any (hb : GBook own B w bb m1 m2 G A K) :
    Calls Try.prog 11 #[.pointer (some ⟨bb, 0, none⟩), .agg #[.int .u8 t1, .int .u32 t2, .int .u32 t3]] w fun e w' => e = .returned (.int .i64 (comR (lookG G (t1, t2, t3))).1) ∧
      GBook own B w' bb m1 m2 (updG G (t1, t2, t3) (comR (lookG G (t1, t2, t3))).2) A K ∧ Kept (fun i => own i = some (t1, t2, t3)) w w' := by
  cases hl : lookG G (t1, t2, t3) with
  | none =>
    have hk1 := (Kept.refl (fun _ => False) w).alloc (.cells #[.int .u8 t1, .int .u32 t2, .int .u32 t3] 28)
    have hkb := row_new w (.cells #[.int .u8 t1, .int .u32 t2, .int .u32 t3] 28)
    obtain ⟨w1, hw1⟩ : ∃ w1, w.alloc (.cells #[.int .u8 t1, .int .u32 t2, .int .u32 t3] 28) = w1 := ⟨_, rfl⟩
    obtain ⟨kb, hkb'⟩ : ∃ kb, w.heap.size = kb := ⟨_, rfl⟩
    rw [hw1] at hk1 hkb
    rw [hkb'] at hkb
    have HB := hid (hb.same hk1); have HK := hid hkb; have K1 := hid hk1
    have hcb := HB.out.cells
    obtain ⟨c0, c1⟩ := hcb
    obtain ⟨d0, d1, d2⟩ := cells3 HK.out
    have HL := hid hl
    clear hb hk1 hkb hl
    have l0 := HB.out.look0 HL.out
    go_enter Try.func11, Try.ntmps11
    go_wp2_with fail
    try rw [hw1, hkb']
    clear hw1 hkb'
    go_quiet (fail)
    have KQ := kept_drewN (F := fun _ => False) w1 nq
    have HB2 := hid (HB.out.same KQ); have K2 := hid (K1.out.trans KQ)
    clear KQ
    go_wp2
    go_ret
    exact ⟨rfl, HB2.out, K2.out.mono (fun _ _ h => h.elim)⟩
  | some r =>
    have hk1 := (Kept.refl (fun _ => False) w).alloc (.cells #[.int .u8 t1, .int .u32 t2, .int .u32 t3] 28)
    have hkb := row_new w (.cells #[.int .u8 t1, .int .u32 t2, .int .u32 t3] 28)
    obtain ⟨w1, hw1⟩ : ∃ w1, w.alloc (.cells #[.int .u8 t1, .int .u32 t2, .int .u32 t3] 28) = w1 := ⟨_, rfl⟩
    obtain ⟨kb, hkb'⟩ : ∃ kb, w.heap.size = kb := ⟨_, rfl⟩
    rw [hw1] at hk1 hkb
    rw [hkb'] at hkb
    have HB := hid (hb.same hk1); have HK := hid hkb; have K1 := hid hk1
    have hcb := HB.out.cells
    obtain ⟨c0, c1⟩ := hcb
    obtain ⟨d0, d1, d2⟩ := cells3 HK.out
    have HL := hid hl
    clear hb hk1 hkb hl
    have l0 := HB.out.look1 HL.out
    go_enter Try.func11, Try.ntmps11
    go_wp2_with fail
    try rw [hw1, hkb']
    clear hw1 hkb'
    go_quiet (fail)
    clear c0 c1 d0 d1 d2 l0
    have KQ := kept_drewN (F := fun _ => False) w1 nq
    have HB2 := hid (HB.out.same KQ); have HK2 := hid ((KQ.block _ (row_lt HK.out) id).trans HK.out); have K2 := hid (K1.out.trans KQ)
    obtain ⟨w2, hw2⟩ : ∃ w2, w1.drewN nq = w2 := ⟨_, rfl⟩
    rw [hw2] at HB2 HK2 K2 ⊢
    have hcb := HB2.out.cells
    obtain ⟨c0, c1⟩ := hcb
    have l0 := HB2.out.look1 HL.out
    obtain ⟨d0, d1, d2⟩ := cells3 HK2.out
    clear HB HK K1 KQ hw2
    go_wp2_with fail
    go_quiet (fail)
    have KQ := kept_drewN (F := fun _ => False) w2 nq
    have HB3 := hid (HB2.out.same KQ); have K3 := hid (K2.out.trans KQ)
    obtain ⟨w3, hw3⟩ : ∃ w3, w2.drewN nq = w3 := ⟨_, rfl⟩
    rw [hw3] at HB3 K3 ⊢
    have HR3 := hid (HB3.out.run HL.out)
    have hrc := HR3.out.cells
    obtain ⟨r0, r1, rf⟩ := hrc
    clear HB2 HK2 K2 KQ hw3 c0 c1 l0 d0 d1 d2 r0
    by_cases h4 : r.st = 4
    · have HV := hid (show comR (some r) = (9, none) by simp [comR, h4])
      have h4' : (r.st == 4) = true := by simpa using h4
      clear h4
      go_wp2
      go_ret
      rw [HV.out]
      exact ⟨rfl, HB3.out, K3.out.mono (fun _ _ h => h.elim)⟩
    · have h4' : (r.st == 4) = false := by simpa using h4
      obtain ⟨al, hal⟩ : ∃ a, r.ns.all r.Y = a := ⟨_, rfl⟩
      have HV := hid (show comR (some r) = if al then (0, some { r with st := 3 }) else (9, none) by simp [comR, h4, hal])
      have HAL := hid hal
      clear h4 hal
      go_wp2_with fail
      refine (gvoted_any HR3.out).mono ?_
      rintro e w4 ⟨rfl, hk4⟩
      rw [HAL.out]
      have HR4 := hid (HR3.out.same hk4); have HB4 := hid (HB3.out.same hk4); have K4 := hid (K3.out.trans hk4)
      have hrc := HR4.out.cells
      obtain ⟨_, r1, rf⟩ := hrc
      clear hk4
      cases al with
      | true =>
        obtain ⟨hr5, hk5⟩ := HR4.out.setState 3
        have HR5 := hid hr5; have K5 := hid hk5
        clear hr5 hk5
        go_wp2
        go_ret
        rw [HV.out]
        exact ⟨rfl, HB4.out.put _ _ HR5.out K5.out, (K4.out.mono (fun _ _ h => h.elim)).trans K5.out⟩
      | false =>
        go_wp2
        go_ret
        rw [HV.out]
        exact ⟨rfl, HB4.out, K4.out.mono (fun _ _ h => h.elim)⟩
def stR (o : Option Rn) : Int := match o with | none => 0 | some r => r.st
set_option maxRecDepth 100000 in
set_option maxHeartbeats 1000000 in
theorem gruns_any (hb : GBook own B w bb m1 m2 G A K) :
    Calls Try.prog 13 #[.pointer (some ⟨bb, 0, none⟩), .agg #[.int .u8 t1, .int .u32 t2, .int .u32 t3]] w fun e w' => e = .returned (.int .i64 (stR (lookG G (t1, t2, t3)))) ∧ Kept (fun _ => False) w w' := by
  cases hl : lookG G (t1, t2, t3) with
  | none =>
    have hk1 := (Kept.refl (fun _ => False) w).alloc (.cells #[.int .u8 t1, .int .u32 t2, .int .u32 t3] 28)
    have hkb := row_new w (.cells #[.int .u8 t1, .int .u32 t2, .int .u32 t3] 28)
    obtain ⟨w1, hw1⟩ : ∃ w1, w.alloc (.cells #[.int .u8 t1, .int .u32 t2, .int .u32 t3] 28) = w1 := ⟨_, rfl⟩
    obtain ⟨kb, hkb'⟩ : ∃ kb, w.heap.size = kb := ⟨_, rfl⟩
    rw [hw1] at hk1 hkb
    rw [hkb'] at hkb
    have HB := hid (hb.same hk1); have HK := hid hkb; have K1 := hid hk1
    have hcb := HB.out.cells
    obtain ⟨c0, c1⟩ := hcb
    obtain ⟨d0, d1, d2⟩ := cells3 HK.out
    have HL := hid hl
    clear hb hk1 hkb hl
    have l0 := HB.out.look0 HL.out
    go_enter Try.func13, Try.ntmps13
    go_wp2_with fail
    try rw [hw1, hkb']
    clear hw1 hkb'
    go_quiet (fail)
    have K2 := hid (K1.out.trans (kept_drewN (F := fun _ => False) w1 nq))
    go_wp2
    go_ret
    exact ⟨rfl, K2.out⟩
  | some r =>
    have hk1 := (Kept.refl (fun _ => False) w).alloc (.cells #[.int .u8 t1, .int .u32 t2, .int .u32 t3] 28)
    have hkb := row_new w (.cells #[.int .u8 t1, .int .u32 t2, .int .u32 t3] 28)
    obtain ⟨w1, hw1⟩ : ∃ w1, w.alloc (.cells #[.int .u8 t1, .int .u32 t2, .int .u32 t3] 28) = w1 := ⟨_, rfl⟩
    obtain ⟨kb, hkb'⟩ : ∃ kb, w.heap.size = kb := ⟨_, rfl⟩
    rw [hw1] at hk1 hkb
    rw [hkb'] at hkb
    have HB := hid (hb.same hk1); have HK := hid hkb; have K1 := hid hk1
    have hcb := HB.out.cells
    obtain ⟨c0, c1⟩ := hcb
    obtain ⟨d0, d1, d2⟩ := cells3 HK.out
    have HL := hid hl
    clear hb hk1 hkb hl
    have l0 := HB.out.look1 HL.out
    go_enter Try.func13, Try.ntmps13
    go_wp2_with fail
    try rw [hw1, hkb']
    clear hw1 hkb'
    go_quiet (fail)
    clear c0 c1 d0 d1 d2 l0
    have KQ := kept_drewN (F := fun _ => False) w1 nq
    have HB2 := hid (HB.out.same KQ); have HK2 := hid ((KQ.block _ (row_lt HK.out) id).trans HK.out); have K2 := hid (K1.out.trans KQ)
    obtain ⟨w2, hw2⟩ : ∃ w2, w1.drewN nq = w2 := ⟨_, rfl⟩
    rw [hw2] at HB2 HK2 K2 ⊢
    have hcb := HB2.out.cells
    obtain ⟨c0, c1⟩ := hcb
    have l0 := HB2.out.look1 HL.out
    obtain ⟨d0, d1, d2⟩ := cells3 HK2.out
    have hrc := (HB2.out.run HL.out).cells
    obtain ⟨r0, r1, rf⟩ := hrc
    clear HB HK K1 KQ hw2
    go_wp2_with fail
    go_quiet (fail)
    have K3 := hid (K2.out.trans (kept_drewN (F := fun _ => False) w2 nq))
    go_wp2
    go_ret
    exact ⟨rfl, K3.out⟩
set_option maxRecDepth 100000 in
set_option maxHeartbeats 1000000 in
theorem gapplied_any (hb : GBook own B w bb m1 m2 G A K) (x : Int) :
    Calls Try.prog 24 #[.pointer (some ⟨bb, 0, none⟩), .agg #[.int .u8 t1, .int .u32 t2, .int .u32 t3], .int .u8 x] w fun e w' => e = .returned (.tuple #[.bool (appR (lookG G (t1, t2, t3)) x).1.1, .int .i64 (appR (lookG G (t1, t2, t3)) x).1.2]) ∧
      GBook own B w' bb m1 m2 (updG G (t1, t2, t3) (appR (lookG G (t1, t2, t3)) x).2) A K ∧ Kept (fun i => own i = some (t1, t2, t3)) w w' := by
  cases hl : lookG G (t1, t2, t3) with
  | none =>
    have hk1 := (Kept.refl (fun _ => False) w).alloc (.cells #[.int .u8 t1, .int .u32 t2, .int .u32 t3] 28)
    have hkb := row_new w (.cells #[.int .u8 t1, .int .u32 t2, .int .u32 t3] 28)
    obtain ⟨w1, hw1⟩ : ∃ w1, w.alloc (.cells #[.int .u8 t1, .int .u32 t2, .int .u32 t3] 28) = w1 := ⟨_, rfl⟩
    obtain ⟨kb, hkb'⟩ : ∃ kb, w.heap.size = kb := ⟨_, rfl⟩
    rw [hw1] at hk1 hkb
    rw [hkb'] at hkb
    have HB := hid (hb.same hk1); have HK := hid hkb; have K1 := hid hk1
    have hcb := HB.out.cells
    obtain ⟨c0, c1⟩ := hcb
    obtain ⟨d0, d1, d2⟩ := cells3 HK.out
    have HL := hid hl
    clear hb hk1 hkb hl
    go_enter Try.func24, Try.ntmps24
    go_wp2_with fail
    try rw [hw1]
    clear hw1 hkb' c0 c1 d0 d1 d2
    refine (gat_none HB.out HL.out x).mono ?_
    rintro e w2 ⟨rfl, hk2⟩
    have K2 := hid (K1.out.trans hk2); have HB2 := hid (HB.out.same hk2)
    clear hk2
    go_wp2
    go_returns
    exact ⟨rfl, HB2.out, K2.out.mono (fun _ _ h => h.elim)⟩
  | some r =>
    by_cases hx : x ∈ r.ns
    · have HX := hid hx
      have HV := hid (show appR (some r) x = if r.st = 3 then ((r.ns.all (setY r.D x), 0), some { r with D := setY r.D x }) else ((false, 9), none) by simp only [appR, if_pos hx])
      clear hx
      have hk1 := (Kept.refl (fun _ => False) w).alloc (.cells #[.int .u8 t1, .int .u32 t2, .int .u32 t3] 28)
      have hkb := row_new w (.cells #[.int .u8 t1, .int .u32 t2, .int .u32 t3] 28)
      obtain ⟨w1, hw1⟩ : ∃ w1, w.alloc (.cells #[.int .u8 t1, .int .u32 t2, .int .u32 t3] 28) = w1 := ⟨_, rfl⟩
      obtain ⟨kb, hkb'⟩ : ∃ kb, w.heap.size = kb := ⟨_, rfl⟩
      rw [hw1] at hk1 hkb
      rw [hkb'] at hkb
      have HB := hid (hb.same hk1); have HK := hid hkb; have K1 := hid hk1
      have hcb := HB.out.cells
      obtain ⟨c0, c1⟩ := hcb
      obtain ⟨d0, d1, d2⟩ := cells3 HK.out
      have HL := hid hl
      clear hb hk1 hkb hl
      go_enter Try.func24, Try.ntmps24
      go_wp2_with fail
      try rw [hw1]
      clear hw1 hkb' c0 c1 d0 d1 d2
      refine (gat_ok HB.out HL.out HX.out).mono ?_
      rintro e w2 ⟨rfl, hk2⟩
      have HB2 := hid (HB.out.same hk2); have K2 := hid (K1.out.trans hk2)
      have HR2 := hid (HB2.out.run HL.out)
      obtain ⟨r0, r1, rf⟩ := HR2.out.cells
      obtain ⟨p0, p1, pf, pf1⟩ := HR2.out.pcell HX.out
      clear hk2 HB K1 r0
      by_cases hs : r.st = 3
      · have HS := hid hs
        have hs1 : (r.st != 3) = false := by simpa using hs
        obtain ⟨hr3, hk3⟩ := HR2.out.setPart HX.out 1 r.Y (setY r.D x) (.bool true) (by simp [setY]) (fun v hv => ⟨rfl, by simp [setY, hv]⟩)
        have HR3 := hid hr3; have K3 := hid hk3
        clear hs hr3 hk3
        go_wp2_with fail
        refine (gall_did (rb := (A (t1, t2, t3)).rb) (mp := (A (t1, t2, t3)).mp) (pb := (A (t1, t2, t3)).pb) (ns := r.ns) (Y := r.Y) (D := setY r.D x) (st := r.st) HR3.out).mono ?_
        rintro e w4 ⟨rfl, hk4⟩
        have HR4 := hid (HR3.out.same hk4)
        have K4 := hid (K3.out.trans' hk4 (fun _ h => h.elim))
        clear hk4
        go_wp2
        go_returns
        rw [HV.out, if_pos HS.out]
        exact ⟨rfl, HB2.out.put _ _ HR4.out K4.out, (K2.out.mono (fun _ _ h => h.elim)).trans K4.out⟩
      · have hs1 : (r.st != 3) = true := by simpa using hs
        have HS := hid hs
        clear hs
        go_wp2
        go_returns
        rw [HV.out, if_neg HS.out]
        exact ⟨rfl, HB2.out, K2.out.mono (fun _ _ h => h.elim)⟩
    · have HX := hid hx
      have HV := hid (show appR (some r) x = ((false, 1), none) by simp only [appR, if_neg hx])
      clear hx
      have hk1 := (Kept.refl (fun _ => False) w).alloc (.cells #[.int .u8 t1, .int .u32 t2, .int .u32 t3] 28)
      have hkb := row_new w (.cells #[.int .u8 t1, .int .u32 t2, .int .u32 t3] 28)
      obtain ⟨w1, hw1⟩ : ∃ w1, w.alloc (.cells #[.int .u8 t1, .int .u32 t2, .int .u32 t3] 28) = w1 := ⟨_, rfl⟩
      obtain ⟨kb, hkb'⟩ : ∃ kb, w.heap.size = kb := ⟨_, rfl⟩
      rw [hw1] at hk1 hkb
      rw [hkb'] at hkb
      have HB := hid (hb.same hk1); have HK := hid hkb; have K1 := hid hk1
      have hcb := HB.out.cells
      obtain ⟨c0, c1⟩ := hcb
      obtain ⟨d0, d1, d2⟩ := cells3 HK.out
      have HL := hid hl
      clear hb hk1 hkb hl
      go_enter Try.func24, Try.ntmps24
      go_wp2_with fail
      try rw [hw1]
      clear hw1 hkb' c0 c1 d0 d1 d2
      refine (gat_arg HB.out HL.out HX.out).mono ?_
      rintro e w2 ⟨rfl, hk2⟩
      have K2 := hid (K1.out.trans hk2); have HB2 := hid (HB.out.same hk2)
      clear hk2
      go_wp2
      go_returns
      rw [HV.out]
      exact ⟨rfl, HB2.out, K2.out.mono (fun _ _ h => h.elim)⟩
end
end Go.Proofs.Ytaobioleodfafaa
/- order2, median, choosePivot (fewer than 50), reverseRange, insertionSort. -/
namespace Go.Proofs.Ytaobioleodfafaa
open Go.RowKit
open Go.Sort (swp ltInt)

set_option maxRecDepth 100000 in
set_option maxHeartbeats 1000000 in
theorem order2_any {w : World} {g s : Nat} {d : Array Int} {tl : List Value} (h : Srt w g d tl) {N : Nat} (hN : d.size = N) (cap : Nat) {a b : Nat} (ha : a < N) (hb : b < N) (hd : N ≤ 1000) (n : Nat) (hn : n ≤ 1000) (hs : w.heap[s]? = some (.cells #[.int .i64 n] 3 (0, 0))) :
    Calls Try.prog 87 #[.slice (some ⟨g, 0, none⟩) N cap, .int .i64 a, .int .i64 b, .pointer (some ⟨s, 0, none⟩)] w fun e w' =>
      e = .returned (.tuple #[.int .i64 (Go.Sort.order2 ltInt d a b n).1, .int .i64 (Go.Sort.order2 ltInt d a b n).2.1]) ∧ w'.heap[s]? = some (.cells #[.int .i64 (Go.Sort.order2 ltInt d a b n).2.2] 3 (0, 0)) ∧ Kept (fun k => k = s) w w' := by
  have ca := h.cell (i := a) (by omega)
  have cb := h.cell (i := b) (by omega)
  have cs := row_cell hs 0
  have fs := row_free hs 0
  simp at cs
  have HS := hid hs
  clear hs h hN
  obtain ⟨t, ht⟩ : ∃ t, ls d b a = t := ⟨_, rfl⟩
  have HT := hid ht
  clear ht
  go_enter Try.func87, Try.ntmps87
  go_wp2_with fail
  go_quiet ((go_at_call 75; exact Calls.quiet_of_same (less_any _ _ _ _)))
  rw [HT.out]
  cases t with
  | true =>
    have e : Go.Sort.order2 ltInt d a b n = (b, a, n + 1) := by unfold Go.Sort.order2; rw [ls_eq, HT.out]; rfl
    go_wp2
    go_ret2
    rw [e]
    exact ⟨rfl, by simpa using row_set (show (w.drewN nq).heap[s]? = _ from HS.out) 0 (.int .i64 ((n : Int) + 1)), (kept_drewN (F := fun k => k = s) w nq).setCell (p := ⟨s, 0, none⟩) (.inl rfl) _⟩
  | false =>
    have e : Go.Sort.order2 ltInt d a b n = (a, b, n) := by unfold Go.Sort.order2; rw [ls_eq, HT.out]; rfl
    go_wp2
    go_ret2
    rw [e]
    exact ⟨rfl, HS.out, kept_drewN w nq⟩
theorem order2_le (d : Array Int) (a b n : Nat) : (Go.Sort.order2 ltInt d a b n).2.2 ≤ n + 1 ∧ (((Go.Sort.order2 ltInt d a b n).1 = a ∧ (Go.Sort.order2 ltInt d a b n).2.1 = b) ∨ ((Go.Sort.order2 ltInt d a b n).1 = b ∧ (Go.Sort.order2 ltInt d a b n).2.1 = a)) := by
  unfold Go.Sort.order2
  split <;> simp
set_option maxRecDepth 100000 in
set_option maxHeartbeats 1000000 in
theorem median_any {w : World} {g s : Nat} {d : Array Int} {tl : List Value} (h : Srt w g d tl) {N : Nat} (hN : d.size = N) (hgs : s ≠ g) (cap : Nat) {a b c : Nat} (ha : a < N) (hb : b < N) (hc : c < N) (hd : N ≤ 1000) (n : Nat) (hn : n ≤ 900) (hs : w.heap[s]? = some (.cells #[.int .i64 n] 3 (0, 0))) :
    Calls Try.prog 85 #[.slice (some ⟨g, 0, none⟩) N cap, .int .i64 a, .int .i64 b, .int .i64 c, .pointer (some ⟨s, 0, none⟩)] w fun e w' =>
      e = .returned (.int .i64 (Go.Sort.median ltInt d a b c n).1) ∧ w'.heap[s]? = some (.cells #[.int .i64 (Go.Sort.median ltInt d a b c n).2] 3 (0, 0)) ∧ Kept (fun k => k = s) w w' := by
  have H := hid h; have HS := hid hs; have HN := hid hN
  clear h hs hN
  have hm : Hid (Go.Sort.median ltInt d a b c n = ((Go.Sort.order2 ltInt d (Go.Sort.order2 ltInt d a b n).1 (Go.Sort.order2 ltInt d (Go.Sort.order2 ltInt d a b n).2.1 c (Go.Sort.order2 ltInt d a b n).2.2).1 (Go.Sort.order2 ltInt d (Go.Sort.order2 ltInt d a b n).2.1 c (Go.Sort.order2 ltInt d a b n).2.2).2.2).2.1, (Go.Sort.order2 ltInt d (Go.Sort.order2 ltInt d a b n).1 (Go.Sort.order2 ltInt d (Go.Sort.order2 ltInt d a b n).2.1 c (Go.Sort.order2 ltInt d a b n).2.2).1 (Go.Sort.order2 ltInt d (Go.Sort.order2 ltInt d a b n).2.1 c (Go.Sort.order2 ltInt d a b n).2.2).2.2).2.2)) := hid rfl
  have l1 := order2_le d a b n
  obtain ⟨r1, hr1⟩ : ∃ r, Go.Sort.order2 ltInt d a b n = r := ⟨_, rfl⟩
  rw [hr1] at hm l1
  have l2 := order2_le d r1.2.1 c r1.2.2
  obtain ⟨r2, hr2⟩ : ∃ r, Go.Sort.order2 ltInt d r1.2.1 c r1.2.2 = r := ⟨_, rfl⟩
  rw [hr2] at hm l2
  have l3 := order2_le d r1.1 r2.1 r2.2.2
  obtain ⟨r3, hr3⟩ : ∃ r, Go.Sort.order2 ltInt d r1.1 r2.1 r2.2.2 = r := ⟨_, rfl⟩
  rw [hr3] at hm l3
  obtain ⟨x1, y1, n1⟩ := r1
  obtain ⟨x2, y2, n2⟩ := r2
  obtain ⟨x3, y3, n3⟩ := r3
  dsimp only at hm l1 l2 l3 hr2 hr3
  have hb1 : x1 < N ∧ y1 < N ∧ n1 ≤ n + 1 := by omega
  have hb2 : x2 < N ∧ y2 < N ∧ n2 ≤ n + 2 := by omega
  have R1 := hid hr1; have R2 := hid hr2; have R3 := hid hr3; have HB1 := hid hb1; have HB2 := hid hb2
  have HGS := hid hgs
  clear hr1 hr2 hr3 l1 l2 l3 hb1 hb2 hgs
  go_enter Try.func85, Try.ntmps85
  go_wp2_with fail
  refine (order2_any H.out HN.out cap ha hb hd n (by omega) HS.out).mono ?_
  rintro e w1 ⟨rfl, hs1, hk1⟩
  rw [R1.out] at hs1 ⊢
  dsimp only at hs1 ⊢
  have H1 := hid (H.out.kept hk1 (by exact fun e => HGS.out e.symm)); have HS1 := hid hs1; have HK1 := hid hk1
  clear hs1 hk1
  go_wp2_with fail
  refine (order2_any H1.out HN.out cap HB1.out.2.1 hc hd n1 (by have := HB1.out; omega) HS1.out).mono ?_
  rintro e w2 ⟨rfl, hs2, hk2⟩
  rw [R2.out] at hs2 ⊢
  dsimp only at hs2 ⊢
  have H2 := hid (H1.out.kept hk2 (by exact fun e => HGS.out e.symm)); have HS2 := hid hs2; have HK2 := hid (HK1.out.trans hk2)
  clear hs2 hk2
  go_wp2_with fail
  refine (order2_any H2.out HN.out cap HB1.out.1 HB2.out.1 hd n2 (by have := HB2.out; omega) HS2.out).mono ?_
  rintro e w3 ⟨rfl, hs3, hk3⟩
  rw [R3.out] at hs3 ⊢
  dsimp only at hs3 ⊢
  have HS3 := hid hs3; have HK3 := hid (HK2.out.trans hk3)
  clear hs3 hk3
  go_wp2
  go_ret
  rw [hm.out]
  exact ⟨rfl, HS3.out, HK3.out⟩
def hintN : Go.Sort.Hint → Int
  | .unknown => 0
  | .increasing => 1
  | .decreasing => 2
theorem median_le (d : Array Int) (a b c n : Nat) : (Go.Sort.median ltInt d a b c n).2 ≤ n + 3 := by
  simp only [Go.Sort.median]
  have l1 := (order2_le d a b n).1
  have l2 := (order2_le d (Go.Sort.order2 ltInt d a b n).2.1 c (Go.Sort.order2 ltInt d a b n).2.2).1
  have l3 := (order2_le d (Go.Sort.order2 ltInt d a b n).1 (Go.Sort.order2 ltInt d (Go.Sort.order2 ltInt d a b n).2.1 c (Go.Sort.order2 ltInt d a b n).2.2).1 (Go.Sort.order2 ltInt d (Go.Sort.order2 ltInt d a b n).2.1 c (Go.Sort.order2 ltInt d a b n).2.2).2.2).1
  omega
set_option maxRecDepth 100000 in
set_option maxHeartbeats 1000000 in
theorem pivot_any {w : World} {g : Nat} {d : Array Int} {tl : List Value} (h : Srt w g d tl) {N : Nat} (hN : d.size = N) (cap : Nat) {a b : Nat} (hab : a + 12 < b) (hb : b ≤ N) (hd : N < 50) :
    Calls Try.prog 72 #[.slice (some ⟨g, 0, none⟩) N cap, .int .i64 a, .int .i64 b] w fun e w' =>
      e = .returned (.tuple #[.int .i64 (Go.Sort.choosePivot ltInt d a b).1, .int .i64 (hintN (Go.Sort.choosePivot ltInt d a b).2)]) ∧ (Go.Sort.choosePivot ltInt d a b).2 ≠ .decreasing ∧ Kept (fun _ => False) w w' := by
  have H := hid h; have HN := hid hN
  clear h hN
  obtain ⟨L, rfl⟩ : ∃ L, b = a + L := ⟨b - a, by omega⟩
  have hL : 12 < L ∧ L < 50 := by omega
  obtain ⟨q, hq⟩ : ∃ q, L / 4 = q := ⟨_, rfl⟩
  have hq' : 4 * q ≤ L ∧ L < 4 * q + 4 := by omega
  have e0 : (a : Int) + (L : Int) - (a : Int) = (L : Int) := by omega
  have e1 : (L : Int) / 4 = (q : Int) := by omega
  have hc : Go.Sort.choosePivot ltInt d a (a + L) = ((Go.Sort.median ltInt d (a + q) (a + q * 2) (a + q * 3) 0).1, if (Go.Sort.median ltInt d (a + q) (a + q * 2) (a + q * 3) 0).2 = 0 then .increasing else if (Go.Sort.median ltInt d (a + q) (a + q * 2) (a + q * 3) 0).2 = 12 then .decreasing else .unknown) := by
    unfold Go.Sort.choosePivot
    simp only [Nat.add_sub_cancel_left, hq, Nat.mul_one]
    rw [if_pos (by omega), if_neg (by omega)]
  have hm := median_le d (a + q) (a + q * 2) (a + q * 3) 0
  obtain ⟨⟨m, s⟩, hr⟩ : ∃ r, Go.Sort.median ltInt d (a + q) (a + q * 2) (a + q * 3) 0 = r := ⟨_, rfl⟩
  rw [hr] at hc hm
  have HC := hid hc; have HR := hid hr
  have hlt := H.out.lt
  dsimp only at hm
  clear hc hr hq
  go_enter Try.func72, Try.ntmps72
  go_wp2_with fail
  have hs0 := row_new w (.cells #[.int .i64 0] 3)
  have hk0 := (Kept.refl (fun _ => False) w).alloc (.cells #[.int .i64 0] 3)
  obtain ⟨s0, hs0e⟩ : ∃ s0, w.heap.size = s0 := ⟨_, rfl⟩
  obtain ⟨w1, hw1⟩ : ∃ w1, w.alloc (.cells #[.int .i64 0] 3) = w1 := ⟨_, rfl⟩
  rw [hw1] at hk0 ⊢
  rw [hw1, hs0e] at hs0
  rw [hs0e] at hlt ⊢
  have h1 := H.out.kept hk0 (fun h => h)
  refine ((median_any (a := a + q) (b := a + q * 2) (c := a + q * 3) h1 HN.out (by omega) cap (by omega) (by omega) (by omega) (by omega) 0 (by omega) hs0)).mono ?_
  rintro e w2 ⟨rfl, hs2, hk2⟩
  rw [HR.out] at hs2 ⊢
  dsimp only at hs2 ⊢
  have c2 := row_cell hs2 0
  simp at c2
  have K2 := hid (hk0.trans' hk2 (fun i e => .inr (by omega)))
  clear hs2 hk2 hk0 h1 hs0 hw1 hs0e
  rcases (show s = 0 ∨ s = 1 ∨ s = 2 ∨ s = 3 by omega) with rfl | rfl | rfl | rfl
  all_goals
    go_wp2
    go_ret2
    rw [HC.out]
    exact ⟨by simp [hintN], by simp, K2.out⟩
end Go.Proofs.Ytaobioleodfafaa
/- insertionSort, siftDown, heapSort. -/
namespace Go.Proofs.Ytaobioleodfafaa
open Go.RowKit
open Go.Sort (swp ltInt)

def SrtEnd (w : World) (g : Nat) (tl : List Value) (d' : Array Int) (e : Ending) (w' : World) : Prop := e = .returned (.tuple #[]) ∧ Srt w' g d' tl ∧ Kept (fun k => k = g) w w'
theorem insInner_yes {a m : Nat} {d : Array Int} (h : a < m + 1) (hl : ls d (m + 1) m = true) : Go.Sort.insInner ltInt a (m + 1) d = Go.Sort.insInner ltInt a m (swp d (m + 1) m) := by
  rw [Go.Sort.insInner, ls_eq, hl, if_pos (by simpa using h)]
theorem insInner_no {a j : Nat} {d : Array Int} (h : ∀ m, j = m + 1 → a < m + 1 → ls d (m + 1) m = false) : Go.Sort.insInner ltInt a j d = d := by
  cases j with
  | zero => rw [Go.Sort.insInner]
  | succ m =>
    rw [Go.Sort.insInner, ls_eq]
    split
    · rename_i hc
      simp only [gt_iff_lt, Bool.and_eq_true, decide_eq_true_eq] at hc
      rw [h m rfl hc.1] at hc
      exact absurd hc.2 (by decide)
    · rfl
theorem insOuter_step {a b i : Nat} {d : Array Int} (h : i < b) : Go.Sort.insOuter ltInt a b i d = Go.Sort.insOuter ltInt a b (i + 1) (Go.Sort.insInner ltInt a i d) := by
  rw [Go.Sort.insOuter, if_pos h]
theorem insOuter_end {a b i : Nat} {d : Array Int} (h : ¬ i < b) : Go.Sort.insOuter ltInt a b i d = d := by
  rw [Go.Sort.insOuter, if_neg h]
/-- behind a swap that a region has drawn -/
theorem Srt.swapd {w : World} {g : Nat} {d : Array Int} {tl : List Value} (h : Srt w g d tl) {i j : Nat} (hi : i < d.size) (hj : j < d.size) :
    Srt ((w.setCell ⟨g, i, none⟩ (.int .u8 (nt d j))).setCell ⟨g, j, none⟩ (.int .u8 (nt d i))).drew g (swp d i j) tl ∧ Kept (fun k => k = g) w ((w.setCell ⟨g, i, none⟩ (.int .u8 (nt d j))).setCell ⟨g, j, none⟩ (.int .u8 (nt d i))).drew :=
  ⟨h.swap hi hj, (kept_swap w).drew⟩
theorem Srt.drewN {w : World} {g : Nat} {d : Array Int} {tl : List Value} (h : Srt w g d tl) (n : Nat) : Srt (w.drewN n) g d tl := h
set_option maxRecDepth 100000 in
set_option maxHeartbeats 1000000 in
theorem ins_any {w : World} {g : Nat} {d : Array Int} {tl : List Value} (h : Srt w g d tl) {N : Nat} (hN : d.size = N) (cap : Nat) {a b : Nat} (hab : a ≤ b) (hb : b ≤ N) (hd : N < 50) :
    Calls Try.prog 69 #[.slice (some ⟨g, 0, none⟩) N cap, .int .i64 a, .int .i64 b] w (SrtEnd w g tl (Go.Sort.insertionSort ltInt d a b)) := by
  have H := hid h; have HN := hid hN
  clear h hN
  go_enter Try.func69, Try.ntmps69
  go_wp2_with fail
  go_loopw [6] (fun i wr => ∃ (k : Nat) (dk : Array Int), i = .int .i64 k ∧ a + 1 ≤ k ∧ (k ≤ b ∨ k = a + 1) ∧ dk.size = N ∧ Srt wr g dk tl ∧ Kept (fun k => k = g) w wr ∧ Go.Sort.insOuter ltInt a b k dk = Go.Sort.insertionSort ltInt d a b) (fun i _ => b - (intOf i).toNat)
  case atStart => exact ⟨a + 1, d, by go_num, Nat.le_refl _, .inr rfl, HN.out, H.out, Kept.refl _ _, rfl⟩
  case round =>
    rename World => wA
    obtain ⟨k, dk, rfl, hk, hkb, hsz, hs, hkp, heq⟩ := hrel
    have HS := hid hs; have HK := hid hkp; have HE := hid heq; have HZ := hid hsz
    clear hs hkp heq H
    by_cases hlt : k < b
    · have hkd : k < dk.size := by omega
      clear hsz
      go_wp2_with fail
      go_loopw [7] (fun j wr => ∃ (jn : Nat) (dj : Array Int), j = .int .i64 jn ∧ a ≤ jn ∧ jn ≤ k ∧ dj.size = N ∧ Srt wr g dj tl ∧ Kept (fun k => k = g) wA wr ∧ Go.Sort.insInner ltInt a jn dj = Go.Sort.insInner ltInt a k dk) (fun j _ => (intOf j).toNat)
      case atStart => exact ⟨k, dk, rfl, by omega, Nat.le_refl _, HZ.out, HS.out, Kept.refl _ _, rfl⟩
      case round =>
        rename World => wB
        obtain ⟨jn, dj, rfl, hja, hjk, hsz, hs, hkp, heq⟩ := hrel
        have HS2 := hid hs; have HK2 := hid hkp; have HE2 := hid heq; have HZ2 := hid hsz
        clear hs hkp heq
        by_cases hj : a < jn
        · obtain ⟨m, rfl⟩ : ∃ m, jn = m + 1 := ⟨jn - 1, by omega⟩
          have c0 := HS2.out.cell (i := m + 1) (by omega)
          have c1 := HS2.out.cell (i := m) (by omega)
          have f0 := HS2.out.free (m + 1)
          have f1 := HS2.out.free m
          have hjd : m + 1 < dj.size := by omega
          clear hsz
          obtain ⟨t, ht⟩ : ∃ t, ls dj (m + 1) m = t := ⟨_, rfl⟩
          have HT := hid ht; clear ht
          have hdec : decide ((a : Int) < (m : Int) + 1) = true := by simp; omega
          go_wp2_with fail
          go_quiet ((go_at_call 75; exact Calls.quiet_of_same (less_any _ _ _ _)))
          have HS3 := hid (HS2.out.drewN nq)
          have HK3 := hid (HK2.out.trans (kept_drewN wB nq))
          obtain ⟨wC, hwC⟩ : ∃ wC, wB.drewN nq = wC := ⟨_, rfl⟩
          rw [hwC] at HS3 HK3 ⊢
          rw [HT.out]
          clear c0 c1 f0 f1 hwC hdec
          cases t with
          | true =>
            have c0 := HS3.out.cell (i := m + 1) (by omega)
            have c1 := HS3.out.cell (i := m) (by omega)
            have f0 := HS3.out.free (m + 1)
            have f1 := HS3.out.free m
            go_wp2_with fail
            go_region
            obtain ⟨h1, h2⟩ := HS3.out.swapd (i := m + 1) (j := m) (by omega) (by omega)
            have HS4 := hid h1; have HK4 := hid (HK3.out.trans h2)
            clear h1 h2 c0 c1 f0 f1
            go_wp2
            go_roundw
            case rel => exact ⟨m, _, by go_num, by omega, by omega, by rw [size_swp]; exact HZ2.out, HS4.out, HK4.out, by rw [← HE2.out, insInner_yes (by omega) HT.out]⟩
            case measure => (simp [intOf]; try omega)
          | false =>
            go_wp2_with fail
            go_roundw
            case rel => exact ⟨k + 1, dj, by go_num, by omega, .inl (by omega), HZ2.out, HS3.out, HK.out.trans HK3.out, by rw [← HE.out, insOuter_step hlt, ← HE2.out, insInner_no (fun m' e _ => by cases e; exact HT.out)]⟩
            case measure => (simp [intOf]; try omega)
        · obtain rfl : jn = a := by omega
          have hdec : decide ((jn : Int) < (jn : Int)) = false := by simp
          go_wp2_with fail
          go_quiet ((go_at_call 75; exact Calls.quiet_of_same (less_any _ _ _ _)))
          go_wp2_with fail
          go_roundw
          case rel => exact ⟨k + 1, dj, by go_num, by omega, .inl (by omega), HZ2.out, HS2.out.drewN nq, (HK.out.trans HK2.out).trans (kept_drewN _ nq), by rw [← HE.out, insOuter_step hlt, ← HE2.out, insInner_no (fun m' e h => by omega)]⟩
          case measure => (simp [intOf]; try omega)
    · go_wp2
      go_end0
      exact ⟨rfl, by rw [← HE.out, insOuter_end hlt]; exact HS.out, HK.out⟩
/-! ### the heap -/
theorem siftDown_step {hi f r c : Nat} {d : Array Int} (hc : 2 * r + 1 < hi) (e : c = if 2 * r + 1 + 1 < hi ∧ ls d (f + (2 * r + 1)) (f + (2 * r + 1) + 1) = true then 2 * r + 2 else 2 * r + 1) :
    Go.Sort.siftDown ltInt hi f r d = if ls d (f + r) (f + c) = true then Go.Sort.siftDown ltInt hi f c (swp d (f + r) (f + c)) else d := by
  rw [Go.Sort.siftDown, dif_neg (by omega)]
  simp only [ls_eq]
  by_cases h : 2 * r + 1 + 1 < hi ∧ ls d (f + (2 * r + 1)) (f + (2 * r + 1) + 1) = true
  · rw [if_pos h] at e
    subst e
    rw [if_pos (by simpa using h), dif_pos (by omega)]
    cases ls d (f + r) (f + (2 * r + 2)) <;> simp
  · rw [if_neg h] at e
    subst e
    rw [if_neg (by simpa using h)]
    cases ls d (f + r) (f + (2 * r + 1)) <;> simp
theorem siftDown_end {hi f r : Nat} {d : Array Int} (hc : ¬ 2 * r + 1 < hi) : Go.Sort.siftDown ltInt hi f r d = d := by
  rw [Go.Sort.siftDown, dif_pos (by omega)]
set_option maxRecDepth 100000 in
set_option maxHeartbeats 1000000 in
theorem sift_any {w : World} {g : Nat} {d : Array Int} {tl : List Value} (h : Srt w g d tl) {N : Nat} (hN : d.size = N) (cap : Nat) {lo hi f : Nat} (hf : f + hi ≤ N) (hlo : lo ≤ N) (hd : N < 50) :
    Calls Try.prog 83 #[.slice (some ⟨g, 0, none⟩) N cap, .int .i64 lo, .int .i64 hi, .int .i64 f] w (SrtEnd w g tl (Go.Sort.siftDown ltInt hi f lo d)) := by
  have H := hid h; have HN := hid hN
  clear h hN
  go_enter Try.func83, Try.ntmps83
  go_wp2_with fail
  go_loopw [8] (fun r wr => ∃ (k : Nat) (dk : Array Int), r = .int .i64 k ∧ k ≤ N ∧ dk.size = N ∧ Srt wr g dk tl ∧ Kept (fun k => k = g) w wr ∧ Go.Sort.siftDown ltInt hi f k dk = Go.Sort.siftDown ltInt hi f lo d) (fun r _ => N - (intOf r).toNat)
  case atStart => exact ⟨lo, d, rfl, hlo, HN.out, H.out, Kept.refl _ _, rfl⟩
  case round =>
    rename World => wA
    obtain ⟨k, dk, rfl, hk, hsz, hs, hkp, heq⟩ := hrel
    have HS := hid hs; have HK := hid hkp; have HE := hid heq
    clear hs hkp heq H
    by_cases hlt : 2 * k + 1 < hi
    · obtain ⟨c, hc⟩ : ∃ c, c = if 2 * k + 1 + 1 < hi ∧ ls dk (f + (2 * k + 1)) (f + (2 * k + 1) + 1) = true then 2 * k + 2 else 2 * k + 1 := ⟨_, rfl⟩
      have hst := siftDown_step hlt hc
      have hcb : k < c ∧ c < hi := by rw [hc]; split <;> omega
      have HST := hid hst
      have HC := hid hc
      clear hst hc
      obtain ⟨p0, hp0⟩ : ∃ p, p = f + k := ⟨_, rfl⟩
      obtain ⟨c1, hc1⟩ : ∃ p, p = 2 * k + 1 := ⟨_, rfl⟩
      obtain ⟨p1, hp1⟩ : ∃ p, p = f + c1 := ⟨_, rfl⟩
      obtain ⟨c2, hc2⟩ : ∃ p, p = c1 + 1 := ⟨_, rfl⟩
      obtain ⟨p2, hp2⟩ : ∃ p, p = f + c2 := ⟨_, rfl⟩
      have hch : c1 < hi := by omega
      have hchd : decide ((hi : Int) ≤ (c1 : Int)) = false := by simp; omega
      have e1 : 2 * (k : Int) + 1 = (c1 : Int) := by omega
      have e2 : (c1 : Int) + 1 = (c2 : Int) := by omega
      have e3 : (f : Int) + (c1 : Int) = (p1 : Int) := by omega
      have e4 : (f : Int) + (c2 : Int) = (p2 : Int) := by omega
      have e5 : (p1 : Int) + 1 = (p2 : Int) := by omega
      have e6 : (f : Int) + (k : Int) = (p0 : Int) := by omega
      have P0 := hid hp0; have C1 := hid hc1; have P1 := hid hp1; have C2 := hid hc2; have P2 := hid hp2
      have g0 : p0 < N ∧ p1 < N ∧ (c2 < hi → p2 < N) := by omega
      have g1 : c1 ≤ N ∧ c2 ≤ N + 1 := by omega
      have hcc : c = if c2 < hi ∧ ls dk p1 p2 = true then c2 else c1 := by
        rw [HC.out, hp1, hp2, hc2, hc1]
        rfl
      rw [← hp0] at HST
      have HCC := hid hcc
      clear hp0 hc1 hp1 hc2 hp2 hcc
      have a0 := HS.out.cell (i := p0) (by omega)
      have a1 := HS.out.cell (i := p1) (by omega)
      have f0 := HS.out.free p0
      have f1 := HS.out.free p1
      by_cases h2 : c2 < hi
      · have a2 := HS.out.cell (i := p2) (by omega)
        have f2 := HS.out.free p2
        have hdec : decide ((c2 : Int) < (hi : Int)) = true := by simp; omega
        have hg2 := g0.2.2 h2
        obtain ⟨t, ht⟩ : ∃ t, ls dk p1 p2 = t := ⟨_, rfl⟩
        have HT := hid ht; clear ht
        go_wp2_with fail
        go_quiet ((go_at_call 75; exact Calls.quiet_of_same (less_any _ _ _ _)))
        rw [HT.out]
        have HS3 := hid (HS.out.drewN nq)
        have HK3 := hid (HK.out.trans (kept_drewN wA nq))
        obtain ⟨wC, hwC⟩ : ∃ wC, wA.drewN nq = wC := ⟨_, rfl⟩
        rw [hwC] at HS3 HK3 ⊢
        clear a0 a1 a2 f0 f1 f2 hwC
        cases t with
        | true =>
          have EC := hid (show c = c2 by rw [HCC.out, if_pos ⟨h2, HT.out⟩])
          obtain ⟨u, hu⟩ : ∃ u, ls dk p0 p2 = u := ⟨_, rfl⟩
          have HU := hid hu; clear hu
          have b0 := HS3.out.cell (i := p0) (by omega)
          have b1 := HS3.out.cell (i := p2) (by omega)
          go_wp2_with fail
          go_quiet ((go_at_call 75; exact Calls.quiet_of_same (less_any _ _ _ _)))
          rw [HU.out]
          have HS4 := hid (HS3.out.drewN nq)
          have HK4 := hid (HK3.out.trans (kept_drewN wC nq))
          obtain ⟨wD, hwD⟩ : ∃ wD, wC.drewN nq = wD := ⟨_, rfl⟩
          rw [hwD] at HS4 HK4 ⊢
          clear b0 b1 hwD
          have hfc : f + c = p2 := by rw [EC.out]; exact P2.out.symm
          have HFC := hid hfc; clear hfc
          cases u with
          | true =>
            have b0 := HS4.out.cell (i := p0) (by omega)
            have b1 := HS4.out.cell (i := p2) (by omega)
            have f0 := HS4.out.free p0
            have f1 := HS4.out.free p2
            go_wp2_with fail
            go_region
            obtain ⟨h1, h2⟩ := HS4.out.swapd (i := p0) (j := p2) (by omega) (by omega)
            have HS5 := hid h1; have HK5 := hid (HK4.out.trans h2)
            clear h1 h2 b0 b1 f0 f1
            go_wp2
            go_roundw
            case rel => exact ⟨c2, _, rfl, by omega, by rw [size_swp]; exact hsz, HS5.out, HK5.out, by rw [← HE.out, HST.out, HFC.out, HU.out, if_pos rfl, EC.out]⟩
            case measure => (have hc := EC.out; simp [intOf]; omega)
          | false =>
            go_wp2
            go_end0
            exact ⟨rfl, by rw [← HE.out, HST.out, HFC.out, HU.out, if_neg (by decide)]; exact HS4.out, HK4.out⟩
        | false =>
          have EC := hid (show c = c1 by rw [HCC.out, if_neg (by rw [HT.out]; simp)])
          obtain ⟨u, hu⟩ : ∃ u, ls dk p0 p1 = u := ⟨_, rfl⟩
          have HU := hid hu; clear hu
          have b0 := HS3.out.cell (i := p0) (by omega)
          have b1 := HS3.out.cell (i := p1) (by omega)
          go_wp2_with fail
          go_quiet ((go_at_call 75; exact Calls.quiet_of_same (less_any _ _ _ _)))
          rw [HU.out]
          have HS4 := hid (HS3.out.drewN nq)
          have HK4 := hid (HK3.out.trans (kept_drewN wC nq))
          obtain ⟨wD, hwD⟩ : ∃ wD, wC.drewN nq = wD := ⟨_, rfl⟩
          rw [hwD] at HS4 HK4 ⊢
          clear b0 b1 hwD
          have hfc : f + c = p1 := by rw [EC.out]; exact P1.out.symm
          have HFC := hid hfc; clear hfc
          cases u with
          | true =>
            have b0 := HS4.out.cell (i := p0) (by omega)
            have b1 := HS4.out.cell (i := p1) (by omega)
            have f0 := HS4.out.free p0
            have f1 := HS4.out.free p1
            go_wp2_with fail
            go_region
            obtain ⟨h1, h2⟩ := HS4.out.swapd (i := p0) (j := p1) (by omega) (by omega)
            have HS5 := hid h1; have HK5 := hid (HK4.out.trans h2)
            clear h1 h2 b0 b1 f0 f1
            go_wp2
            go_roundw
            case rel => exact ⟨c1, _, rfl, by omega, by rw [size_swp]; exact hsz, HS5.out, HK5.out, by rw [← HE.out, HST.out, HFC.out, HU.out, if_pos rfl, EC.out]⟩
            case measure => (have hc := EC.out; simp [intOf]; omega)
          | false =>
            go_wp2
            go_end0
            exact ⟨rfl, by rw [← HE.out, HST.out, HFC.out, HU.out, if_neg (by decide)]; exact HS4.out, HK4.out⟩
      · have hdec : decide ((c2 : Int) < (hi : Int)) = false := by simp; omega
        go_wp2_with fail
        go_quiet ((go_at_call 75; exact Calls.quiet_of_same (less_any _ _ _ _)))
        have HS3 := hid (HS.out.drewN nq)
        have HK3 := hid (HK.out.trans (kept_drewN wA nq))
        obtain ⟨wC, hwC⟩ : ∃ wC, wA.drewN nq = wC := ⟨_, rfl⟩
        rw [hwC] at HS3 HK3 ⊢
        clear a0 a1 f0 f1 hwC
        have EC := hid (show c = c1 by rw [HCC.out, if_neg (by omega)])
        obtain ⟨u, hu⟩ : ∃ u, ls dk p0 p1 = u := ⟨_, rfl⟩
        have HU := hid hu; clear hu
        have b0 := HS3.out.cell (i := p0) (by omega)
        have b1 := HS3.out.cell (i := p1) (by omega)
        go_wp2_with fail
        go_quiet ((go_at_call 75; exact Calls.quiet_of_same (less_any _ _ _ _)))
        rw [HU.out]
        have HS4 := hid (HS3.out.drewN nq)
        have HK4 := hid (HK3.out.trans (kept_drewN wC nq))
        obtain ⟨wD, hwD⟩ : ∃ wD, wC.drewN nq = wD := ⟨_, rfl⟩
        rw [hwD] at HS4 HK4 ⊢
        clear b0 b1 hwD
        have hfc : f + c = p1 := by rw [EC.out]; exact P1.out.symm
        have HFC := hid hfc; clear hfc
        cases u with
        | true =>
          have b0 := HS4.out.cell (i := p0) (by omega)
          have b1 := HS4.out.cell (i := p1) (by omega)
          have f0 := HS4.out.free p0
          have f1 := HS4.out.free p1
          go_wp2_with fail
          go_region
          obtain ⟨h1, h2⟩ := HS4.out.swapd (i := p0) (j := p1) (by omega) (by omega)
          have HS5 := hid h1; have HK5 := hid (HK4.out.trans h2)
          clear h1 h2 b0 b1 f0 f1
          go_wp2
          go_roundw
          case rel => exact ⟨c1, _, rfl, by omega, by rw [size_swp]; exact hsz, HS5.out, HK5.out, by rw [← HE.out, HST.out, HFC.out, HU.out, if_pos rfl, EC.out]⟩
          case measure => (have hc := EC.out; simp [intOf]; omega)
        | false =>
          go_wp2
          go_end0
          exact ⟨rfl, by rw [← HE.out, HST.out, HFC.out, HU.out, if_neg (by decide)]; exact HS4.out, HK4.out⟩
    · have hlt2 : ¬ 2 * (k : Int) + 1 < (hi : Int) := by omega
      go_wp2
      go_end0
      exact ⟨rfl, by rw [← HE.out, siftDown_end hlt]; exact HS.out, HK.out⟩
end Go.Proofs.Ytaobioleodfafaa
/- heapSort; the scan for a sorted row. -/
namespace Go.Proofs.Ytaobioleodfafaa
open Go.RowKit
open Go.Sort (swp ltInt)

theorem size_siftDown : ∀ (n hi f r : Nat) (d : Array Int), hi - r ≤ n → (Go.Sort.siftDown ltInt hi f r d).size = d.size := by
  intro n
  induction n with
  | zero => intro hi f r d h; rw [siftDown_end (by omega)]
  | succ n ih =>
    intro hi f r d h
    by_cases hc : 2 * r + 1 < hi
    · obtain ⟨c, hcc⟩ : ∃ c, c = if 2 * r + 1 + 1 < hi ∧ ls d (f + (2 * r + 1)) (f + (2 * r + 1) + 1) = true then 2 * r + 2 else 2 * r + 1 := ⟨_, rfl⟩
      have hrc : r < c := by rw [hcc]; split <;> omega
      rw [siftDown_step hc hcc]
      split
      · rw [ih _ _ _ _ (by omega), size_swp]
      · rfl
    · rw [siftDown_end hc]
theorem sift_size (hi f r : Nat) (d : Array Int) : (Go.Sort.siftDown ltInt hi f r d).size = d.size := size_siftDown _ _ _ _ _ (Nat.le_refl _)
set_option maxRecDepth 100000 in
set_option maxHeartbeats 1000000 in
theorem heap_any {w : World} {g : Nat} {d : Array Int} {tl : List Value} (h : Srt w g d tl) {N : Nat} (hN : d.size = N) (cap : Nat) {a b : Nat} (hab : a < b) (hb : b ≤ N) (hd : N < 50) :
    Calls Try.prog 70 #[.slice (some ⟨g, 0, none⟩) N cap, .int .i64 a, .int .i64 b] w (SrtEnd w g tl (Go.Sort.heapSort ltInt d a b)) := by
  have H := hid h; have HN := hid hN
  clear h hN
  obtain ⟨L, hbL⟩ : ∃ L, b = a + L := ⟨b - a, by omega⟩
  have hL : 0 < L ∧ a + L ≤ N := by omega
  obtain ⟨M, hM⟩ : ∃ M, (L - 1) / 2 = M := ⟨_, rfl⟩
  have hM2 : M < L := by omega
  have e0 : (b : Int) - (a : Int) = (L : Int) := by omega
  have e1 : ((L : Int) - 1) / 2 = (M : Int) := by omega
  have E1 := hid e1
  have hdef : Hid (Go.Sort.heapSort ltInt d a b = Go.Sort.heapPop ltInt a L (Go.Sort.heapBuild ltInt L a (M + 1) d)) := by
    refine hid ?_
    unfold Go.Sort.heapSort
    rw [hbL, Nat.add_sub_cancel_left, hM]
  clear hM hbL
  go_enter Try.func70, Try.ntmps70
  go_wp2_with fail
  go_loopw [9] (fun i wr => ∃ (z : Int) (k : Nat) (dk : Array Int), i = .int .i64 z ∧ z + 1 = (k : Int) ∧ k ≤ M + 1 ∧ dk.size = N ∧ Srt wr g dk tl ∧ Kept (fun k => k = g) w wr ∧ Go.Sort.heapBuild ltInt L a k dk = Go.Sort.heapBuild ltInt L a (M + 1) d) (fun i _ => (intOf i + 1).toNat)
  case atStart => exact ⟨M, M + 1, d, by rw [E1.out], by omega, Nat.le_refl _, HN.out, H.out, Kept.refl _ _, rfl⟩
  case round =>
    rename World => wA
    obtain ⟨z, k, dk, rfl, hz, hk, hsz, hs, hkp, heq⟩ := hrel
    have HS := hid hs; have HK := hid hkp; have HE := hid heq; have HZ := hid hsz
    clear hs hkp heq hsz H e0 e1
    by_cases hlt : 0 < k
    · obtain ⟨m, rfl⟩ : ∃ m : Nat, k = m + 1 := ⟨k - 1, by omega⟩
      obtain rfl : z = (m : Int) := by omega
      clear hz
      go_wp2_with fail
      refine ((sift_any HS.out HZ.out cap (lo := m) (hi := L) (f := a) (by omega) (by omega) hd)).mono ?_
      rintro e w' ⟨rfl, hs, hk2⟩
      have HS3 := hid hs; have HK3 := hid (HK.out.trans hk2)
      clear hs hk2
      go_wp2
      go_roundw
      case rel => exact ⟨(m : Int) - 1, m, _, rfl, by omega, by omega, by rw [sift_size]; exact HZ.out, HS3.out, HK3.out, by rw [← HE.out, Go.Sort.heapBuild]⟩
      case measure => (simp [intOf]; try omega)
    · obtain rfl : k = 0 := by omega
      obtain rfl : z = -1 := by omega
      clear hz
      go_wp2_with fail
      have HB : Hid (dk = Go.Sort.heapBuild ltInt L a (M + 1) d) := by rw [← HE.out, Go.Sort.heapBuild]; exact rfl
      go_loopw [10] (fun i wr => ∃ (z : Int) (k : Nat) (dp : Array Int), i = .int .i64 z ∧ z + 1 = (k : Int) ∧ k ≤ L ∧ dp.size = N ∧ Srt wr g dp tl ∧ Kept (fun k => k = g) w wr ∧ Go.Sort.heapPop ltInt a k dp = Go.Sort.heapSort ltInt d a b) (fun i _ => (intOf i + 1).toNat)
      case atStart => exact ⟨(L : Int) - 1, L, dk, rfl, by omega, Nat.le_refl _, HZ.out, HS.out, HK.out, by rw [hdef.out, ← HB.out]⟩
      case round =>
        rename World => wB
        obtain ⟨z, k, dp, rfl, hz, hk, hsz, hs, hkp, heq⟩ := hrel
        have HS2 := hid hs; have HK2 := hid hkp; have HE2 := hid heq; have HZ2 := hid hsz
        clear hs hkp heq HS HK HE
        by_cases hlt : 0 < k
        · obtain ⟨m, rfl⟩ : ∃ m : Nat, k = m + 1 := ⟨k - 1, by omega⟩
          obtain rfl : z = (m : Int) := by omega
          obtain ⟨p, hp⟩ : ∃ p, p = a + m := ⟨_, rfl⟩
          have e1 : (a : Int) + (m : Int) = (p : Int) := by omega
          have hpN : p < N := by omega
          have HP := hid hp
          have c0 := HS2.out.cell (i := a) (by omega)
          have c1 := HS2.out.cell (i := p) (by omega)
          have f0 := HS2.out.free a
          have f1 := HS2.out.free p
          have haN : a < N := by omega
          clear hz hp
          obtain ⟨v', c2⟩ : ∃ v', (wB.setCell ⟨g, a, none⟩ (.int .u8 (nt dp p))).cell? ⟨g, p, none⟩ = some v' := ⟨_, (HS2.out.put a (nt dp p) (by omega)).cell (i := p) (by simp; omega)⟩
          go_wp2_with fail
          go_region
          obtain ⟨h1, h2⟩ := HS2.out.swapd (i := a) (j := p) (by omega) (by omega)
          have HS5 := hid h1; have HK5 := hid (HK2.out.trans h2)
          obtain ⟨wD, hwD⟩ : ∃ wD, ((wB.setCell ⟨g, a, none⟩ (.int .u8 (nt dp p))).setCell ⟨g, p, none⟩ (.int .u8 (nt dp a))).drew = wD := ⟨_, rfl⟩
          rw [hwD] at HS5 HK5 ⊢
          clear h1 h2 c0 c1 c2 f0 f1 hwD
          have HZ5 := hid (show (swp dp a p).size = N by rw [size_swp]; exact HZ2.out)
          go_wp2_with fail
          refine ((sift_any HS5.out HZ5.out cap (lo := 0) (hi := m) (f := a) (by omega) (by omega) hd)).mono ?_
          rintro e w' ⟨rfl, hs, hk2⟩
          have HS3 := hid hs; have HK3 := hid (HK5.out.trans hk2)
          clear hs hk2
          go_wp2
          go_roundw
          case rel => exact ⟨(m : Int) - 1, m, _, rfl, by omega, by omega, by rw [sift_size]; exact HZ5.out, HS3.out, HK3.out, by rw [← HE2.out, Go.Sort.heapPop, ← HP.out]⟩
          case measure => (simp [intOf]; try omega)
        · obtain rfl : k = 0 := by omega
          obtain rfl : z = -1 := by omega
          clear hz
          go_wp2
          go_end0
          exact ⟨rfl, by rw [← HE2.out, Go.Sort.heapPop]; exact HS2.out, HK2.out⟩
end Go.Proofs.Ytaobioleodfafaa
/- The scans; partialInsertionSort of fewer than 50; partitionEqual. -/
namespace Go.Proofs.Ytaobioleodfafaa
open Go.RowKit
open Go.Sort (swp ltInt)

section
variable {p : Int → Bool} {d : Array Int} {i j b : Nat}
theorem scanUp_yes (h : i ≤ j) (hp : p d[i]! = true) : Go.Sort.scanUp p d j i = Go.Sort.scanUp p d j (i + 1) := by
  rw [Go.Sort.scanUp, hp]; simp [h]
theorem scanUp_no (h : i ≤ j → p d[i]! = false) : Go.Sort.scanUp p d j i = i := by
  rw [Go.Sort.scanUp]
  split
  · rename_i hc
    simp only [Bool.and_eq_true, decide_eq_true_eq] at hc
    rw [h hc.1] at hc
    exact absurd hc.2 (by decide)
  · rfl
theorem scanDown_yes (hi : 1 ≤ i) (h : i ≤ j) (hp : p d[j]! = true) : Go.Sort.scanDown p d i j = Go.Sort.scanDown p d i (j - 1) := by
  cases j with
  | zero => omega
  | succ j => rw [Go.Sort.scanDown, hp]; simp [h]
theorem scanDown_no (h : i ≤ j → p d[j]! = false) : Go.Sort.scanDown p d i j = j := by
  cases j with
  | zero => rw [Go.Sort.scanDown]
  | succ j =>
    rw [Go.Sort.scanDown]
    split
    · rename_i hc
      simp only [Bool.and_eq_true, decide_eq_true_eq] at hc
      rw [h hc.1] at hc
      exact absurd hc.2 (by decide)
    · rfl
theorem scanSorted_yes (h : i < b) (hp : ls d i (i - 1) = false) : Go.Sort.scanSorted ltInt d b i = Go.Sort.scanSorted ltInt d b (i + 1) := by
  rw [Go.Sort.scanSorted, ls_eq, hp]; simp [h]
theorem scanSorted_no (h : i < b → ls d i (i - 1) = true) : Go.Sort.scanSorted ltInt d b i = i := by
  rw [Go.Sort.scanSorted, ls_eq]
  split
  · rename_i hc
    simp only [Bool.and_eq_true, decide_eq_true_eq, Bool.not_eq_true'] at hc
    rw [h hc.1] at hc
    exact absurd hc.2 (by decide)
  · rfl
end
set_option maxRecDepth 100000 in
set_option maxHeartbeats 1000000 in
theorem pins_any {w : World} {g : Nat} {d : Array Int} {tl : List Value} (h : Srt w g d tl) {N : Nat} (hN : d.size = N) (cap : Nat) {a b : Nat} (hab : a < b) (hb : b ≤ N) (hd : N < 50) :
    Calls Try.prog 74 #[.slice (some ⟨g, 0, none⟩) N cap, .int .i64 a, .int .i64 b] w fun e w' => e = .returned (.bool (Go.Sort.partialInsertionSort ltInt d a b).2) ∧ (Go.Sort.partialInsertionSort ltInt d a b).1 = d ∧ Kept (fun _ => False) w w' := by
  have H := hid h; have HN := hid hN
  clear h hN
  have hdef : Hid (Go.Sort.partialInsertionSort ltInt d a b = (d, decide (Go.Sort.scanSorted ltInt d b (a + 1) = b))) := by
    refine hid ?_
    unfold Go.Sort.partialInsertionSort
    rw [Go.Sort.partialIns]
    simp only []
    split
    · rename_i h; rw [decide_eq_true h]
    · rename_i h; rw [if_pos (by omega), decide_eq_false h]
  go_enter Try.func74, Try.ntmps74
  go_wp2_with fail
  refine wp_loop_rounds 1 ?_
  rw [rounds_succ]
  go_wp2_with fail
  go_loopw [7] (fun i wr => ∃ k : Nat, i = .int .i64 k ∧ a + 1 ≤ k ∧ k ≤ b ∧ Srt wr g d tl ∧ Kept (fun _ => False) w wr ∧ Go.Sort.scanSorted ltInt d b k = Go.Sort.scanSorted ltInt d b (a + 1)) (fun i _ => b - (intOf i).toNat)
  case atStart => exact ⟨a + 1, by go_num, Nat.le_refl _, by omega, H.out, Kept.refl _ _, rfl⟩
  case round =>
    rename World => wA
    obtain ⟨k, rfl, hk, hkb, hs, hkp, heq⟩ := hrel
    have HS := hid hs; have HK := hid hkp; have HE := hid heq
    have HNN := HN.out
    clear hs hkp heq H
    by_cases hlt : k < b
    · obtain ⟨m, rfl⟩ : ∃ m, k = m + 1 := ⟨k - 1, by omega⟩
      have c0 := HS.out.cell (i := m + 1) (by omega)
      have c1 := HS.out.cell (i := m) (by omega)
      have hmN : m + 1 < N := by omega
      clear HNN
      have hdec : decide ((m : Int) + 1 < (b : Int)) = true := by simp; omega
      have hne : ((m : Int) + 1 == (b : Int)) = false := by simp; omega
      have h50 : (b : Int) - (a : Int) < 50 := by omega
      obtain ⟨t, ht⟩ : ∃ t, ls d (m + 1) m = t := ⟨_, rfl⟩
      have HT := hid ht; clear ht
      go_wp2_with fail
      go_quiet ((go_at_call 75; exact Calls.quiet_of_same (less_any _ _ _ _)))
      rw [HT.out]
      cases t with
      | true =>
        go_wp2
        go_ret
        rw [hdef.out]
        refine ⟨ret_bool (Eq.symm ?_), rfl, HK.out.trans (kept_drewN _ nq)⟩
        rw [decide_eq_false_iff_not, ← HE.out, scanSorted_no (fun _ => by simpa using HT.out)]
        omega
      | false =>
        go_wp2
        go_roundw
        case rel => exact ⟨m + 1 + 1, by go_num, by omega, by omega, HS.out.drewN nq, HK.out.trans (kept_drewN _ nq), by rw [← HE.out, ← scanSorted_yes hlt (by simpa using HT.out)]⟩
        case measure => (simp [intOf]; try omega)
    · obtain rfl : k = b := by omega
      clear HNN
      have hdec : decide ((k : Int) < (k : Int)) = false := by simp
      have hne : ((k : Int) == (k : Int)) = true := by simp
      go_wp2_with fail
      go_quiet ((go_at_call 75; exact Calls.quiet_of_same (less_any _ _ _ _)))
      go_wp2
      go_ret
      rw [hdef.out]
      refine ⟨ret_bool (Eq.symm ?_), rfl, HK.out.trans (kept_drewN _ nq)⟩
      rw [decide_eq_true_eq, ← HE.out, scanSorted_no (fun h => by omega)]
theorem partEq_step {a i j i2 j2 : Nat} {d : Array Int} (h1 : Go.Sort.scanUp (fun x => !ltInt d[a]! x) d j i = i2) (h2 : Go.Sort.scanDown (fun x => ltInt d[a]! x) d i2 j = j2) (hi : i ≤ i2) (hj : j2 ≤ j) :
    Go.Sort.partEqLoop ltInt a i j d = if i2 > j2 then (i2, d) else Go.Sort.partEqLoop ltInt a (i2 + 1) (j2 - 1) (swp d i2 j2) := by
  rw [Go.Sort.partEqLoop, h1, h2]
  by_cases h : i2 > j2
  · rw [if_pos h, if_pos h]
  · rw [if_neg h, if_neg h, dif_pos (by omega)]
set_option maxRecDepth 100000 in
set_option maxHeartbeats 2000000 in
theorem peq_any {w : World} {g : Nat} {d : Array Int} {tl : List Value} (h : Srt w g d tl) {N : Nat} (hN : d.size = N) (cap : Nat) {a b pv : Nat} (hap : a ≤ pv) (hpb : pv < b) (hb : b ≤ N) (hd : N < 50) :
    Calls Try.prog 76 #[.slice (some ⟨g, 0, none⟩) N cap, .int .i64 a, .int .i64 b, .int .i64 pv] w fun e w' => e = .returned (.int .i64 (Go.Sort.partitionEqual ltInt d a b pv).1) ∧ Srt w' g (Go.Sort.partitionEqual ltInt d a b pv).2 tl ∧ Kept (fun k => k = g) w w' := by
  have H := hid h; have HN := hid hN
  have c0 := h.cell (i := a) (by omega)
  have c1 := h.cell (i := pv) (by omega)
  have f0 := h.free a
  have f1 := h.free pv
  have haN : a < N ∧ pv < N := by omega
  obtain ⟨v', c2⟩ : ∃ v', (w.setCell ⟨g, a, none⟩ (.int .u8 (nt d pv))).cell? ⟨g, pv, none⟩ = some v' := ⟨_, (h.put a (nt d pv) (by omega)).cell (i := pv) (by simp; omega)⟩
  clear h hN
  go_enter Try.func76, Try.ntmps76
  go_wp2_with fail
  go_region
  obtain ⟨h1, h2⟩ := H.out.swapd (i := a) (j := pv) (by have := HN.out; omega) (by have := HN.out; omega)
  have HS := hid h1; have HK := hid h2
  have HZ := hid (show (swp d a pv).size = N by rw [size_swp]; exact HN.out)
  have hdef : Hid (Go.Sort.partitionEqual ltInt d a b pv = Go.Sort.partEqLoop ltInt a (a + 1) (b - 1) (swp d a pv)) := hid rfl
  obtain ⟨d1, hd1⟩ : ∃ d1, swp d a pv = d1 := ⟨_, rfl⟩
  obtain ⟨w1, hw1⟩ : ∃ w1, ((w.setCell ⟨g, a, none⟩ (.int .u8 (nt d pv))).setCell ⟨g, pv, none⟩ (.int .u8 (nt d a))).drew = w1 := ⟨_, rfl⟩
  rw [hw1] at HS HK ⊢
  rw [hd1] at HS HZ hdef
  clear h1 h2 c0 c1 c2 f0 f1 hw1 hd1 H HN
  obtain ⟨q, hq⟩ : ∃ q, b = q + 1 := ⟨b - 1, by omega⟩
  have HQ := hid hq
  have hqb : q < b ∧ q < N ∧ a ≤ q := by omega
  have e1 : (b : Int) - 1 = (q : Int) := by omega
  clear hq
  go_wp2_with fail
  clear e1
  go_loopw [9, 10] (fun i j wr => ∃ (k m : Nat) (dk : Array Int), i = .int .i64 k ∧ j = .int .i64 m ∧ a + 1 ≤ k ∧ k ≤ m + 1 ∧ m ≤ q ∧ dk.size = N ∧ Srt wr g dk tl ∧ Kept (fun k => k = g) w wr ∧ Go.Sort.partEqLoop ltInt a k m dk = Go.Sort.partitionEqual ltInt d a b pv) (fun i j _ => N + (intOf j).toNat - (intOf i).toNat)
  case atStart => exact ⟨a + 1, q, d1, by go_num, rfl, Nat.le_refl _, by omega, Nat.le_refl _, HZ.out, HS.out, HK.out, by rw [hdef.out, HQ.out]; rfl⟩
  case round =>
    rename World => wA
    obtain ⟨k, m, dk, rfl, rfl, hk, hkm, hmq, hsz, hs, hkp, heq⟩ := hrel
    have HS1 := hid hs; have HK1 := hid hkp; have HE := hid heq; have HZ1 := hid hsz
    clear hs hkp heq hsz HS HK HZ hdef
    go_wp2_with fail
    go_loopw [9] (fun i wr => ∃ u : Nat, i = .int .i64 u ∧ k ≤ u ∧ u ≤ m + 1 ∧ Srt wr g dk tl ∧ Kept (fun _ => False) wA wr ∧ Go.Sort.scanUp (fun x => !ltInt dk[a]! x) dk m u = Go.Sort.scanUp (fun x => !ltInt dk[a]! x) dk m k) (fun i _ => m + 1 - (intOf i).toNat)
    case atStart => exact ⟨k, rfl, Nat.le_refl _, hkm, HS1.out, Kept.refl _ _, rfl⟩
    case round =>
      rename World => wB
      obtain ⟨u, rfl, hku, hum, hs, hkp, heq⟩ := hrel
      have HS2 := hid hs; have HK2 := hid hkp; have HE2 := hid heq
      clear hs hkp heq
      have hZ := HZ1.out
      by_cases hlt : u ≤ m
      · have c0 := HS2.out.cell (i := a) (by omega)
        have c1 := HS2.out.cell (i := u) (by omega)
        have huN : u < N := by omega
        clear hZ
        have hdec : decide ((u : Int) ≤ (m : Int)) = true := by simp; omega
        obtain ⟨t, ht⟩ : ∃ t, ls dk a u = t := ⟨_, rfl⟩
        have HT := hid ht; clear ht
        go_wp2_with fail
        go_quiet ((go_at_call 75; exact Calls.quiet_of_same (less_any _ _ _ _)))
        rw [HT.out]
        clear c0 c1
        have HS3 := hid (HS2.out.drewN nq)
        have HK3 := hid (HK2.out.trans (kept_drewN wB nq))
        obtain ⟨wC, hwC⟩ : ∃ wC, wB.drewN nq = wC := ⟨_, rfl⟩
        rw [hwC] at HS3 HK3 ⊢
        clear hwC
        cases t with
        | false =>
          go_wp2
          go_roundw
          case rel => exact ⟨u + 1, by go_num, by omega, by omega, HS3.out, HK3.out, by rw [← HE2.out, ← scanUp_yes hlt (by rw [ls_eq, HT.out]; rfl)]⟩
          case measure => (simp [intOf]; try omega)
        | true =>
          have HU := hid (show Go.Sort.scanUp (fun x => !ltInt dk[a]! x) dk m k = u by rw [← HE2.out, scanUp_no (fun _ => by rw [ls_eq, HT.out]; rfl)])
          go_wp2_with fail
          go_loopw [10] (fun j wr => ∃ v : Nat, j = .int .i64 v ∧ u ≤ v + 1 ∧ v ≤ m ∧ Srt wr g dk tl ∧ Kept (fun _ => False) wA wr ∧ Go.Sort.scanDown (fun x => ltInt dk[a]! x) dk u v = Go.Sort.scanDown (fun x => ltInt dk[a]! x) dk u m) (fun j _ => (intOf j).toNat)
          case atStart => exact ⟨m, rfl, hum, Nat.le_refl _, HS3.out, HK3.out, rfl⟩
          case round =>
            rename World => wD
            obtain ⟨v, rfl, huv, hvm, hs, hkp, heq⟩ := hrel
            have HS4 := hid hs; have HK4 := hid hkp; have HE4 := hid heq
            clear hs hkp heq HS3 HK3 HS2 HK2 HE2
            have hZ := HZ1.out
            by_cases hlv : u ≤ v
            · have c0 := HS4.out.cell (i := a) (by omega)
              have c1 := HS4.out.cell (i := v) (by omega)
              have hvN : v < N := by omega
              clear hZ
              have hdec : decide ((u : Int) ≤ (v : Int)) = true := by simp; omega
              obtain ⟨t, ht⟩ : ∃ t, ls dk a v = t := ⟨_, rfl⟩
              have HT4 := hid ht; clear ht
              go_wp2_with fail
              go_quiet ((go_at_call 75; exact Calls.quiet_of_same (less_any _ _ _ _)))
              rw [HT4.out]
              clear c0 c1
              have HS5 := hid (HS4.out.drewN nq)
              have HK5 := hid (HK4.out.trans (kept_drewN wD nq))
              obtain ⟨wE, hwE⟩ : ∃ wE, wD.drewN nq = wE := ⟨_, rfl⟩
              rw [hwE] at HS5 HK5 ⊢
              clear hwE
              cases t with
              | true =>
                obtain ⟨z, hz⟩ : ∃ z : Nat, v = z + 1 := ⟨v - 1, by omega⟩
                subst hz
                go_wp2
                go_roundw
                case rel => exact ⟨z, by go_num, by omega, by omega, HS5.out, HK5.out, by rw [← HE4.out, scanDown_yes (by omega) hlv (by rw [ls_eq, HT4.out])]; rfl⟩
                case measure => (simp [intOf]; try omega)
              | false =>
                have HV := hid (show Go.Sort.scanDown (fun x => ltInt dk[a]! x) dk u m = v by rw [← HE4.out, scanDown_no (fun _ => by rw [ls_eq, HT4.out])])
                have HP := hid (partEq_step HU.out HV.out hku hvm)
                have hne : u < v := by
                  rcases Nat.lt_or_ge u v with h | h
                  · exact h
                  · have e : u = v := by omega
                    have h1 := HT.out; rw [e, HT4.out] at h1; cases h1
                have c0 := HS5.out.cell (i := u) (by have := HZ1.out; omega)
                have c1 := HS5.out.cell (i := v) (by have := HZ1.out; omega)
                have f0 := HS5.out.free u
                have f1 := HS5.out.free v
                have huN : u < N := by omega
                obtain ⟨v', c2⟩ : ∃ v', (wE.setCell ⟨g, u, none⟩ (.int .u8 (nt dk v))).cell? ⟨g, v, none⟩ = some v' := ⟨_, (HS5.out.put u (nt dk v) (by have := HZ1.out; omega)).cell (i := v) (by simp; have := HZ1.out; omega)⟩
                obtain ⟨z, hz⟩ : ∃ z : Nat, v = z + 1 := ⟨v - 1, by omega⟩
                have hgt : decide ((v : Int) < (u : Int)) = false := by simp; omega
                have hvz : (v : Int) - 1 = (z : Int) := by omega
                have HVZ := hid hz
                clear hz
                go_wp2_with fail
                go_region
                obtain ⟨h1, h2⟩ := HS5.out.swapd (i := u) (j := v) (by have := HZ1.out; omega) (by have := HZ1.out; omega)
                have HS6 := hid h1; have HK6 := hid ((HK1.out.trans (HK5.out.mono (fun _ _ h => h.elim))).trans h2)
                clear h1 h2 c0 c1 c2 f0 f1
                go_wp2
                go_roundw
                case rel => exact ⟨u + 1, z, _, by go_num, rfl, by omega, by have := HVZ.out; omega, by have := HVZ.out; omega, by rw [size_swp]; exact HZ1.out, HS6.out, HK6.out, by rw [← HE.out, HP.out, if_neg (by omega), HVZ.out]; rfl⟩
                case measure => (have := HVZ.out; simp [intOf]; try omega)
            · obtain ⟨u2, hu2⟩ : ∃ u2, v + 1 = u2 := ⟨_, rfl⟩
              have hvu : u = v + 1 := by omega
              have HVU := hid hvu
              clear hZ hvu hu2
              have hdec : decide ((u : Int) ≤ (v : Int)) = false := by simp; omega
              have hgt : decide ((v : Int) < (u : Int)) = true := by simp; omega
              have HV := hid (show Go.Sort.scanDown (fun x => ltInt dk[a]! x) dk u m = v by rw [← HE4.out, scanDown_no (fun h => by omega)])
              have HP := hid (partEq_step HU.out HV.out hku hvm)
              go_wp2_with fail
              go_quiet ((go_at_call 75; exact Calls.quiet_of_same (less_any _ _ _ _)))
              go_wp2
              go_ret
              rw [← HE.out, HP.out, if_pos (by omega)]
              exact ⟨rfl, HS4.out.drewN nq, (HK1.out.trans (HK4.out.mono (fun _ _ h => h.elim))).trans (kept_drewN _ nq)⟩
      · clear hZ
        have hdec : decide ((u : Int) ≤ (m : Int)) = false := by simp; omega
        go_wp2_with fail
        go_quiet ((go_at_call 75; exact Calls.quiet_of_same (less_any _ _ _ _)))
        have HS3 := hid (HS2.out.drewN nq)
        have HK3 := hid (HK2.out.trans (kept_drewN wB nq))
        obtain ⟨wC, hwC⟩ : ∃ wC, wB.drewN nq = wC := ⟨_, rfl⟩
        rw [hwC] at HS3 HK3 ⊢
        clear hwC
        have HU := hid (show Go.Sort.scanUp (fun x => !ltInt dk[a]! x) dk m k = u by rw [← HE2.out, scanUp_no (fun h => by omega)])
        go_wp2_with fail
        go_loopw [10] (fun j wr => ∃ v : Nat, j = .int .i64 v ∧ u ≤ v + 1 ∧ v ≤ m ∧ Srt wr g dk tl ∧ Kept (fun _ => False) wA wr ∧ Go.Sort.scanDown (fun x => ltInt dk[a]! x) dk u v = Go.Sort.scanDown (fun x => ltInt dk[a]! x) dk u m) (fun j _ => (intOf j).toNat)
        case atStart => exact ⟨m, rfl, hum, Nat.le_refl _, HS3.out, HK3.out, rfl⟩
        case round =>
          rename World => wD
          obtain ⟨v, rfl, huv, hvm, hs, hkp, heq⟩ := hrel
          have HS4 := hid hs; have HK4 := hid hkp; have HE4 := hid heq
          clear hs hkp heq HS3 HK3 HS2 HK2 HE2
          have hZ := HZ1.out
          have hlv : ¬ u ≤ v := by omega
          obtain ⟨u2, hu2⟩ : ∃ u2, v + 1 = u2 := ⟨_, rfl⟩
          have hvu : u = v + 1 := by omega
          have HVU := hid hvu
          clear hZ hvu hu2
          have hdec : decide ((u : Int) ≤ (v : Int)) = false := by simp; omega
          have hgt : decide ((v : Int) < (u : Int)) = true := by simp; omega
          have HV := hid (show Go.Sort.scanDown (fun x => ltInt dk[a]! x) dk u m = v by rw [← HE4.out, scanDown_no (fun h => by omega)])
          have HP := hid (partEq_step HU.out HV.out hku hvm)
          go_wp2_with fail
          go_quiet ((go_at_call 75; exact Calls.quiet_of_same (less_any _ _ _ _)))
          go_wp2
          go_ret
          rw [← HE.out, HP.out, if_pos (by omega)]
          exact ⟨rfl, HS4.out.drewN nq, (HK1.out.trans (HK4.out.mono (fun _ _ h => h.elim))).trans (kept_drewN _ nq)⟩
end Go.Proofs.Ytaobioleodfafaa
/- partition (printed by tools/part.py). -/
namespace Go.Proofs.Ytaobioleodfafaa
open Go.RowKit
open Go.Sort (swp ltInt)

theorem part_step {a i j i2 j2 : Nat} {d : Array Int} (h1 : Go.Sort.scanUp (fun x => ltInt x d[a]!) d j i = i2) (h2 : Go.Sort.scanDown (fun x => !ltInt x d[a]!) d i2 j = j2) (hi : i ≤ i2) (hj : j2 ≤ j) :
    Go.Sort.partLoop ltInt a i j d = if i2 > j2 then (j2, d) else Go.Sort.partLoop ltInt a (i2 + 1) (j2 - 1) (swp d i2 j2) := by
  rw [Go.Sort.partLoop, h1, h2]
  by_cases h : i2 > j2
  · rw [if_pos h, if_pos h]
  · rw [if_neg h, if_neg h, dif_pos (by omega)]
theorem part_def {a b pv q i j : Nat} {d d1 : Array Int} {r : Nat × Bool × Array Int} (hr : Go.Sort.partition ltInt d a b pv = r) (hd : swp d a pv = d1) (hq : b = q + 1) (h1 : Go.Sort.scanUp (fun x => ltInt x d1[a]!) d1 q (a + 1) = i) (h2 : Go.Sort.scanDown (fun x => !ltInt x d1[a]!) d1 i q = j) :
    r = if i > j then (j, true, swp d1 j a) else ((Go.Sort.partLoop ltInt a (i + 1) (j - 1) (swp d1 i j)).1, false, swp (Go.Sort.partLoop ltInt a (i + 1) (j - 1) (swp d1 i j)).2 (Go.Sort.partLoop ltInt a (i + 1) (j - 1) (swp d1 i j)).1 a) := by
  subst hq
  rw [← hr]
  unfold Go.Sort.partition
  simp only [hd, Nat.add_sub_cancel, h1, h2]
set_option maxRecDepth 100000 in
set_option maxHeartbeats 4000000 in
theorem part_any {w : World} {g : Nat} {d : Array Int} {tl : List Value} (h : Srt w g d tl) {N : Nat} (hN : d.size = N) (cap : Nat) {a b pv : Nat} (hap : a ≤ pv) (hpb : pv < b) (hb : b ≤ N) (hd : N < 50) :
    Calls Try.prog 77 #[.slice (some ⟨g, 0, none⟩) N cap, .int .i64 a, .int .i64 b, .int .i64 pv] w fun e w' => e = .returned (.tuple #[.int .i64 (Go.Sort.partition ltInt d a b pv).1, .bool (Go.Sort.partition ltInt d a b pv).2.1]) ∧ Srt w' g (Go.Sort.partition ltInt d a b pv).2.2 tl ∧ Kept (fun k => k = g) w w' := by
  have HSw := hid h; have HZd := hid hN
  have haN : a < N ∧ pv < N := by omega
  clear h hN
  obtain ⟨q, hq⟩ : ∃ q, b = q + 1 := ⟨b - 1, by omega⟩
  have HQ := hid hq
  have hqb : q < b ∧ q < N ∧ a ≤ q := by omega
  have e1 : (b : Int) - 1 = (q : Int) := by omega
  clear hq
  go_enter Try.func77, Try.ntmps77
  have c0 := HSw.out.cell (i := a) (by have := HZd.out; omega)
  have c1 := HSw.out.cell (i := pv) (by have := HZd.out; omega)
  have f0 := HSw.out.free a
  have f1 := HSw.out.free pv
  obtain ⟨v', c2⟩ : ∃ v', (w.setCell ⟨g, a, none⟩ (.int .u8 (nt d pv))).cell? ⟨g, pv, none⟩ = some v' := ⟨_, (HSw.out.put a (nt d pv) (by have := HZd.out; omega)).cell (i := pv) (by simp; have := HZd.out; omega)⟩
  go_wp2_with fail
  go_region
  obtain ⟨h1, h2⟩ := HSw.out.swapd (i := a) (j := pv) (by have := HZd.out; omega) (by have := HZd.out; omega)
  have HSw1 := hid h1; have HKw1 := hid ((Kept.refl (fun k => k = g) w).trans h2)
  have HZd0 := hid (show (swp d a pv).size = N by rw [size_swp]; exact HZd.out)
  obtain ⟨w1, ho⟩ : ∃ x, ((w.setCell ⟨g, a, none⟩ (.int .u8 (nt d pv))).setCell ⟨g, pv, none⟩ (.int .u8 (nt d a))).drew = x := ⟨_, rfl⟩
  rw [ho] at HSw1 HKw1 ⊢
  clear h1 h2 c0 c1 c2 f0 f1 ho
  obtain ⟨d1, hd1⟩ : ∃ x, swp d a pv = x := ⟨_, rfl⟩
  rw [hd1] at HSw1 HZd0
  have HD1 := hid hd1; have HZd1 := hid HZd0.out
  clear hd1 HZd0
  go_wp2_with fail
  clear e1
  have hk1 : a + 1 ≤ q + 1 := by omega
  go_wp2_with fail
  go_loopw [10] (fun i wr => ∃ u : Nat, i = .int .i64 u ∧ (a + 1) ≤ u ∧ u ≤ q + 1 ∧ Srt wr g d1 tl ∧ Kept (fun _ => False) w1 wr ∧ Go.Sort.scanUp (fun x => ltInt x d1[a]!) d1 q u = Go.Sort.scanUp (fun x => ltInt x d1[a]!) d1 q (a + 1)) (fun i _ => q + 1 - (intOf i).toNat)
  case atStart => exact ⟨(a + 1), by first | rfl | go_num, Nat.le_refl _, by omega, HSw1.out, Kept.refl _ _, rfl⟩
  case round =>
    rename World => wu1
    obtain ⟨u1, rfl, hlu1, huh1, hs, hkp, heq⟩ := hrel
    have HSu1 := hid hs; have HKu1 := hid hkp; have HEu1 := hid heq
    clear hs hkp heq HSw1
    by_cases hlt1 : u1 ≤ q
    · have c0 := HSu1.out.cell (i := a) (by have := HZd1.out; omega)
      have c1 := HSu1.out.cell (i := u1) (by have := HZd1.out; omega)
      have huN1 : u1 < N := by omega
      have hdec : decide ((u1 : Int) ≤ (q : Int)) = true := by simp; omega
      obtain ⟨t, ht⟩ : ∃ t, ls d1 u1 a = t := ⟨_, rfl⟩
      have HTu1 := hid ht; clear ht
      go_wp2_with fail
      go_quiet ((go_at_call 75; exact Calls.quiet_of_same (less_any _ _ _ _)))
      rw [HTu1.out]
      clear c0 c1 hdec
      have HSx1 := hid (HSu1.out.drewN nq)
      have HKx1 := hid (HKu1.out.trans (kept_drewN wu1 nq))
      obtain ⟨x1, hx⟩ : ∃ x, wu1.drewN nq = x := ⟨_, rfl⟩
      rw [hx] at HSx1 HKx1 ⊢
      clear hx HSu1 HKu1
      cases t with
      | true =>
        go_wp2
        go_roundw
        case rel => exact ⟨u1 + 1, by go_num, by omega, by omega, HSx1.out, HKx1.out, by rw [← HEu1.out, ← scanUp_yes hlt1 (by rw [ls_eq, HTu1.out])]⟩
        case measure => (simp [intOf]; try omega)
      | false =>
        have HU1 := hid (show Go.Sort.scanUp (fun x => ltInt x d1[a]!) d1 q (a + 1) = u1 by rw [← HEu1.out, scanUp_no (fun _ => by rw [ls_eq, HTu1.out])])
        go_wp2_with fail
        go_loopw [11] (fun j wr => ∃ v : Nat, j = .int .i64 v ∧ u1 ≤ v + 1 ∧ v ≤ q ∧ Srt wr g d1 tl ∧ Kept (fun _ => False) x1 wr ∧ Go.Sort.scanDown (fun x => !ltInt x d1[a]!) d1 u1 v = Go.Sort.scanDown (fun x => !ltInt x d1[a]!) d1 u1 q) (fun j _ => (intOf j).toNat)
        case atStart => exact ⟨q, rfl, by omega, Nat.le_refl _, HSx1.out, Kept.refl _ _, rfl⟩
        case round =>
          rename World => wv2
          obtain ⟨v2, rfl, huv2, hvh2, hs, hkp, heq⟩ := hrel
          have HSv2 := hid hs; have HKv2 := hid hkp; have HEv2 := hid heq
          clear hs hkp heq HSx1
          by_cases hlv2 : u1 ≤ v2
          · have c0 := HSv2.out.cell (i := a) (by have := HZd1.out; omega)
            have c1 := HSv2.out.cell (i := v2) (by have := HZd1.out; omega)
            have hvN2 : v2 < N := by omega
            have hdec : decide ((u1 : Int) ≤ (v2 : Int)) = true := by simp; omega
            obtain ⟨t, ht⟩ : ∃ t, ls d1 v2 a = t := ⟨_, rfl⟩
            have HTv2 := hid ht; clear ht
            go_wp2_with fail
            go_quiet ((go_at_call 75; exact Calls.quiet_of_same (less_any _ _ _ _)))
            rw [HTv2.out]
            clear c0 c1 hdec
            have HSy2 := hid (HSv2.out.drewN nq)
            have HKy2 := hid (HKv2.out.trans (kept_drewN wv2 nq))
            obtain ⟨y2, hy⟩ : ∃ y, wv2.drewN nq = y := ⟨_, rfl⟩
            rw [hy] at HSy2 HKy2 ⊢
            clear hy HSv2 HKv2
            cases t with
            | false =>
              obtain ⟨z, hz⟩ : ∃ z : Nat, v2 = z + 1 := ⟨v2 - 1, by omega⟩
              subst hz
              go_wp2
              go_roundw
              case rel => exact ⟨z, by go_num, by omega, by omega, HSy2.out, HKy2.out, by rw [← HEv2.out, scanDown_yes (by omega) hlv2 (by rw [ls_eq, HTv2.out]; rfl)]; rfl⟩
              case measure => (simp [intOf]; try omega)
            | true =>
              have HV2 := hid (show Go.Sort.scanDown (fun x => !ltInt x d1[a]!) d1 u1 q = v2 by rw [← HEv2.out, scanDown_no (fun _ => by rw [ls_eq, HTv2.out]; rfl)])
              have hne : u1 < v2 := by
                rcases Nat.lt_or_ge u1 v2 with h | h
                · exact h
                · have e : u1 = v2 := by omega
                  have h1 := HTu1.out; rw [e, HTv2.out] at h1; cases h1
              have hgt : decide ((v2 : Int) < (u1 : Int)) = false := by simp; omega
              obtain ⟨z, hz⟩ : ∃ z : Nat, v2 = z + 1 := ⟨v2 - 1, by omega⟩
              have hvz : (v2 : Int) - 1 = (z : Int) := by omega
              have hzb : u1 + 1 ≤ z + 1 ∧ z ≤ q := by omega
              have HVZ := hid hz
              clear hz
              have c0 := HSy2.out.cell (i := u1) (by have := HZd1.out; omega)
              have c1 := HSy2.out.cell (i := v2) (by have := HZd1.out; omega)
              have f0 := HSy2.out.free u1
              have f1 := HSy2.out.free v2
              obtain ⟨v', c2⟩ : ∃ v', (y2.setCell ⟨g, u1, none⟩ (.int .u8 (nt d1 v2))).cell? ⟨g, v2, none⟩ = some v' := ⟨_, (HSy2.out.put u1 (nt d1 v2) (by have := HZd1.out; omega)).cell (i := v2) (by simp; have := HZd1.out; omega)⟩
              go_wp2_with fail
              go_region
              obtain ⟨h1, h2⟩ := HSy2.out.swapd (i := u1) (j := v2) (by have := HZd1.out; omega) (by have := HZd1.out; omega)
              have HSwf := hid h1; have HKwf := hid ((HKw1.out.trans ((HKx1.out.trans HKy2.out).mono (fun _ _ h => h.elim))).trans h2)
              have HZdf := hid (show (swp d1 u1 v2).size = N by rw [size_swp]; exact HZd1.out)
              obtain ⟨wf, ho⟩ : ∃ x, ((y2.setCell ⟨g, u1, none⟩ (.int .u8 (nt d1 v2))).setCell ⟨g, v2, none⟩ (.int .u8 (nt d1 u1))).drew = x := ⟨_, rfl⟩
              rw [ho] at HSwf HKwf ⊢
              clear h1 h2 c0 c1 c2 f0 f1 ho
              obtain ⟨R, hR⟩ : ∃ R, Go.Sort.partLoop ltInt a (u1 + 1) z (swp d1 u1 v2) = R := ⟨_, rfl⟩
              have HR := hid hR
              have HDEF : Hid (Go.Sort.partition ltInt d a b pv = (R.1, false, swp R.2 R.1 a)) := by
                refine hid ?_
                rw [part_def rfl HD1.out HQ.out HU1.out HV2.out, if_neg (by omega)]
                rw [show v2 - 1 = z by have := HVZ.out; omega, hR]
              clear hR
              go_wp2_with fail
              go_loopw [10, 11] (fun i j wr => ∃ (k0 m0 : Nat) (dk : Array Int), i = .int .i64 k0 ∧ j = .int .i64 m0 ∧ a + 1 ≤ k0 ∧ k0 ≤ m0 + 1 ∧ m0 ≤ q ∧ dk.size = N ∧ Srt wr g dk tl ∧ Kept (fun k => k = g) w wr ∧ Go.Sort.partLoop ltInt a k0 m0 dk = R) (fun i j _ => N + (intOf j).toNat - (intOf i).toNat)
              case atStart => exact ⟨_, z, _, by go_num, rfl, by omega, by omega, by omega, HZdf.out, HSwf.out, HKwf.out, HR.out⟩
              case round =>
                rename World => wo
                obtain ⟨k0, m0, dk, rfl, rfl, hk0, hkm0, hmq0, hsz, hs, hkp, heq⟩ := hrel
                have HSwo := hid hs; have HKwo := hid hkp; have HEo := hid heq; have HZdk := hid hsz
                clear hs hkp heq hsz HSwf HKwf HR
                go_wp2_with fail
                go_loopw [10] (fun i wr => ∃ u : Nat, i = .int .i64 u ∧ k0 ≤ u ∧ u ≤ m0 + 1 ∧ Srt wr g dk tl ∧ Kept (fun _ => False) wo wr ∧ Go.Sort.scanUp (fun x => ltInt x dk[a]!) dk m0 u = Go.Sort.scanUp (fun x => ltInt x dk[a]!) dk m0 k0) (fun i _ => m0 + 1 - (intOf i).toNat)
                case atStart => exact ⟨k0, by first | rfl | go_num, Nat.le_refl _, by omega, HSwo.out, Kept.refl _ _, rfl⟩
                case round =>
                  rename World => wu4
                  obtain ⟨u4, rfl, hlu4, huh4, hs, hkp, heq⟩ := hrel
                  have HSu4 := hid hs; have HKu4 := hid hkp; have HEu4 := hid heq
                  clear hs hkp heq HSwo
                  by_cases hlt4 : u4 ≤ m0
                  · have c0 := HSu4.out.cell (i := a) (by have := HZdk.out; omega)
                    have c1 := HSu4.out.cell (i := u4) (by have := HZdk.out; omega)
                    have huN4 : u4 < N := by omega
                    have hdec : decide ((u4 : Int) ≤ (m0 : Int)) = true := by simp; omega
                    obtain ⟨t, ht⟩ : ∃ t, ls dk u4 a = t := ⟨_, rfl⟩
                    have HTu4 := hid ht; clear ht
                    go_wp2_with fail
                    go_quiet ((go_at_call 75; exact Calls.quiet_of_same (less_any _ _ _ _)))
                    rw [HTu4.out]
                    clear c0 c1 hdec
                    have HSx4 := hid (HSu4.out.drewN nq)
                    have HKx4 := hid (HKu4.out.trans (kept_drewN wu4 nq))
                    obtain ⟨x4, hx⟩ : ∃ x, wu4.drewN nq = x := ⟨_, rfl⟩
                    rw [hx] at HSx4 HKx4 ⊢
                    clear hx HSu4 HKu4
                    cases t with
                    | true =>
                      go_wp2
                      go_roundw
                      case rel => exact ⟨u4 + 1, by go_num, by omega, by omega, HSx4.out, HKx4.out, by rw [← HEu4.out, ← scanUp_yes hlt4 (by rw [ls_eq, HTu4.out])]⟩
                      case measure => (simp [intOf]; try omega)
                    | false =>
                      have HU4 := hid (show Go.Sort.scanUp (fun x => ltInt x dk[a]!) dk m0 k0 = u4 by rw [← HEu4.out, scanUp_no (fun _ => by rw [ls_eq, HTu4.out])])
                      go_wp2_with fail
                      go_loopw [11] (fun j wr => ∃ v : Nat, j = .int .i64 v ∧ u4 ≤ v + 1 ∧ v ≤ m0 ∧ Srt wr g dk tl ∧ Kept (fun _ => False) x4 wr ∧ Go.Sort.scanDown (fun x => !ltInt x dk[a]!) dk u4 v = Go.Sort.scanDown (fun x => !ltInt x dk[a]!) dk u4 m0) (fun j _ => (intOf j).toNat)
                      case atStart => exact ⟨m0, rfl, by omega, Nat.le_refl _, HSx4.out, Kept.refl _ _, rfl⟩
                      case round =>
                        rename World => wv5
                        obtain ⟨v5, rfl, huv5, hvh5, hs, hkp, heq⟩ := hrel
                        have HSv5 := hid hs; have HKv5 := hid hkp; have HEv5 := hid heq
                        clear hs hkp heq HSx4
                        by_cases hlv5 : u4 ≤ v5
                        · have c0 := HSv5.out.cell (i := a) (by have := HZdk.out; omega)
                          have c1 := HSv5.out.cell (i := v5) (by have := HZdk.out; omega)
                          have hvN5 : v5 < N := by omega
                          have hdec : decide ((u4 : Int) ≤ (v5 : Int)) = true := by simp; omega
                          obtain ⟨t, ht⟩ : ∃ t, ls dk v5 a = t := ⟨_, rfl⟩
                          have HTv5 := hid ht; clear ht
                          go_wp2_with fail
                          go_quiet ((go_at_call 75; exact Calls.quiet_of_same (less_any _ _ _ _)))
                          rw [HTv5.out]
                          clear c0 c1 hdec
                          have HSy5 := hid (HSv5.out.drewN nq)
                          have HKy5 := hid (HKv5.out.trans (kept_drewN wv5 nq))
                          obtain ⟨y5, hy⟩ : ∃ y, wv5.drewN nq = y := ⟨_, rfl⟩
                          rw [hy] at HSy5 HKy5 ⊢
                          clear hy HSv5 HKv5
                          cases t with
                          | false =>
                            obtain ⟨z, hz⟩ : ∃ z : Nat, v5 = z + 1 := ⟨v5 - 1, by omega⟩
                            subst hz
                            go_wp2
                            go_roundw
                            case rel => exact ⟨z, by go_num, by omega, by omega, HSy5.out, HKy5.out, by rw [← HEv5.out, scanDown_yes (by omega) hlv5 (by rw [ls_eq, HTv5.out]; rfl)]; rfl⟩
                            case measure => (simp [intOf]; try omega)
                          | true =>
                            have HV5 := hid (show Go.Sort.scanDown (fun x => !ltInt x dk[a]!) dk u4 m0 = v5 by rw [← HEv5.out, scanDown_no (fun _ => by rw [ls_eq, HTv5.out]; rfl)])
                            have hne : u4 < v5 := by
                              rcases Nat.lt_or_ge u4 v5 with h | h
                              · exact h
                              · have e : u4 = v5 := by omega
                                have h1 := HTu4.out; rw [e, HTv5.out] at h1; cases h1
                            have hgt : decide ((v5 : Int) < (u4 : Int)) = false := by simp; omega
                            have HP := hid (part_step HU4.out HV5.out hlu4 hvh5)
                            obtain ⟨z, hz⟩ : ∃ z : Nat, v5 = z + 1 := ⟨v5 - 1, by omega⟩
                            have hvz : (v5 : Int) - 1 = (z : Int) := by omega
                            have HVZ := hid hz
                            clear hz
                            have c0 := HSy5.out.cell (i := u4) (by have := HZdk.out; omega)
                            have c1 := HSy5.out.cell (i := v5) (by have := HZdk.out; omega)
                            have f0 := HSy5.out.free u4
                            have f1 := HSy5.out.free v5
                            obtain ⟨v', c2⟩ : ∃ v', (y5.setCell ⟨g, u4, none⟩ (.int .u8 (nt dk v5))).cell? ⟨g, v5, none⟩ = some v' := ⟨_, (HSy5.out.put u4 (nt dk v5) (by have := HZdk.out; omega)).cell (i := v5) (by simp; have := HZdk.out; omega)⟩
                            go_wp2_with fail
                            go_region
                            obtain ⟨h1, h2⟩ := HSy5.out.swapd (i := u4) (j := v5) (by have := HZdk.out; omega) (by have := HZdk.out; omega)
                            have HSwe5 := hid h1; have HKwe5 := hid ((HKwo.out.trans ((HKx4.out.trans HKy5.out).mono (fun _ _ h => h.elim))).trans h2)
                            have HZde5 := hid (show (swp dk u4 v5).size = N by rw [size_swp]; exact HZdk.out)
                            obtain ⟨we5, ho⟩ : ∃ x, ((y5.setCell ⟨g, u4, none⟩ (.int .u8 (nt dk v5))).setCell ⟨g, v5, none⟩ (.int .u8 (nt dk u4))).drew = x := ⟨_, rfl⟩
                            rw [ho] at HSwe5 HKwe5 ⊢
                            clear h1 h2 c0 c1 c2 f0 f1 ho
                            go_wp2
                            go_roundw
                            case rel => exact ⟨u4 + 1, z, _, by go_num, rfl, by omega, by have := HVZ.out; omega, by have := HVZ.out; omega, HZde5.out, HSwe5.out, HKwe5.out, by rw [← HEo.out, HP.out, if_neg (by omega), HVZ.out]; rfl⟩
                            case measure => (have := HVZ.out; simp [intOf]; try omega)
                        · have hno5 : ¬ u4 ≤ v5 := hlv5
                          have hdec : decide ((u4 : Int) ≤ (v5 : Int)) = false := by simp; omega
                          go_wp2_with fail
                          go_quiet ((go_at_call 75; exact Calls.quiet_of_same (less_any _ _ _ _)))
                          clear hdec
                          have HSy5 := hid (HSv5.out.drewN nq)
                          have HKy5 := hid (HKv5.out.trans (kept_drewN wv5 nq))
                          obtain ⟨y5, hy⟩ : ∃ y, wv5.drewN nq = y := ⟨_, rfl⟩
                          rw [hy] at HSy5 HKy5 ⊢
                          clear hy HSv5 HKv5
                          have HV5 := hid (show Go.Sort.scanDown (fun x => !ltInt x dk[a]!) dk u4 m0 = v5 by rw [← HEv5.out, scanDown_no (fun h => by omega)])
                          have hgt : decide ((v5 : Int) < (u4 : Int)) = true := by simp; omega
                          have HP := hid (part_step HU4.out HV5.out hlu4 hvh5)
                          have c0 := HSy5.out.cell (i := v5) (by have := HZdk.out; omega)
                          have c1 := HSy5.out.cell (i := a) (by have := HZdk.out; omega)
                          have f0 := HSy5.out.free v5
                          have f1 := HSy5.out.free a
                          obtain ⟨v', c2⟩ : ∃ v', (y5.setCell ⟨g, v5, none⟩ (.int .u8 (nt dk a))).cell? ⟨g, a, none⟩ = some v' := ⟨_, (HSy5.out.put v5 (nt dk a) (by have := HZdk.out; omega)).cell (i := a) (by simp; have := HZdk.out; omega)⟩
                          go_wp2_with fail
                          go_region
                          obtain ⟨h1, h2⟩ := HSy5.out.swapd (i := v5) (j := a) (by have := HZdk.out; omega) (by have := HZdk.out; omega)
                          have HSwe5 := hid h1; have HKwe5 := hid ((HKwo.out.trans ((HKx4.out.trans HKy5.out).mono (fun _ _ h => h.elim))).trans h2)
                          have HZde5 := hid (show (swp dk v5 a).size = N by rw [size_swp]; exact HZdk.out)
                          obtain ⟨we5, ho⟩ : ∃ x, ((y5.setCell ⟨g, v5, none⟩ (.int .u8 (nt dk a))).setCell ⟨g, a, none⟩ (.int .u8 (nt dk v5))).drew = x := ⟨_, rfl⟩
                          rw [ho] at HSwe5 HKwe5 ⊢
                          clear h1 h2 c0 c1 c2 f0 f1 ho
                          go_wp2
                          go_ret2
                          have he : Go.Sort.partLoop ltInt a k0 m0 dk = (v5, dk) := by rw [HP.out, if_pos (by omega)]
                          rw [HDEF.out, ← HEo.out, he]
                          exact ⟨rfl, HSwe5.out, HKwe5.out⟩
                  · have hdec : decide ((u4 : Int) ≤ (m0 : Int)) = false := by simp; omega
                    go_wp2_with fail
                    go_quiet ((go_at_call 75; exact Calls.quiet_of_same (less_any _ _ _ _)))
                    clear hdec
                    have HSx4 := hid (HSu4.out.drewN nq)
                    have HKx4 := hid (HKu4.out.trans (kept_drewN wu4 nq))
                    obtain ⟨x4, hx⟩ : ∃ x, wu4.drewN nq = x := ⟨_, rfl⟩
                    rw [hx] at HSx4 HKx4 ⊢
                    clear hx HSu4 HKu4
                    have HU4 := hid (show Go.Sort.scanUp (fun x => ltInt x dk[a]!) dk m0 k0 = u4 by rw [← HEu4.out, scanUp_no (fun h => by omega)])
                    go_wp2_with fail
                    go_loopw [11] (fun j wr => ∃ v : Nat, j = .int .i64 v ∧ u4 ≤ v + 1 ∧ v ≤ m0 ∧ Srt wr g dk tl ∧ Kept (fun _ => False) x4 wr ∧ Go.Sort.scanDown (fun x => !ltInt x dk[a]!) dk u4 v = Go.Sort.scanDown (fun x => !ltInt x dk[a]!) dk u4 m0) (fun j _ => (intOf j).toNat)
                    case atStart => exact ⟨m0, rfl, by omega, Nat.le_refl _, HSx4.out, Kept.refl _ _, rfl⟩
                    case round =>
                      rename World => wv6
                      obtain ⟨v6, rfl, huv6, hvh6, hs, hkp, heq⟩ := hrel
                      have HSv6 := hid hs; have HKv6 := hid hkp; have HEv6 := hid heq
                      clear hs hkp heq HSx4
                      · have hno6 : ¬ u4 ≤ v6 := by omega
                        have hdec : decide ((u4 : Int) ≤ (v6 : Int)) = false := by simp; omega
                        go_wp2_with fail
                        go_quiet ((go_at_call 75; exact Calls.quiet_of_same (less_any _ _ _ _)))
                        clear hdec
                        have HSy6 := hid (HSv6.out.drewN nq)
                        have HKy6 := hid (HKv6.out.trans (kept_drewN wv6 nq))
                        obtain ⟨y6, hy⟩ : ∃ y, wv6.drewN nq = y := ⟨_, rfl⟩
                        rw [hy] at HSy6 HKy6 ⊢
                        clear hy HSv6 HKv6
                        have HV6 := hid (show Go.Sort.scanDown (fun x => !ltInt x dk[a]!) dk u4 m0 = v6 by rw [← HEv6.out, scanDown_no (fun h => by omega)])
                        have hgt : decide ((v6 : Int) < (u4 : Int)) = true := by simp; omega
                        have HP := hid (part_step HU4.out HV6.out hlu4 hvh6)
                        have c0 := HSy6.out.cell (i := v6) (by have := HZdk.out; omega)
                        have c1 := HSy6.out.cell (i := a) (by have := HZdk.out; omega)
                        have f0 := HSy6.out.free v6
                        have f1 := HSy6.out.free a
                        obtain ⟨v', c2⟩ : ∃ v', (y6.setCell ⟨g, v6, none⟩ (.int .u8 (nt dk a))).cell? ⟨g, a, none⟩ = some v' := ⟨_, (HSy6.out.put v6 (nt dk a) (by have := HZdk.out; omega)).cell (i := a) (by simp; have := HZdk.out; omega)⟩
                        go_wp2_with fail
                        go_region
                        obtain ⟨h1, h2⟩ := HSy6.out.swapd (i := v6) (j := a) (by have := HZdk.out; omega) (by have := HZdk.out; omega)
                        have HSwe6 := hid h1; have HKwe6 := hid ((HKwo.out.trans ((HKx4.out.trans HKy6.out).mono (fun _ _ h => h.elim))).trans h2)
                        have HZde6 := hid (show (swp dk v6 a).size = N by rw [size_swp]; exact HZdk.out)
                        obtain ⟨we6, ho⟩ : ∃ x, ((y6.setCell ⟨g, v6, none⟩ (.int .u8 (nt dk a))).setCell ⟨g, a, none⟩ (.int .u8 (nt dk v6))).drew = x := ⟨_, rfl⟩
                        rw [ho] at HSwe6 HKwe6 ⊢
                        clear h1 h2 c0 c1 c2 f0 f1 ho
                        go_wp2
                        go_ret2
                        have he : Go.Sort.partLoop ltInt a k0 m0 dk = (v6, dk) := by rw [HP.out, if_pos (by omega)]
                        rw [HDEF.out, ← HEo.out, he]
                        exact ⟨rfl, HSwe6.out, HKwe6.out⟩
          · have hno2 : ¬ u1 ≤ v2 := hlv2
            have hdec : decide ((u1 : Int) ≤ (v2 : Int)) = false := by simp; omega
            go_wp2_with fail
            go_quiet ((go_at_call 75; exact Calls.quiet_of_same (less_any _ _ _ _)))
            clear hdec
            have HSy2 := hid (HSv2.out.drewN nq)
            have HKy2 := hid (HKv2.out.trans (kept_drewN wv2 nq))
            obtain ⟨y2, hy⟩ : ∃ y, wv2.drewN nq = y := ⟨_, rfl⟩
            rw [hy] at HSy2 HKy2 ⊢
            clear hy HSv2 HKv2
            have HV2 := hid (show Go.Sort.scanDown (fun x => !ltInt x d1[a]!) d1 u1 q = v2 by rw [← HEv2.out, scanDown_no (fun h => by omega)])
            have hgt : decide ((v2 : Int) < (u1 : Int)) = true := by simp; omega
            have c0 := HSy2.out.cell (i := v2) (by have := HZd1.out; omega)
            have c1 := HSy2.out.cell (i := a) (by have := HZd1.out; omega)
            have f0 := HSy2.out.free v2
            have f1 := HSy2.out.free a
            obtain ⟨v', c2⟩ : ∃ v', (y2.setCell ⟨g, v2, none⟩ (.int .u8 (nt d1 a))).cell? ⟨g, a, none⟩ = some v' := ⟨_, (HSy2.out.put v2 (nt d1 a) (by have := HZd1.out; omega)).cell (i := a) (by simp; have := HZd1.out; omega)⟩
            go_wp2_with fail
            go_region
            obtain ⟨h1, h2⟩ := HSy2.out.swapd (i := v2) (j := a) (by have := HZd1.out; omega) (by have := HZd1.out; omega)
            have HSwe2 := hid h1; have HKwe2 := hid ((HKw1.out.trans ((HKx1.out.trans HKy2.out).mono (fun _ _ h => h.elim))).trans h2)
            have HZde2 := hid (show (swp d1 v2 a).size = N by rw [size_swp]; exact HZd1.out)
            obtain ⟨we2, ho⟩ : ∃ x, ((y2.setCell ⟨g, v2, none⟩ (.int .u8 (nt d1 a))).setCell ⟨g, a, none⟩ (.int .u8 (nt d1 v2))).drew = x := ⟨_, rfl⟩
            rw [ho] at HSwe2 HKwe2 ⊢
            clear h1 h2 c0 c1 c2 f0 f1 ho
            go_wp2
            go_ret2
            rw [part_def rfl HD1.out HQ.out HU1.out HV2.out, if_pos (by omega)]
            exact ⟨rfl, HSwe2.out, HKwe2.out⟩
    · have hdec : decide ((u1 : Int) ≤ (q : Int)) = false := by simp; omega
      go_wp2_with fail
      go_quiet ((go_at_call 75; exact Calls.quiet_of_same (less_any _ _ _ _)))
      clear hdec
      have HSx1 := hid (HSu1.out.drewN nq)
      have HKx1 := hid (HKu1.out.trans (kept_drewN wu1 nq))
      obtain ⟨x1, hx⟩ : ∃ x, wu1.drewN nq = x := ⟨_, rfl⟩
      rw [hx] at HSx1 HKx1 ⊢
      clear hx HSu1 HKu1
      have HU1 := hid (show Go.Sort.scanUp (fun x => ltInt x d1[a]!) d1 q (a + 1) = u1 by rw [← HEu1.out, scanUp_no (fun h => by omega)])
      go_wp2_with fail
      go_loopw [11] (fun j wr => ∃ v : Nat, j = .int .i64 v ∧ u1 ≤ v + 1 ∧ v ≤ q ∧ Srt wr g d1 tl ∧ Kept (fun _ => False) x1 wr ∧ Go.Sort.scanDown (fun x => !ltInt x d1[a]!) d1 u1 v = Go.Sort.scanDown (fun x => !ltInt x d1[a]!) d1 u1 q) (fun j _ => (intOf j).toNat)
      case atStart => exact ⟨q, rfl, by omega, Nat.le_refl _, HSx1.out, Kept.refl _ _, rfl⟩
      case round =>
        rename World => wv3
        obtain ⟨v3, rfl, huv3, hvh3, hs, hkp, heq⟩ := hrel
        have HSv3 := hid hs; have HKv3 := hid hkp; have HEv3 := hid heq
        clear hs hkp heq HSx1
        · have hno3 : ¬ u1 ≤ v3 := by omega
          have hdec : decide ((u1 : Int) ≤ (v3 : Int)) = false := by simp; omega
          go_wp2_with fail
          go_quiet ((go_at_call 75; exact Calls.quiet_of_same (less_any _ _ _ _)))
          clear hdec
          have HSy3 := hid (HSv3.out.drewN nq)
          have HKy3 := hid (HKv3.out.trans (kept_drewN wv3 nq))
          obtain ⟨y3, hy⟩ : ∃ y, wv3.drewN nq = y := ⟨_, rfl⟩
          rw [hy] at HSy3 HKy3 ⊢
          clear hy HSv3 HKv3
          have HV3 := hid (show Go.Sort.scanDown (fun x => !ltInt x d1[a]!) d1 u1 q = v3 by rw [← HEv3.out, scanDown_no (fun h => by omega)])
          have hgt : decide ((v3 : Int) < (u1 : Int)) = true := by simp; omega
          have c0 := HSy3.out.cell (i := v3) (by have := HZd1.out; omega)
          have c1 := HSy3.out.cell (i := a) (by have := HZd1.out; omega)
          have f0 := HSy3.out.free v3
          have f1 := HSy3.out.free a
          obtain ⟨v', c2⟩ : ∃ v', (y3.setCell ⟨g, v3, none⟩ (.int .u8 (nt d1 a))).cell? ⟨g, a, none⟩ = some v' := ⟨_, (HSy3.out.put v3 (nt d1 a) (by have := HZd1.out; omega)).cell (i := a) (by simp; have := HZd1.out; omega)⟩
          go_wp2_with fail
          go_region
          obtain ⟨h1, h2⟩ := HSy3.out.swapd (i := v3) (j := a) (by have := HZd1.out; omega) (by have := HZd1.out; omega)
          have HSwe3 := hid h1; have HKwe3 := hid ((HKw1.out.trans ((HKx1.out.trans HKy3.out).mono (fun _ _ h => h.elim))).trans h2)
          have HZde3 := hid (show (swp d1 v3 a).size = N by rw [size_swp]; exact HZd1.out)
          obtain ⟨we3, ho⟩ : ∃ x, ((y3.setCell ⟨g, v3, none⟩ (.int .u8 (nt d1 a))).setCell ⟨g, a, none⟩ (.int .u8 (nt d1 v3))).drew = x := ⟨_, rfl⟩
          rw [ho] at HSwe3 HKwe3 ⊢
          clear h1 h2 c0 c1 c2 f0 f1 ho
          go_wp2
          go_ret2
          rw [part_def rfl HD1.out HQ.out HU1.out HV3.out, if_pos (by omega)]
          exact ⟨rfl, HSwe3.out, HKwe3.out⟩
end Go.Proofs.Ytaobioleodfafaa
