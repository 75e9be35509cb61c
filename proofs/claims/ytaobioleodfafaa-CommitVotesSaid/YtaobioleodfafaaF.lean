/- Vote, Commit, Runs. -/
import Derived.Test.YtaobioleodfafaaE
namespace Go.Proofs.Ytaobioleodfafaa
open Go.RowKit
section
variable {B T : Nat} {w : World} {rb mp : Nat} {ns : List Int} {pb : Int → Nat} {Y : Int → Bool} {st : Int}
theorem RunAt.ne (h : RunAt B T w rb mp ns pb Y st) : mp ≠ rb ∧ ∀ v ∈ ns, pb v ≠ rb ∧ mp ≠ pb v := by
  obtain ⟨es, cl, hm, _⟩ := h.map
  refine ⟨fun e => ?_, fun v hv => ⟨fun e => ?_, fun e => ?_⟩⟩
  · have := h.obj; rw [e] at hm; rw [hm] at this; simp at this
  · have := h.part v hv; rw [e, h.obj] at this; simp at this
  · have := h.part v hv; rw [← e, hm] at this; simp at this
theorem RunAt.setState (h : RunAt B T w rb mp ns pb Y st) (s : Int) : RunAt B T (w.setCell ⟨rb, 1, none⟩ (.int .i64 s)) rb mp ns pb Y s ∧ Kept (fun i => i = rb) w (w.setCell ⟨rb, 1, none⟩ (.int .i64 s)) := by
  have k : Kept (fun i => i = rb) w (w.setCell ⟨rb, 1, none⟩ (.int .i64 s)) := (Kept.refl (fun i => i = rb) w).setCell (p := ⟨rb, 1, none⟩) (.inl rfl) _
  have hn := h.ne
  exact ⟨⟨row_set h.obj 1 _, h.map.of_block (k.block _ h.map.lt hn.1), fun v hv => (k.block _ (row_lt (h.part v hv)) (hn.2 v hv).1).trans (h.part v hv), h.inj, h.inn⟩, k⟩
theorem RunAt.setYes (h : RunAt B T w rb mp ns pb Y st) {x : Int} (hx : x ∈ ns) : RunAt B T (w.setCell ⟨pb x, 0, none⟩ (.bool true)) rb mp ns pb (fun v => if v = x then true else Y v) st ∧ Kept (fun i => i = pb x) w (w.setCell ⟨pb x, 0, none⟩ (.bool true)) := by
  have k : Kept (fun i => i = pb x) w (w.setCell ⟨pb x, 0, none⟩ (.bool true)) := (Kept.refl (fun i => i = pb x) w).setCell (p := ⟨pb x, 0, none⟩) (.inl rfl) _
  have hn := h.ne
  refine ⟨⟨(k.block _ (row_lt h.obj) (fun e => (hn.2 x hx).1 e.symm)).trans h.obj, h.map.of_block (k.block _ h.map.lt (hn.2 x hx).2), fun v hv => ?_, h.inj, h.inn⟩, k⟩
  by_cases hvx : v = x
  · subst hvx
    rw [if_pos rfl]
    exact row_set (h.part v hv) 0 _
  · rw [if_neg hvx]
    exact (k.block _ (row_lt (h.part v hv)) (fun e => hvx (h.inj v hv x hx e))).trans (h.part v hv)
end
def setY (Y : Int → Bool) (x : Int) : Int → Bool := fun v => if v = x then true else Y v
/-- what a vote comes to: a number, an error; the state and the votes behind it -/
def vt (ns : List Int) (Y : Int → Bool) (st x : Int) (yes : Bool) : Int × Int × Int × (Int → Bool) :=
  if st = 1 then (if yes then (if ns.all (setY Y x) then (3, 0, 1, setY Y x) else (1, 0, 1, setY Y x)) else (4, 0, 4, Y))
  else if yes && Y x then (st, 0, st, Y) else (0, 9, st, Y)
set_option maxRecDepth 100000 in
set_option maxHeartbeats 1000000 in
theorem vote_any {B T B' T' : Nat} {w : World} {bb m1 rb mp : Nat} {ns : List Int} {pb : Int → Nat} {Y : Int → Bool} {st : Int} {t1 t2 t3 : Int} (hb : BookAt B T w bb m1 [((t1, t2, t3), ptr rb)]) (hr : RunAt B' T' w rb mp ns pb Y st) (hT : T ≤ B') {x : Int} (hx : x ∈ ns) (yes : Bool) :
    Calls Try.prog 10 #[.pointer (some ⟨bb, 0, none⟩), .agg #[.int .u8 t1, .int .u32 t2, .int .u32 t3], .int .u8 x, .bool yes] w fun e w' => e = .returned (.tuple #[.int .i64 (vt ns Y st x yes).1, .int .i64 (vt ns Y st x yes).2.1]) ∧
      BookAt B T w' bb m1 [((t1, t2, t3), ptr rb)] ∧ RunAt B' T' w' rb mp ns pb (vt ns Y st x yes).2.2.2 (vt ns Y st x yes).2.2.1 ∧ Kept (In B' T') w w' := by
  have hk1 := (Kept.refl (fun _ => False) w).alloc (.cells #[.int .u8 t1, .int .u32 t2, .int .u32 t3] 28)
  have hkb := row_new w (.cells #[.int .u8 t1, .int .u32 t2, .int .u32 t3] 28)
  obtain ⟨w1, hw1⟩ : ∃ w1, w.alloc (.cells #[.int .u8 t1, .int .u32 t2, .int .u32 t3] 28) = w1 := ⟨_, rfl⟩
  obtain ⟨kb, hkb'⟩ : ∃ kb, w.heap.size = kb := ⟨_, rfl⟩
  rw [hw1] at hk1 hkb
  rw [hkb'] at hkb
  have HB := hid (hb.same hk1); have HR := hid (hr.same hk1); have K1 := hid hk1
  obtain ⟨d0, d1, d2⟩ := cells3 hkb
  clear hb hr hkb hk1
  go_enter Try.func10, Try.ntmps10
  go_wp2_with fail
  try rw [hw1]
  clear hw1 hkb' d0 d1 d2
  refine (at_any HB.out HR.out hx).mono ?_
  rintro e w2 ⟨rfl, hk2⟩
  have HB2 := hid (HB.out.same hk2); have HR2 := hid (HR.out.same hk2); have K2 := hid (K1.out.trans hk2)
  obtain ⟨r0, r1, rf⟩ := HR2.out.facts
  obtain ⟨p0, p1, pf⟩ := HR2.out.pcell hx
  have HX := hid hx; have HT := hid hT
  have hrb := HR2.out.inn.1
  have hpx := HR2.out.inn.2.2 x hx
  have HRB := hid hrb; have HPX := hid hpx
  clear hk2 HB HR K1 hx hT r0 hrb hpx
  by_cases hs : st = 1
  · have HS := hid hs
    have hs1 : (st != 1) = false := by simpa using hs
    cases yes with
    | false =>
      have HV := hid (show vt ns Y st x false = (4, 0, 4, Y) by simp [vt, HS.out])
      obtain ⟨hr3, hk3⟩ := HR2.out.setState 4
      have q1 := hr3.facts.2.1
      have HR3 := hid hr3; have K3 := hid hk3
      clear hs hr3 hk3
      go_wp2
      go_returns
      rw [HV.out]
      refine ⟨rfl, HB2.out.kept K3.out (fun i hi e => ?_), HR3.out, (K2.out.mono (fun _ _ h => h.elim) : Kept (In B' T') w w2).trans' K3.out (fun i e => .inl (by rw [e]; exact HRB.out))⟩
      have h1 := HRB.out; have h2 := HT.out
      unfold In at hi h1
      omega
    | true =>
      obtain ⟨hr3, hk3⟩ := HR2.out.setYes HX.out
      have HR3 := hid hr3; have K3 := hid hk3
      have HS3 := hid (show (fun v => if v = x then true else Y v) = setY Y x from rfl)
      rw [HS3.out] at HR3
      obtain ⟨al, hal⟩ : ∃ a, ns.all (setY Y x) = a := ⟨_, rfl⟩
      have HV := hid (show vt ns Y st x true = if al then (3, 0, 1, setY Y x) else (1, 0, 1, setY Y x) by simp [vt, HS.out, hal])
      have HAL := hid hal
      clear hs hr3 hk3 hal
      go_wp2_with fail
      refine (voted_any HR3.out).mono ?_
      rintro e w4 ⟨rfl, hk4⟩
      rw [HAL.out]
      have HR4 := hid (HR3.out.same hk4)
      have K4 := hid (K3.out.trans' hk4 (fun _ h => h.elim))
      have r4 := HR4.out.facts.2.1
      clear hk4
      have fin : BookAt B T w4 bb m1 [((t1, t2, t3), ptr rb)] ∧ Kept (In B' T') w w4 := ⟨HB2.out.kept K4.out (fun i hi e => by
        have h1 := HPX.out; have h2 := HT.out
        unfold In at hi h1
        omega), (K2.out.mono (fun _ _ h => h.elim) : Kept (In B' T') w w2).trans' K4.out (fun i e => .inl (by rw [e]; exact HPX.out))⟩
      have FIN := hid fin
      clear fin
      cases al with
      | true =>
        go_wp2
        go_returns
        rw [HV.out]
        exact ⟨rfl, FIN.out.1, by rw [HS.out] at HR4; exact HR4.out, FIN.out.2⟩
      | false =>
        rw [HS.out] at r4
        go_wp2
        go_returns
        rw [HV.out]
        exact ⟨rfl, FIN.out.1, by rw [HS.out] at HR4; exact HR4.out, FIN.out.2⟩
  · have hs1 : (st != 1) = true := by simpa using hs
    have FIN := hid (⟨HB2.out, HR2.out, K2.out.mono (fun _ _ h => h.elim)⟩ : BookAt B T w2 bb m1 [((t1, t2, t3), ptr rb)] ∧ RunAt B' T' w2 rb mp ns pb Y st ∧ Kept (In B' T') w w2)
    obtain ⟨yx, hyx⟩ : ∃ y, Y x = y := ⟨_, rfl⟩
    rw [hyx] at p0
    cases yes with
    | false =>
      have HV := hid (show vt ns Y st x false = (0, 9, st, Y) by simp [vt, hs])
      clear hs
      go_wp2
      go_returns
      rw [HV.out]
      exact ⟨rfl, FIN.out⟩
    | true =>
      cases yx with
      | false =>
        have HV := hid (show vt ns Y st x true = (0, 9, st, Y) by simp [vt, hs, hyx])
        clear hs
        go_wp2
        go_returns
        rw [HV.out]
        exact ⟨rfl, FIN.out⟩
      | true =>
        have HV := hid (show vt ns Y st x true = (st, 0, st, Y) by simp [vt, hs, hyx])
        clear hs
        go_wp2
        go_returns
        rw [HV.out]
        exact ⟨rfl, FIN.out⟩
def cm (ns : List Int) (Y : Int → Bool) (st : Int) : Int × Int := if st = 4 then (9, st) else if ns.all Y then (0, 3) else (9, st)
set_option maxRecDepth 100000 in
set_option maxHeartbeats 1000000 in
theorem commit_any {B T B' T' : Nat} {w : World} {bb m1 rb mp : Nat} {ns : List Int} {pb : Int → Nat} {Y : Int → Bool} {st : Int} {t1 t2 t3 : Int} (hb : BookAt B T w bb m1 [((t1, t2, t3), ptr rb)]) (hr : RunAt B' T' w rb mp ns pb Y st) (hT : T ≤ B') :
    Calls Try.prog 11 #[.pointer (some ⟨bb, 0, none⟩), .agg #[.int .u8 t1, .int .u32 t2, .int .u32 t3]] w fun e w' => e = .returned (.int .i64 (cm ns Y st).1) ∧
      BookAt B T w' bb m1 [((t1, t2, t3), ptr rb)] ∧ RunAt B' T' w' rb mp ns pb Y (cm ns Y st).2 ∧ Kept (In B' T') w w' := by
  have hk1 := (Kept.refl (fun _ => False) w).alloc (.cells #[.int .u8 t1, .int .u32 t2, .int .u32 t3] 28)
  have hkb := row_new w (.cells #[.int .u8 t1, .int .u32 t2, .int .u32 t3] 28)
  obtain ⟨w1, hw1⟩ : ∃ w1, w.alloc (.cells #[.int .u8 t1, .int .u32 t2, .int .u32 t3] 28) = w1 := ⟨_, rfl⟩
  obtain ⟨kb, hkb'⟩ : ∃ kb, w.heap.size = kb := ⟨_, rfl⟩
  rw [hw1] at hk1 hkb
  rw [hkb'] at hkb
  have HB := hid (hb.same hk1); have HR := hid (hr.same hk1); have K1 := hid hk1; have HK := hid hkb
  obtain ⟨c0, l0⟩ := HB.out.facts
  obtain ⟨d0, d1, d2⟩ := cells3 HK.out
  have HT := hid hT
  clear hb hr hkb hk1 hT
  go_enter Try.func11, Try.ntmps11
  go_wp2_with fail
  try rw [hw1, hkb']
  clear hw1 hkb'
  go_quiet (fail)
  have KQ := kept_drewN (F := fun _ => False) w1 nq
  have HB2 := hid (HB.out.same KQ); have HR2 := hid (HR.out.same KQ); have HK2 := hid ((KQ.block _ (row_lt HK.out) id).trans HK.out); have K2 := hid (K1.out.trans KQ)
  obtain ⟨w2, hw2⟩ : ∃ w2, w1.drewN nq = w2 := ⟨_, rfl⟩
  rw [hw2] at HB2 HR2 HK2 K2 ⊢
  obtain ⟨c0, l0⟩ := HB2.out.facts
  obtain ⟨d0, d1, d2⟩ := cells3 HK2.out
  clear HB HR HK K1 KQ hw2
  go_wp2_with fail
  go_quiet (fail)
  have KQ := kept_drewN (F := fun _ => False) w2 nq
  have HB3 := hid (HB2.out.same KQ); have HR3 := hid (HR2.out.same KQ); have K3 := hid (K2.out.trans KQ)
  obtain ⟨w3, hw3⟩ : ∃ w3, w2.drewN nq = w3 := ⟨_, rfl⟩
  rw [hw3] at HB3 HR3 K3 ⊢
  obtain ⟨r0, r1, rf⟩ := HR3.out.facts
  clear HB2 HR2 HK2 K2 KQ hw3 c0 l0 d0 d1 d2 r0
  by_cases h4 : st = 4
  · have HV := hid (show cm ns Y st = (9, st) by simp [cm, h4])
    have h4' : (st == 4) = true := by simpa using h4
    clear h4
    go_wp2
    go_ret
    rw [HV.out]
    exact ⟨rfl, HB3.out, HR3.out, K3.out.mono (fun _ _ h => h.elim)⟩
  · have h4' : (st == 4) = false := by simpa using h4
    obtain ⟨al, hal⟩ : ∃ a, ns.all Y = a := ⟨_, rfl⟩
    have HV := hid (show cm ns Y st = if al then (0, 3) else (9, st) by simp [cm, h4, hal])
    have HAL := hid hal
    clear h4 hal
    go_wp2_with fail
    refine (voted_any HR3.out).mono ?_
    rintro e w4 ⟨rfl, hk4⟩
    rw [HAL.out]
    have HR4 := hid (HR3.out.same hk4); have HB4 := hid (HB3.out.same hk4); have K4 := hid (K3.out.trans hk4)
    obtain ⟨_, r1, rf⟩ := HR4.out.facts
    clear hk4
    cases al with
    | true =>
      obtain ⟨hr5, hk5⟩ := HR4.out.setState 3
      have HR5 := hid hr5; have K5 := hid hk5
      have HRB := hid HR4.out.inn.1
      clear hr5 hk5
      go_wp2
      go_ret
      rw [HV.out]
      refine ⟨rfl, HB4.out.kept K5.out (fun i hi e => ?_), HR5.out, (K4.out.mono (fun _ _ h => h.elim) : Kept (In B' T') w w4).trans' K5.out (fun i e => .inl (by rw [e]; exact HRB.out))⟩
      have h1 := HRB.out; have h2 := HT.out
      unfold In at hi h1
      omega
    | false =>
      go_wp2
      go_ret
      rw [HV.out]
      exact ⟨rfl, HB4.out, HR4.out, K4.out.mono (fun _ _ h => h.elim)⟩
set_option maxRecDepth 100000 in
set_option maxHeartbeats 1000000 in
theorem runs_any {B T B' T' : Nat} {w : World} {bb m1 rb mp : Nat} {ns : List Int} {pb : Int → Nat} {Y : Int → Bool} {st : Int} {t1 t2 t3 : Int} (hb : BookAt B T w bb m1 [((t1, t2, t3), ptr rb)]) (hr : RunAt B' T' w rb mp ns pb Y st) :
    Calls Try.prog 13 #[.pointer (some ⟨bb, 0, none⟩), .agg #[.int .u8 t1, .int .u32 t2, .int .u32 t3]] w fun e w' => e = .returned (.int .i64 st) ∧ Kept (fun _ => False) w w' := by
  have hk1 := (Kept.refl (fun _ => False) w).alloc (.cells #[.int .u8 t1, .int .u32 t2, .int .u32 t3] 28)
  have hkb := row_new w (.cells #[.int .u8 t1, .int .u32 t2, .int .u32 t3] 28)
  obtain ⟨w1, hw1⟩ : ∃ w1, w.alloc (.cells #[.int .u8 t1, .int .u32 t2, .int .u32 t3] 28) = w1 := ⟨_, rfl⟩
  obtain ⟨kb, hkb'⟩ : ∃ kb, w.heap.size = kb := ⟨_, rfl⟩
  rw [hw1] at hk1 hkb
  rw [hkb'] at hkb
  have HB := hid (hb.same hk1); have HR := hid (hr.same hk1); have K1 := hid hk1; have HK := hid hkb
  obtain ⟨c0, l0⟩ := HB.out.facts
  obtain ⟨d0, d1, d2⟩ := cells3 HK.out
  clear hb hr hkb hk1
  go_enter Try.func13, Try.ntmps13
  go_wp2_with fail
  try rw [hw1, hkb']
  clear hw1 hkb'
  go_quiet (fail)
  have KQ := kept_drewN (F := fun _ => False) w1 nq
  have HB2 := hid (HB.out.same KQ); have HR2 := hid (HR.out.same KQ); have HK2 := hid ((KQ.block _ (row_lt HK.out) id).trans HK.out); have K2 := hid (K1.out.trans KQ)
  obtain ⟨w2, hw2⟩ : ∃ w2, w1.drewN nq = w2 := ⟨_, rfl⟩
  rw [hw2] at HB2 HR2 HK2 K2 ⊢
  obtain ⟨c0, l0⟩ := HB2.out.facts
  obtain ⟨d0, d1, d2⟩ := cells3 HK2.out
  obtain ⟨r0, r1, rf⟩ := HR2.out.facts
  clear HB HR HK K1 KQ hw2
  go_wp2_with fail
  go_quiet (fail)
  have K3 := hid (K2.out.trans (kept_drewN (F := fun _ => False) w2 nq))
  go_wp2
  go_ret
  exact ⟨rfl, K3.out⟩
end Go.Proofs.Ytaobioleodfafaa
