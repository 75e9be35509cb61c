/- The document's DocOwner, DocCheck, DocNew; New of a wrong number. -/
import Derived.Test.YtekapdankpamiaaL
namespace Go.Proofs.Ytekapdankpamiaa
open Go.RowKit
set_option maxHeartbeats 400000 in
theorem docowner_any {w : World} {yb : Nat} {n : Int} {g : Int → Option (Int × Int)} (h : RD w yb n g) (hd : Dom g) (hn : 0 < n ∧ n ≤ 4) (v : Int) (hv : 0 ≤ v ∧ v ≤ 4294967295) :
    Calls Try.prog 20 #[.pointer (some ⟨yb, 0, none⟩), .int .u32 v] w fun e w' => e = .returned (.tuple (if num v = true then #[ent v (own n g v), .int .i64 0] else #[ent 0 (0, 0), .int .i64 1])) ∧ Kept (fun _ => False) w w' := by
  by_cases h1 : v < 1
  · have HT : num v = false := by unfold num; simp; omega
    clear h
    go_enter Try.func20, Try.ntmps20
    go_wp2
    all_goals (go_returns; exact ⟨by simp [HT, ent], Kept.of_below (by go_grown) _⟩)
  by_cases h2 : 40 < v
  · have HT : num v = false := by unfold num; simp; omega
    clear h
    go_enter Try.func20, Try.ntmps20
    go_wp2
    all_goals (go_returns; exact ⟨by simp [HT, ent], Kept.of_below (by go_grown) _⟩)
  have HT : num v = true := by unfold num; simp; omega
  have k0 := (Kept.refl (fun _ => False) w).alloc (.cells #[.int .u32 0, .int .u8 0, .int .u32 0] 33)
  have rr := row_new w (.cells #[.int .u32 0, .int .u8 0, .int .u32 0] 33)
  have HR := hid (h.same k0)
  obtain ⟨o, ep, hop⟩ : ∃ o ep, own n g v = (o, ep) := ⟨_, _, rfl⟩
  have HOP := hid hop
  clear h hop
  go_enter Try.func20, Try.ntmps20
  obtain ⟨w1, hw1⟩ : ∃ w1, w.alloc (.cells #[.int .u32 0, .int .u8 0, .int .u32 0] 33) = w1 := ⟨_, rfl⟩
  rw [hw1] at k0 rr HR
  obtain ⟨rb, hrb⟩ : ∃ rb, w.heap.size = rb := ⟨_, rfl⟩
  rw [hrb] at rr
  have RR := hid rr; have K0 := hid k0; have HB := hid (show w.heap.size ≤ rb by omega)
  go_wp2_with fail
  clear rr k0 hw1 hrb
  refine (rowner_any HR.out hd hn v hv).mono ?_
  rintro e w2 ⟨rfl, hk⟩
  rw [HOP.out]
  have rr := (hk.block _ (row_lt RR.out) id).trans RR.out
  have KX := hid (K0.out.trans hk)
  obtain ⟨f0, f1, f2⟩ := three_free rr
  obtain ⟨r0, r1, r2⟩ := three_cells rr
  have RX := hid rr
  clear hk rr
  go_wp2
  obtain ⟨wZ, hZ, h1, h2⟩ := three_set RX.out (.int .u32 v) (.int .u8 o) (.int .u32 ep)
  rw [hZ]
  obtain ⟨y0, y1, y2⟩ := three_cells h1
  have KZ := hid (KX.out.trans' h2 (fun i e => .inr (by have := HB.out; omega)))
  clear hZ h1 h2
  refine bodyPost_ret (v := .tuple #[.agg #[.int .u32 v, .int .u8 o, .int .u32 ep], .int .i64 0]) (by simp [results, Try.results20, go_sem, y0, y1, y2]) rfl ?_
  exact ⟨by simp [HT, HOP.out, ent], KZ.out⟩
set_option maxHeartbeats 1000000 in
theorem doccheck_any {w : World} {yb : Nat} {n : Int} {g : Int → Option (Int × Int)} (h : RD w yb n g) (hd : Dom g) (hn : 0 < n ∧ n ≤ 4) (v k ep : Int) (hv : 0 ≤ v ∧ v ≤ 4294967295) (hk : 0 ≤ k ∧ k ≤ 255) :
    Calls Try.prog 19 #[.pointer (some ⟨yb, 0, none⟩), .int .u32 v, .int .u8 k, .int .u32 ep] w fun e w' => e = .returned (.int .i64 (chk n g v k ep)) ∧ Kept (fun _ => False) w w' := by
  have HR := hid h
  clear h
  by_cases ht : thr n v k = 0
  · obtain ⟨o, e0, ho⟩ : ∃ o e, own n g v = (o, e) := ⟨_, _, rfl⟩
    have HC := hid (show chk n g v k ep = if o ≠ k then 6 else if e0 ≠ ep then 15 else 0 by unfold chk; rw [if_neg (by simpa using ht), ho])
    have HT := hid ht; have HO := hid ho
    clear ht ho
    go_enter Try.func19, Try.ntmps19
    go_wp2_with fail
    refine (rthere_any HR.out v k hv hn hk).mono ?_; rintro e w' ⟨rfl, rfl⟩
    rw [HT.out]
    go_wp2_with fail
    refine (rowner_any HR.out hd hn v hv).mono ?_
    rintro e w2 ⟨rfl, hk⟩
    rw [HO.out]
    have K := hid hk
    clear hk
    obtain ⟨b1, hb1⟩ : ∃ b, (o != k) = b := ⟨_, rfl⟩
    obtain ⟨b2, hb2⟩ : ∃ b, (e0 != ep) = b := ⟨_, rfl⟩
    cases b1 with
    | true =>
      have HX := hid (show chk n g v k ep = 6 by rw [HC.out, if_pos (by simpa using hb1)])
      go_wp2
      go_ret
      exact ⟨ret_int HX.out.symm, K.out.alloc _⟩
    | false =>
      cases b2 with
      | true =>
        have HX := hid (show chk n g v k ep = 15 by rw [HC.out, if_neg (by simpa using hb1), if_pos (by simpa using hb2)])
        go_wp2
        go_ret
        exact ⟨ret_int HX.out.symm, K.out.alloc _⟩
      | false =>
        have HX := hid (show chk n g v k ep = 0 by rw [HC.out, if_neg (by simpa using hb1), if_neg (by simpa using hb2)])
        go_wp2
        go_ret
        exact ⟨ret_int HX.out.symm, K.out.alloc _⟩
  · have ht' : (thr n v k != 0) = true := by simpa using ht
    have HX := hid (show chk n g v k ep = thr n v k by unfold chk; rw [if_pos ht])
    clear ht
    go_enter Try.func19, Try.ntmps19
    go_wp2_with fail
    refine (rthere_any HR.out v k hv hn hk).mono ?_; rintro e w' ⟨rfl, rfl⟩
    go_wp2
    go_ret
    exact ⟨ret_int HX.out.symm, Kept.refl _ _⟩
set_option maxHeartbeats 400000 in
theorem docnew_ok (n : Int) (w : World) (hn : 0 < n ∧ n ≤ 4) :
    Calls Try.prog 12 #[.int .i64 n] w fun e w' => ∃ yb, e = .returned (.tuple #[.pointer (some ⟨yb, 0, none⟩), .int .i64 0]) ∧ RD w' yb n (fun _ => none) ∧ Kept (fun _ => False) w w' ∧ w.heap.size ≤ yb := by
  obtain ⟨n0, n4⟩ := hn
  go_enter Try.func12, Try.ntmps12
  go_wp2
  go_returns
  refine ⟨w.heap.size, rfl, ⟨.slice none 0 0, row_new w _, ?_⟩, (Kept.refl _ _).alloc _, Nat.le_refl _⟩
  have e : doms (fun _ => none) = [] := by simp [doms]
  rw [e]
  exact Own.nil _ _ _
set_option maxHeartbeats 400000 in
theorem docnew_bad (n : Int) (w : World) (hn : ¬ (0 < n ∧ n ≤ 4)) :
    Calls Try.prog 12 #[.int .i64 n] w fun e w' => e = .returned (.tuple #[.pointer none, .int .i64 1]) ∧ w = w' := by
  by_cases h1 : n < 1
  · clear hn
    go_enter Try.func12, Try.ntmps12
    go_wp2
    go_returns
    exact ⟨rfl, rfl⟩
  · have h2 : 4 < n := by omega
    clear hn
    go_enter Try.func12, Try.ntmps12
    go_wp2
    go_returns
    exact ⟨rfl, rfl⟩
end Go.Proofs.Ytekapdankpamiaa
