/- Write. -/
import Derived.Test.YtnicaiofjficnaaDoorC
import Derived.Test.YtnicaiofjficnaaDoorH
namespace Go.Proofs.YtnicaiofjficnaaDoor
open Go.RowKit Go.Shelf
abbrev Tab (w : World) : Prop := Lib.TabIs Tryd.prog w "internal/strconv.uint64pow10" .u64 Lib.pow10Tab
theorem tab_global : Tryd.prog.globalNamed "internal/strconv.uint64pow10" = some 1 := by kernel_rfl
theorem Tab.kept {w w' : World} (h : Tab w) (k : Kept (fun _ => False) w w') : Tab w' := by
  unfold Tab Lib.TabIs World.var? at h ⊢
  rw [tab_global] at h ⊢
  simp only [Option.bind_some] at h ⊢
  cases hb : w.heap[1]? with
  | none => rw [hb] at h; cases h
  | some o =>
    rw [k.block _ (Array.getElem?_eq_some_iff.1 hb).1 id]
    exact h
theorem kept_grow {F : Nat → Prop} (w : World) (q : Nat) (os : Array Obj) : Kept F w (Go.Sort.grow (w.drewN q) os) := by
  refine ⟨rfl, rfl, rfl, ?_, fun i hi _ => ?_⟩
  · simp [Go.Sort.grow, World.drewN]
  · show (w.heap ++ os)[i]? = w.heap[i]?
    exact Array.getElem?_append_left hi
theorem fmt_any (n : Int) (h0 : -9223372036854775808 ≤ n) (h1 : n ≤ 9223372036854775807) (w : World) (ht : Tab w) : Calls Tryd.prog 23 #[.int .i64 n, .int .i64 10] w fun e w' => e = .returned (.string ⟨(Lib.itoa n).toArray⟩) ∧ Kept (fun _ => False) w w' :=
  (show Calls Tryd.prog 23 #[.int .i64 n, .int .i64 10] w _ from Any.strconv_FormatInt_10 Tryd.lays173 n h0 h1 w ht).mono fun e w' ⟨h, k, os, e2⟩ => ⟨h, by rw [e2]; exact kept_grow _ _ _⟩
def wr1 (v : Vv) : ByteArray := if v.1 = 1 then ⟨(Lib.itoa v.2.1).toArray⟩ else if v.1 = 2 then (⟨#[39]⟩ ++ v.2.2) ++ ⟨#[39]⟩ else ⟨#[110, 111, 110, 101]⟩
def wrS (v : Vv) : ByteArray := if formB v then wr1 v else ⟨#[]⟩
theorem retW {v : Vv} {x : ByteArray} {c : Int} (h1 : x = wrS v) (h2 : c = chk (formB v)) : Ending.returned (.tuple #[.string x, .int .i64 c]) = .returned (.tuple #[.string (wrS v), .int .i64 (chk (formB v))]) := by rw [h1, h2]
set_option maxHeartbeats 2000000 in
set_option maxRecDepth 100000 in
theorem write_any (v : Vv) (hs : v.2.2.size ≤ 4611686018427387904) (h0 : -9223372036854775808 ≤ v.2.1) (h1 : v.2.1 ≤ 9223372036854775807) (w : World) (ht : Tab w) : Calls Tryd.prog 14 #[vv v] w fun e w' => e = .returned (.tuple #[.string (wrS v), .int .i64 (chk (formB v))]) ∧ Kept (fun _ => False) w w' := by
  obtain ⟨fv, hfv⟩ : ∃ f, formB v = f := ⟨_, rfl⟩
  have HFV := hid hfv
  clear hfv
  have HS := hid hs
  obtain ⟨k, n, s⟩ := v
  have HW := hid (show wrS (k, n, s) = if fv then wr1 (k, n, s) else ⟨#[]⟩ by unfold wrS; rw [HFV.out])
  simp only at hs h0 h1
  unfold vv
  simp only
  have hr := row_new w (.cells #[.int .u8 k, .int .i64 n, .string s] 23)
  have hk := (Kept.refl (fun _ => False) w).alloc (.cells #[.int .u8 k, .int .i64 n, .string s] 23)
  obtain ⟨w1, hw1⟩ : ∃ w1, w.alloc (.cells #[.int .u8 k, .int .i64 n, .string s] 23) = w1 := ⟨_, rfl⟩
  obtain ⟨vb, hvb⟩ : ∃ vb, w.heap.size = vb := ⟨_, rfl⟩
  rw [hw1] at hr hk
  rw [hvb] at hr
  obtain ⟨c0, c1, c2⟩ := encV_cells (v := (k, n, s)) hr
  simp only at c0 c1 c2
  have K := hid hk; have R := hid hr
  clear hr hk hs
  go_enter Tryd.func14, Tryd.ntmps14
  go_wp2_with fail
  refine (check_any (k, n, s) HS.out _).mono ?_; rintro e w2 ⟨rfl, hk⟩
  rw [HFV.out]
  have K2 := hid (K.out.trans hk); have R2 := hid ((hk.block _ (row_lt R.out) id).trans R.out)
  clear hk c0 c1 c2 hw1 hvb
  obtain ⟨c0, c1, c2⟩ := encV_cells (v := (k, n, s)) R2.out
  simp only at c0 c1 c2
  have htt := chk_ne true
  have hff := chk_ne false
  simp only [Bool.not_true, Bool.not_false] at htt hff
  cases fv with
  | false =>
    go_wp2_with fail
    go_returns
    exact ⟨retW (by rw [HW.out]; rfl) (by rw [HFV.out]), K2.out⟩
  | true =>
    by_cases hk1 : k = 1
    · subst hk1
      go_wp2_with fail
      refine (fmt_any n h0 h1 _ (ht.kept K2.out)).mono ?_; rintro e w3 ⟨rfl, hk⟩
      have K3 := hid (K2.out.trans hk)
      clear hk
      go_wp2_with fail
      go_returns
      exact ⟨retW (by rw [HW.out]; rfl) (by rw [HFV.out]; rfl), K3.out⟩
    · by_cases hk2 : k = 2
      · subst hk2
        have f1 : ¬ 9223372036854775807 < 1 + s.size := by have := HS.out; omega
        have f2 : ¬ 9223372036854775807 < 1 + s.size + 1 := by have := HS.out; omega
        go_wp2_with fail
        go_returns
        exact ⟨retW (by rw [HW.out]; rfl) (by rw [HFV.out]; rfl), K2.out⟩
      · have HX := hid (show wr1 (k, n, s) = ⟨#[110, 111, 110, 101]⟩ by simp [wr1, hk1, hk2])
        have e1 : (k == 1) = false := by simpa using hk1
        have e2 : (k == 2) = false := by simpa using hk2
        clear hk1 hk2
        go_wp2_with fail
        go_returns
        exact ⟨retW (by rw [HW.out, HX.out]; rfl) (by rw [HFV.out]; rfl), K2.out⟩
end Go.Proofs.YtnicaiofjficnaaDoor
