/- The document's plate: DocArm, DocFlush. -/
import Derived.Test.YtnfdkpjklenllaaDa
import Derived.Test.YtnfdkpjklenllaaSto
import Derived.Test.YtnfdkpjklenllaaHold
namespace Go.Proofs.Ytnfdkpjklenllaa
open Go.RowKit
theorem infoPut : (Try.prog.info? 85).map (fun i => (i.zero, i.size, i.bytes)) = some (some (.agg #[.int .i64 0, .int .i64 0, .slice none 0 0]), 3, 40) := by kernel_rfl
theorem dcells_one {l : List DE} (h : ∀ x ∈ l, x.v.oneCell' = true) : ∀ u ∈ dcells l, u.oneCell' = true := by
  intro u hu
  simp only [dcells, List.mem_flatMap, dcell, List.mem_cons, List.not_mem_nil, or_false] at hu
  obtain ⟨x, hx, rfl | rfl | rfl⟩ := hu
  · rfl
  · rfl
  · exact h x hx
/-- what an operation leaves -/
def DPost (F H : Nat → Prop) (w : World) (b : Nat) (D' : Dpl) (w' : World) : Prop := ∃ F', DAt F' (fun g => H g ∨ F' g) w' b D' ∧ (∀ g, F' g → F g ∨ w.heap.size ≤ g) ∧ Kept F w w'
theorem DPost.of {F H : Nat → Prop} {w w' : World} {b : Nat} {D' : Dpl} (h : DAt F H w' b D') (k : Kept F w w') : DPost F H w b D' w' :=
  ⟨F, h.wide (fun g _ hg => by
    rcases hg with hg | hg
    · exact hg
    · obtain ⟨lo, lc, so, sc, h⟩ := h
      exact h.fh g hg) (fun _ h => .inr h), fun _ h => .inl h, k⟩
/-- lists become others, of what was there -/
theorem DIn.lists {F H G : Nat → Prop} {w w' : World} {b lc sc lc' sc' : Nat} {lo so lo' so' : Option Addr} {D D' : Dpl} (h : DIn F H w b lo lc so sc D) (k : Kept G w w') (hG : ∀ g, g < w.heap.size → G g → F g)
    (hr : w'.heap[b]? = some (dlRow D' lo' lc' so' sc'))
    (hol : Own w' 85 3 (.slice lo' D'.last.length lc') D'.last.length (dcells D'.last)) (hos : Own w' 85 3 (.slice so' D'.since.length sc') D'.since.length (dcells D'.since))
    (gl : ∀ g, (Value.slice lo' D'.last.length lc').ownBlock = some g → F g ∨ w.heap.size ≤ g) (gs : ∀ g, (Value.slice so' D'.since.length sc').ownBlock = some g → F g ∨ w.heap.size ≤ g)
    (ne : ∀ g, (Value.slice lo' D'.last.length lc').ownBlock = some g → (Value.slice so' D'.since.length sc').ownBlock ≠ some g)
    (el : ∀ x ∈ D'.last, DEok (fun g => H g ∨ w.heap.size ≤ g) w x) (es : ∀ x ∈ D'.since, DEok (fun g => H g ∨ w.heap.size ≤ g) w x) (e0 : ∀ x ∈ D'.since, x.pl = 0 ∧ x.bs.length = 64) : DPost F H w b D' w' := by
  have kF : Kept F w w' := ⟨k.os, k.tape, k.output, k.size, fun i hi hn => k.block i hi (fun hg => hn (hG i hi hg))⟩
  have hE : ∀ x, DEok (fun g => H g ∨ w.heap.size ≤ g) w x → DEok (fun g => H g ∨ (F g ∨ (w.heap.size ≤ g ∧ ((Value.slice lo' D'.last.length lc').ownBlock = some g ∨ (Value.slice so' D'.since.length sc').ownBlock = some g)))) w' x := fun x hx =>
    (hx.mono (H' := fun g => H g ∨ (F g ∨ (w.heap.size ≤ g ∧ ((Value.slice lo' D'.last.length lc').ownBlock = some g ∨ (Value.slice so' D'.since.length sc').ownBlock = some g)))) (fun g _ hg => by
      rcases hg with hg | hg | hg
      · exact .inl hg
      · exact .inl (h.fh g hg)
      · exact .inr hg.1)).kept kF (fun g _ hg => .inr (.inl hg))
  refine ⟨fun g => F g ∨ (w.heap.size ≤ g ∧ ((Value.slice lo' D'.last.length lc').ownBlock = some g ∨ (Value.slice so' D'.since.length sc').ownBlock = some g)), ⟨lo', lc', so', sc', hr, hol, hos, .inl h.m, fun g hg => (gl g hg).imp id (fun h => ⟨h, .inl hg⟩), fun g hg => (gs g hg).imp id (fun h => ⟨h, .inr hg⟩), ne, fun x hx => hE x (el x hx), fun x hx => hE x (es x hx), e0, fun g hg => .inr hg⟩, fun g hg => hg.imp id And.left, kF⟩
theorem DIn.one {F H : Nat → Prop} {w : World} {b lc sc : Nat} {lo so : Option Addr} {D : Dpl} (h : DIn F H w b lo lc so sc D) : (∀ u ∈ dcells D.last, u.oneCell' = true) ∧ ∀ u ∈ dcells D.since, u.oneCell' = true :=
  ⟨dcells_one fun x hx => (h.el x hx).v.one, dcells_one fun x hx => (h.es x hx).v.one⟩
set_option maxHeartbeats 1000000 in
theorem darm_neg {p : Option Addr} {w : World} (n : Int) (hn : n < 0) : Calls Try.prog 32 #[.pointer p, .int .i64 n] w fun e w' => e = .returned (.int .i64 1) ∧ w = w' := by
  go_enter Try.func32, Try.ntmps32
  go_wp2
  go_ret
  exact ⟨rfl, rfl⟩
set_option maxHeartbeats 1000000 in
theorem darm_nil {w : World} (n : Int) (hn : 0 ≤ n) : Calls Try.prog 32 #[.pointer none, .int .i64 n] w fun e w' => e = .returned (.int .i64 6) ∧ w = w' := by
  have hn' : ¬ n < 0 := by omega
  go_enter Try.func32, Try.ntmps32
  go_wp2_with fail
  refine (state_nil _).mono ?_
  rintro e w' ⟨rfl, rfl⟩
  go_wp2
  go_ret
  exact ⟨rfl, rfl⟩
set_option maxHeartbeats 1000000 in
theorem darm_off {F H : Nat → Prop} {w : World} {b : Nat} {D : Dpl} (h : DAt F H w b D) (hoff : D.off = true) (n : Int) (hn : 0 ≤ n) : Calls Try.prog 32 #[.pointer (some ⟨b, 0, none⟩), .int .i64 n] w fun e w' => e = .returned (.int .i64 11) ∧ w = w' := by
  have hn' : ¬ n < 0 := by omega
  go_enter Try.func32, Try.ntmps32
  go_wp2_with fail
  refine (state_any h).mono ?_
  rintro e w' ⟨rfl, rfl⟩
  have he : D.err = 11 := by simp [Dpl.err, hoff]
  rw [he]
  go_wp2
  go_ret
  exact ⟨rfl, rfl⟩
set_option maxHeartbeats 1000000 in
theorem darm_ok {F H : Nat → Prop} {w : World} {b : Nat} {D : Dpl} (h : DAt F H w b D) (hoff : D.off = false) (n : Int) (hn : 0 ≤ n) : Calls Try.prog 32 #[.pointer (some ⟨b, 0, none⟩), .int .i64 n] w fun e w' => e = .returned (.int .i64 0) ∧ DPost F H w b { D with armed := n } w' := by
  have hn' : ¬ n < 0 := by omega
  have HA := hid h
  have he : D.err = 0 := by simp [Dpl.err, hoff]
  clear hoff
  obtain ⟨lo, lc, so, sc, h⟩ := h
  have r1 := row_set h.r 4 (.int .i64 n)
  have k1 := (Kept.refl (fun g => g = b) w).setCell (p := ⟨b, 4, none⟩) (.inl rfl) (.int .i64 n)
  have hp := h.set k1 { D with armed := n } (by rw [r1]; rfl) rfl rfl
  have HP := hid hp; have K1 := hid k1; have HM := hid h.m
  obtain ⟨c0, c1, c2, c3, c4, c5⟩ := cells6 h.r
  have fz := fun j => row_free h.r j
  clear hp k1 r1 h c0 c1 c2 c3 c5
  go_enter Try.func32, Try.ntmps32
  go_wp2_with fail
  refine (state_any HA.out).mono ?_
  rintro e w' ⟨rfl, rfl⟩
  rw [he]
  clear he
  go_wp2
  go_ret
  exact ⟨rfl, DPost.of ⟨lo, lc, so, sc, HP.out⟩ (K1.out.mono (fun g _ e => by rw [e]; exact HM.out))⟩
set_option maxHeartbeats 1000000 in
theorem dflush_nil {w : World} : Calls Try.prog 31 #[.pointer none] w fun e w' => e = .returned (.int .i64 6) ∧ w = w' := by
  go_enter Try.func31, Try.ntmps31
  go_wp2_with fail
  refine (state_nil _).mono ?_
  rintro e w' ⟨rfl, rfl⟩
  go_wp2
  go_ret
  exact ⟨rfl, rfl⟩
set_option maxHeartbeats 1000000 in
theorem dflush_off {F H : Nat → Prop} {w : World} {b : Nat} {D : Dpl} (h : DAt F H w b D) (hoff : D.off = true) : Calls Try.prog 31 #[.pointer (some ⟨b, 0, none⟩)] w fun e w' => e = .returned (.int .i64 11) ∧ w = w' := by
  go_enter Try.func31, Try.ntmps31
  go_wp2_with fail
  refine (state_any h).mono ?_
  rintro e w' ⟨rfl, rfl⟩
  have he : D.err = 11 := by simp [Dpl.err, hoff]
  rw [he]
  go_wp2
  go_ret
  exact ⟨rfl, rfl⟩
set_option maxHeartbeats 1000000 in
theorem dflush_dead {F H : Nat → Prop} {w : World} {b : Nat} {D : Dpl} (h : DAt F H w b D) (hs : DSmall D) (hoff : D.off = false) (hg : (dtick D).off = true) : Calls Try.prog 31 #[.pointer (some ⟨b, 0, none⟩)] w fun e w' => e = .returned (.int .i64 11) ∧ DPost F H w b (dtick D) w' := by
  obtain ⟨lo, lc, so, sc, h⟩ := h
  have HI := hid h; clear h
  go_enter Try.func31, Try.ntmps31
  go_wp2_with fail
  refine (state_any ⟨lo, lc, so, sc, HI.out⟩).mono ?_
  rintro e w' ⟨rfl, rfl⟩
  have he : D.err = 0 := by simp [Dpl.err, hoff]
  rw [he]
  clear he
  go_wp2_with fail
  refine (counted_any HI.out hs hoff).mono ?_
  rintro e w2 ⟨rfl, hp, hk⟩
  rw [hg]
  have HP := hid hp; have HK := hid hk
  clear hp hk
  go_wp2
  go_ret
  exact ⟨rfl, DPost.of ⟨lo, lc, so, sc, HP.out⟩ (HK.out.mono (fun g _ e => by rw [e]; exact HI.out.m))⟩
def Dpl.flushed (D : Dpl) : Dpl := { D with last := D.last ++ D.since, since := [] }
set_option maxRecDepth 100000 in
set_option maxHeartbeats 2000000 in
theorem dflush_ok {F H : Nat → Prop} {w : World} {b : Nat} {D : Dpl} (h : DAt F H w b D) (hs : DSmall D) (hoff : D.off = false) (hg : (dtick D).off = false) (hn : D.last.length ≤ 100000 ∧ D.since.length ≤ 100000) : Calls Try.prog 31 #[.pointer (some ⟨b, 0, none⟩)] w fun e w' => e = .returned (.int .i64 0) ∧ DPost F H w b (dtick D).flushed w' := by
  obtain ⟨lo, lc, so, sc, h⟩ := h
  have HI := hid h; clear h
  have HN := hid hn; clear hn
  go_enter Try.func31, Try.ntmps31
  go_wp2_with fail
  refine (state_any ⟨lo, lc, so, sc, HI.out⟩).mono ?_
  rintro e w' ⟨rfl, rfl⟩
  have he : D.err = 0 := by simp [Dpl.err, hoff]
  rw [he]
  clear he
  go_wp2_with fail
  refine (counted_any HI.out hs hoff).mono ?_
  rintro e w2 ⟨rfl, hp, hk⟩
  rw [hg]
  have HP := hid hp; have HK := hid hk
  have HF := hid (show (dtick D).off = false from hg)
  clear hp hk hs hoff hg
  have hr : w2.drew.heap[b]? = some (.cells #[.int .i64 D.n, .slice lo D.last.length lc, .slice so D.since.length sc, .bool (dtick D).off, .int .i64 (dtick D).armed, .int .i64 (D.ops + 1)] 61 (0, 0)) := HP.out.r
  rw [HF.out] at hr
  have HRW := hid hr
  obtain ⟨c0, c1, c2, c3, c4, c5⟩ := cells6 hr
  clear hr c0 c3 c4 c5
  go_wp2_with fail
  refine wp_region_till (fun w' => w'.cell? ⟨b, 1, none⟩ = some (.slice lo D.last.length lc) ∧ w'.cell? ⟨b, 2, none⟩ = some (.slice so D.since.length sc)) 9 (by kernel_rfl) (by exact ⟨c1, c2⟩) (fun hHeld => ?_)
  refine till_pure 0 (some 11) (v := ?v100) (by decide) rfl (by kernel_rfl) (by kernel_rfl) (by kernel_rfl) (by kernel_rfl) (by decide) (fun _ _ _ h => h) (Or.inl ⟨by rfl, ?y100⟩) (by assumption) ?r100
  case y100 => (intro w hSw; clear hSw; go_simp; (try with_reducible rfl))
  simp only [Act.put, List.setIfInBounds_toArray, List.set_cons_zero, List.set_cons_succ]
  refine till_pure 1 (some 12) (v := ?v101) (by decide) rfl (by kernel_rfl) (by kernel_rfl) (by kernel_rfl) (by kernel_rfl) (by decide) (fun _ _ _ h => h) (Or.inl ⟨by rfl, ?y101⟩) (by assumption) ?r101
  case y101 => (intro w hSw; clear hSw; go_simp; (try with_reducible rfl))
  simp only [Act.put, List.setIfInBounds_toArray, List.set_cons_zero, List.set_cons_succ]
  refine till_pure 2 (some 13) (v := ?v102) (by decide) rfl (by kernel_rfl) (by kernel_rfl) (by kernel_rfl) (by kernel_rfl) (by decide) (fun _ _ _ h => h) (Or.inl ⟨by rfl, ?y102⟩) (by assumption) ?r102
  case y102 => (intro w hSw; clear hSw; go_simp; (try with_reducible rfl))
  simp only [Act.put, List.setIfInBounds_toArray, List.set_cons_zero, List.set_cons_succ]
  refine till_pure 3 (some 14) (v := ?v103) (by decide) rfl (by kernel_rfl) (by kernel_rfl) (by kernel_rfl) (by kernel_rfl) (by decide) (fun _ _ _ h => h) (Or.inl ⟨by rfl, ?y103⟩) (by assumption) ?r103
  case y103 => (intro w hSw; clear hSw; go_simp; (try with_reducible rfl))
  simp only [Act.put, List.setIfInBounds_toArray, List.set_cons_zero, List.set_cons_succ]
  refine till_load 4 (some 15) [] (v := ?v104) (by decide) rfl (by kernel_rfl) (by kernel_rfl) (by kernel_rfl) (by kernel_rfl) (by kernel_rfl) (by decide) (by decide) (fun _ _ _ h => h) (Or.inl ⟨by rfl, ?y104⟩) (by assumption) ?r104
  case y104 => (intro w hSw; (try dsimp only at hSw); go_simp; (try with_reducible rfl))
  simp only [Act.put, List.setIfInBounds_toArray, List.set_cons_zero, List.set_cons_succ]
  refine till_pure 5 (some 16) (v := ?v105) (by decide) rfl (by kernel_rfl) (by kernel_rfl) (by kernel_rfl) (by kernel_rfl) (by decide) (fun _ _ _ h => h) (Or.inl ⟨by rfl, ?y105⟩) (by assumption) ?r105
  case y105 => (intro w hSw; clear hSw; go_simp; (try with_reducible rfl))
  simp only [Act.put, List.setIfInBounds_toArray, List.set_cons_zero, List.set_cons_succ]
  refine till_pure 6 (some 17) (v := ?v106) (by decide) rfl (by kernel_rfl) (by kernel_rfl) (by kernel_rfl) (by kernel_rfl) (by decide) (fun _ _ _ h => h) (Or.inl ⟨by rfl, ?y106⟩) (by assumption) ?r106
  case y106 => (intro w hSw; clear hSw; go_simp; (try with_reducible rfl))
  simp only [Act.put, List.setIfInBounds_toArray, List.set_cons_zero, List.set_cons_succ]
  refine till_pure 7 (some 18) (v := ?v107) (by decide) rfl (by kernel_rfl) (by kernel_rfl) (by kernel_rfl) (by kernel_rfl) (by decide) (fun _ _ _ h => h) (Or.inl ⟨by rfl, ?y107⟩) (by assumption) ?r107
  case y107 => (intro w hSw; clear hSw; go_simp; (try with_reducible rfl))
  simp only [Act.put, List.setIfInBounds_toArray, List.set_cons_zero, List.set_cons_succ]
  refine till_load 8 (some 19) [] (v := ?v108) (by decide) rfl (by kernel_rfl) (by kernel_rfl) (by kernel_rfl) (by kernel_rfl) (by kernel_rfl) (by decide) (by decide) (fun _ _ _ h => h) (Or.inl ⟨by rfl, ?y108⟩) (by assumption) ?r108
  case y108 => (intro w hSw; (try dsimp only at hSw); go_simp; (try with_reducible rfl))
  simp only [Act.put, List.setIfInBounds_toArray, List.set_cons_zero, List.set_cons_succ]
  refine till_list [10, 11, 12] (by kernel_rfl) (by kernel_rfl) (by decide) (by decide) ?_
  simp only [pickOps, List.getElem?_toArray, List.getElem?_cons_zero, List.getElem?_cons_succ]
  clear hHeld
  refine wpList_app rfl (.tmp 15) (.tmp 19) 59 rfl 85 (.agg #[.int .i64 0, .int .i64 0, .slice none 0 0]) 3 40 Try.underlying59 infoPut rfl (by decide) (.slice lo D.last.length lc) D.last.length (dcells D.last) rfl HP.out.ol.drew _ rfl D.since.length (dcells D.since) (HP.out.os.drew.src HP.out.one.2) (by have := HN.out; simp only [maxLen]; omega) (by have := HN.out; omega) ?_
  intro a' c' w3 ho hk3 hf _
  have HO3 := hid ho; have HK3 := hid (show Kept (fun k => (Value.slice lo D.last.length lc).ownBlock = some k) w2 w3 from ((Kept.refl _ _).drew).trans hk3); have HF3 := hid hf
  have HR3 := hid ((hk3.block b (row_lt HRW.out) (fun e => HP.out.neb.1 b e rfl)).trans HRW.out)
  clear ho hk3 hf c1 c2
  go_wp2_with (first
    | (refine wpList_store_cell rfl 59 (.tmp 22) (.tmp 20) rfl (by kernel_rfl) b 1 rfl (.slice a' (D.last.length + D.since.length) c') rfl rfl HR3.out (by simp) ?_; intro w4 hr hk; have HR4 := hid hr.out; have HK4 := hid hk.out; clear hr hk)
    | (refine wpList_store_cell rfl 59 (.tmp 25) (.const (.slice none 0 0)) rfl (by kernel_rfl) b 2 rfl (.slice none 0 0) rfl rfl HR4.out (by simp) ?_; intro w5 hr hk; have HR5 := hid hr.out; have HK5 := hid hk.out; clear hr hk))
  go_ret
  refine ⟨rfl, ?_⟩
  have hb3 := HP.out.neb.1
  have K35 := HK4.out.trans HK5.out
  have K25 : Kept (fun g => g = b ∨ (Value.slice lo D.last.length lc).ownBlock = some g) w w5 := ((HK.out.mono (fun g _ e => .inl e)).trans (HK3.out.mono (fun g _ e => .inr e))).trans (K35.mono (fun g _ e => .inl e))
  have ho5 := HO3.out.kept K35 (fun g hg e => by
    subst e
    rcases HF3.out g hg with h | h
    · exact hb3 g h rfl
    · have := row_lt HP.out.r; exact absurd h (by simp; omega))
  refine HI.out.lists (lo' := a') (lc' := c') (so' := none) (sc' := 0) (D' := (dtick D).flushed) K25 (fun g _ e => by rcases e with e | e; rw [e]; exact HI.out.m; exact HI.out.gl g e) ?_ ?_ (Own.nil _ _ _) ?_ (by simp [Value.ownBlock, Dpl.flushed]) (by simp [Value.ownBlock, Dpl.flushed]) ?_ (by simp [Dpl.flushed]) (by simp [Dpl.flushed])
  · have hr5 := HR5.out
    simp only [List.setIfInBounds_toArray, List.set_cons_zero, List.set_cons_succ] at hr5
    rw [hr5]
    simp only [dlRow, Dpl.flushed, dtick, List.length_append, List.length_nil]
    have := HF.out
    simp only [dtick] at this
    rw [this]
  · have : (dtick D).flushed.last = D.last ++ D.since := rfl
    rw [this, List.length_append]
    have e : dcells (D.last ++ D.since) = dcells D.last ++ dcells D.since := by simp [dcells]
    rw [e]
    exact ho5
  · intro g hg
    have : (dtick D).flushed.last.length = D.last.length + D.since.length := by simp [Dpl.flushed, dtick]
    rw [this] at hg
    rcases HF3.out g hg with h | h
    · exact .inl (HI.out.gl g h)
    · have := HK.out.size
      have h' : w2.heap.size ≤ g := h
      exact .inr (by omega)
  · intro x hx
    have hx' : x ∈ D.last ∨ x ∈ D.since := by simpa [Dpl.flushed, dtick] using hx
    have hh : ∀ g, g < w.heap.size → (H g ∨ w.heap.size ≤ g) → H g := fun g hg h => h.elim id (fun h => by omega)
    rcases hx' with h | h
    · exact (HI.out.el x h).mono hh
    · exact (HI.out.es x h).mono hh
end Go.Proofs.Ytnfdkpjklenllaa
