/- Texts of this claim, merged: E. -/
import Derived.BigQuiet
import Derived.Test.YtpjhdpfaogdboaaPm1
import Derived.Test.YtpjhdpfaogdboaaPm2
import Derived.Test.YtpjhdpfaogdboaaPm3
import Derived.Test.YtpjhdpfaogdboaaPm4
import Derived.Test.YtpjhdpfaogdboaaPm5
import Derived.Test.YtpjhdpfaogdboaaPm6
import Derived.Test.YtpjhdpfaogdboaaPm7
/- holds, rivals, waits. -/
namespace Go.Proofs.Ytpjhdpfaogdboaa
set_option linter.unusedSimpArgs false
set_option linter.unusedVariables false
open Go.RowKit
set_option maxHeartbeats 1000000 in
theorem conW {F : Nat → Prop} {w : World} {a : Option Addr} {c : Nat} {ws : List Wt} (hl : Lies F w 2 (.slice a ws.length c) ws.length (wcells ws)) (g : Nat) (lb : Array Value) (eg : ∀ args w, (callFunc g args).run Try.prog w = .ok (.enter g args) w) (p : Wt → Bool)
    (hp : ∀ W x, x ∈ ws → Kept (fun _ => False) w W → Calls Try.prog g (#[.agg #[.int .u32 x.1, .int .u8 x.2]] ++ lb) W fun e w' => e = .returned (.bool (p x)) ∧ Kept (fun _ => False) W w') :
    Calls Try.prog 47 #[.slice a ws.length c, .func (.func g) #[] lb] w fun e w' => e = .returned (.bool (ws.any p)) ∧ Kept (fun _ => False) w w' := by
  have HI := hid (fun (W : World) (k : Kept (fun _ => False) w W) => idxW (hl.same k) g lb eg p (fun V x hx kv => hp V x hx (k.trans kv)))
  clear hl hp eg
  go_enter Try.func47, Try.ntmps47
  go_wp2_with fail
  refine (HI.out w (Kept.refl _ _)).mono ?_
  rintro e w1 ⟨r, rfl, hr, hk⟩
  have HR := hid hr; have HK := hid hk
  clear hr hk
  go_wp2
  go_ret
  exact ⟨ret_bool HR.out, HK.out⟩
set_option maxHeartbeats 1000000 in
theorem conP {F : Nat → Prop} {w : World} {a : Option Addr} {c : Nat} {ws : List Nat} (hl : Lies F w 1 (.slice a ws.length c) ws.length (ptrs ws)) (g : Nat) (lb : Array Value) (eg : ∀ args w, (callFunc g args).run Try.prog w = .ok (.enter g args) w) (p : Nat → Bool)
    (hp : ∀ W x, x ∈ ws → Kept (fun _ => False) w W → Calls Try.prog g (#[ptr x] ++ lb) W fun e w' => e = .returned (.bool (p x)) ∧ Kept (fun _ => False) W w') :
    Calls Try.prog 49 #[.slice a ws.length c, .func (.func g) #[] lb] w fun e w' => e = .returned (.bool (ws.any p)) ∧ Kept (fun _ => False) w w' := by
  have HI := hid (fun (W : World) (k : Kept (fun _ => False) w W) => idxP (hl.same k) g lb eg p (fun V x hx kv => hp V x hx (k.trans kv)))
  clear hl hp eg
  go_enter Try.func49, Try.ntmps49
  go_wp2_with fail
  refine (HI.out w (Kept.refl _ _)).mono ?_
  rintro e w1 ⟨r, rfl, hr, hk⟩
  have HR := hid hr; have HK := hid hk
  clear hr hk
  go_wp2
  go_ret
  exact ⟨ret_bool HR.out, HK.out⟩
/-! ### holds -/
def mdOf (lk : List Wt) (v : Int) : Int := (lkw lk v).getD 0
def hold1 (lk : List Wt) (x : Wt) : Bool := decide (mdOf lk x.1 = 2) || (decide (mdOf lk x.1 = 1) && decide (x.2 = 2))
theorem lkw_mem {l : List Wt} {k m : Int} (h : lkw l k = some m) : (k, m) ∈ l := by
  induction l with
  | nil => cases h
  | cons x l ih =>
    obtain ⟨a, b⟩ := x
    unfold lkw at h
    split at h
    · rename_i e; simp at h; rw [e, h]; exact List.mem_cons_self
    · exact List.mem_cons_of_mem _ (ih h)
theorem lkw_of {l : List Wt} (hr : Ris l) {x : Wt} (h : x ∈ l) : lkw l x.1 = some x.2 := by
  induction l with
  | nil => cases h
  | cons y l ih =>
    have h1 := (List.pairwise_cons.1 hr).1
    obtain ⟨a, b⟩ := y
    unfold lkw
    rcases List.mem_cons.1 h with rfl | h
    · simp
    · have := h1 x h
      simp only at this
      rw [if_neg (by omega)]
      exact ih (List.pairwise_cons.1 hr).2 h
theorem hold_clash {lk : List Wt} (hr : Ris lk) (hf : Fm lk) (ws : List Wt) : ws.any (hold1 lk) = clash lk ws := by
  rw [Bool.eq_iff_iff]
  unfold clash
  simp only [List.any_eq_true, Bool.and_eq_true, Bool.or_eq_true, decide_eq_true_eq]
  constructor
  · rintro ⟨y, hy, h⟩
    unfold hold1 mdOf at h
    simp only [Bool.and_eq_true, Bool.or_eq_true, decide_eq_true_eq] at h
    cases hl : lkw lk y.1 with
    | none => rw [hl] at h; simp at h
    | some m =>
      rw [hl] at h
      simp only [Option.getD_some] at h
      refine ⟨(y.1, m), lkw_mem hl, y, hy, rfl, ?_⟩
      rcases h with h | h
      · exact .inl h
      · exact .inr h.2
  · rintro ⟨x, hx, y, hy, e, h⟩
    refine ⟨y, hy, ?_⟩
    have hl := lkw_of hr hx
    rw [e] at hl
    unfold hold1 mdOf
    rw [hl]
    simp only [Option.getD_some, Bool.and_eq_true, Bool.or_eq_true, decide_eq_true_eq]
    rcases (hf x hx).2.2 with h1 | h1
    · exact .inr ⟨h1, h.resolve_left (by omega)⟩
    · exact .inl h1
theorem OwIn.mode {O : Nat → Prop} {w : World} {a : Ad} {o : Ow} (h : OwIn O w a o) (v : Int) (q : Nat) : (Instr.lookup 66 (.map (some a.lb)) (.int .u32 v) false).run Try.prog (w.drewN q) = .ok (.int .u8 (mdOf o.lk v)) (w.drewN q) := by
  obtain ⟨E, hm, hl⟩ := (h.same (kept_drewN w q)).map
  have he := hl.1 v
  unfold mdOf
  cases hk : lkw o.lk v with
  | none =>
    rw [hk] at he
    exact hm.run_look_none Try.underlying66 Try.underlying26 (z := .int .u8 0) (by kernel_rfl) he false
  | some m =>
    rw [hk] at he
    exact hm.run_look_some Try.underlying66 Try.underlying26 he false
theorem want_new (w : World) (v m : Int) : (w.alloc (.cells #[.int .u32 v, .int .u8 m] 36)).cell? ⟨w.heap.size, 0, none⟩ = some (.int .u32 v) ∧ (w.alloc (.cells #[.int .u32 v, .int .u8 m] 36)).cell? ⟨w.heap.size, 1, none⟩ = some (.int .u8 m) :=
  ⟨by rw [row_cell (row_new w _)]; rfl, by rw [row_cell (row_new w _)]; rfl⟩
set_option maxRecDepth 100000 in
set_option maxHeartbeats 1000000 in
theorem holds1_any {O : Nat → Prop} {w : World} {bx : Nat} {a : Ad} {o : Ow} (hb : w.cell? ⟨bx, 0, none⟩ = some (ptr a.ob)) (h : OwIn O w a o) (v m : Int) :
    Calls Try.prog 48 #[.agg #[.int .u32 v, .int .u8 m], .pointer (some ⟨bx, 0, none⟩)] w fun e w' => e = .returned (.bool (hold1 o.lk (v, m))) ∧ Kept (fun _ => False) w w' := by
  have k1 := (Kept.refl (fun _ => False) w).alloc (.cells #[.int .u32 v, .int .u8 m] 36)
  obtain ⟨y0, y1⟩ := want_new w v m
  obtain ⟨w1, hw1⟩ : ∃ w1, w.alloc (.cells #[.int .u32 v, .int .u8 m] 36) = w1 := ⟨_, rfl⟩
  obtain ⟨kb, hkb⟩ : ∃ kb, w.heap.size = kb := ⟨_, rfl⟩
  rw [hw1] at k1 y0 y1
  rw [hkb] at y0 y1
  have K1 := hid k1
  have b0 := k1.cell hb id
  have H1 := hid (h.same k1)
  obtain ⟨_, _, _, _, c4, _, _⟩ := cells7 H1.out.obj
  have hlk := H1.out.mode v
  obtain ⟨md, hmd⟩ : ∃ md, mdOf o.lk v = md := ⟨_, rfl⟩
  rw [hmd] at hlk
  have HM := hid hmd
  obtain ⟨b1, hb1⟩ : ∃ b, (md == 2) = b := ⟨_, rfl⟩
  obtain ⟨b2, hb2⟩ : ∃ b, (md == 1) = b := ⟨_, rfl⟩
  obtain ⟨b3, hb3⟩ : ∃ b, (m == 2) = b := ⟨_, rfl⟩
  have HR := hid (show hold1 o.lk (v, m) = (b1 || (b2 && b3)) from by
    unfold hold1
    simp only [hmd]
    rw [← hb1, ← hb2, ← hb3]
    rfl)
  unfold ptr at b0
  clear hb h k1 hmd
  go_enter Try.func48, Try.ntmps48
  go_wp2_with fail
  clear hw1 hkb
  go_quiet (fail)
  have y1' : (w1.drewN nq).cell? ⟨kb, 1, none⟩ = some (.int .u8 m) := y1
  have K2 := hid (K1.out.trans (kept_drewN (F := fun _ => False) w1 nq))
  clear b0 c4 hlk y0 y1
  cases b1
  · cases b2
    · go_wp2
      go_ret
      exact ⟨ret_bool (by rw [HR.out]; rfl), K2.out⟩
    · cases b3
      · go_wp2
        go_ret
        exact ⟨ret_bool (by rw [HR.out]; rfl), K2.out⟩
      · go_wp2
        go_ret
        exact ⟨ret_bool (by rw [HR.out]; rfl), K2.out⟩
  · go_wp2
    go_ret
    exact ⟨ret_bool (by rw [HR.out]; rfl), K2.out⟩

theorem app1 (a b : Value) : (#[a] ++ #[b] : Array Value) = #[a, b] := rfl
theorem box_new (w : World) (v : Value) (T : TypeId) : (w.alloc (.cells #[v] T)).cell? ⟨w.heap.size, 0, none⟩ = some v := by rw [row_cell (row_new w _)]; rfl
set_option maxRecDepth 100000 in
set_option maxHeartbeats 1000000 in
theorem holds_any {O F : Nat → Prop} {w : World} {ad : Ad} {o : Ow} (h : OwIn O w ad o) (hr : Ris o.lk) (hf : Fm o.lk) {a : Option Addr} {c : Nat} {ws : List Wt} (hl : Lies F w 2 (.slice a ws.length c) ws.length (wcells ws)) :
    Calls Try.prog 29 #[.pointer (some ⟨ad.ob, 0, none⟩), .slice a ws.length c] w fun e w' => e = .returned (.bool (clash o.lk ws)) ∧ Kept (fun _ => False) w w' := by
  have k1 := (Kept.refl (fun _ => False) w).alloc (.cells #[ptr ad.ob] 65)
  have b0 := box_new w (ptr ad.ob) 65
  obtain ⟨w1, hw1⟩ : ∃ w1, w.alloc (.cells #[.pointer (some ⟨ad.ob, 0, none⟩)] 65) = w1 := ⟨_, rfl⟩
  obtain ⟨kb, hkb⟩ : ∃ kb, w.heap.size = kb := ⟨_, rfl⟩
  unfold ptr at k1 b0
  rw [hw1] at k1 b0
  rw [hkb] at b0
  have K1 := hid k1; have B0 := hid b0; have H1 := hid (h.same k1); have HL := hid (hl.same k1)
  have HC := hid (hold_clash hr hf ws)
  clear k1 b0 h hl hr hf
  have eg : ∀ args w, (callFunc 48 args).run Try.prog w = .ok (.enter 48 args) w := enters_of Try.func48 (by kernel_rfl) rfl
  have EG := hid eg
  clear eg
  go_enter Try.func29, Try.ntmps29
  go_wp2_with fail
  try rw [hw1, hkb]
  clear hw1 hkb
  refine (conW HL.out 48 #[.pointer (some ⟨kb, 0, none⟩)] EG.out (hold1 o.lk) (fun W x _ k => by rw [app1]; exact holds1_any (k.cell B0.out id) (H1.out.same k) x.1 x.2)).mono ?_
  rintro e w2 ⟨rfl, hk⟩
  have K2 := hid (K1.out.trans hk)
  clear hk
  go_wp2
  go_ret
  exact ⟨ret_bool HC.out, K2.out⟩
/-! ### rivals -/
def riv1 (x y : Wt) : Bool := decide (x.1 = y.1) && (decide (x.2 = 2) || decide (y.2 = 2))
set_option maxRecDepth 100000 in
set_option maxHeartbeats 1000000 in
theorem riv11_any {w : World} {bx : Nat} {y : Wt} (h0 : w.cell? ⟨bx, 0, none⟩ = some (.int .u32 y.1)) (h1 : w.cell? ⟨bx, 1, none⟩ = some (.int .u8 y.2)) (x : Wt) :
    Calls Try.prog 69 #[.agg #[.int .u32 x.1, .int .u8 x.2], .pointer (some ⟨bx, 0, none⟩)] w fun e w' => e = .returned (.bool (riv1 x y)) ∧ Kept (fun _ => False) w w' := by
  obtain ⟨v, m⟩ := x
  obtain ⟨v', m'⟩ := y
  simp only at h0 h1 ⊢
  have k1 := (Kept.refl (fun _ => False) w).alloc (.cells #[.int .u32 v, .int .u8 m] 36)
  obtain ⟨y0, y1⟩ := want_new w v m
  obtain ⟨w1, hw1⟩ : ∃ w1, w.alloc (.cells #[.int .u32 v, .int .u8 m] 36) = w1 := ⟨_, rfl⟩
  obtain ⟨kb, hkb⟩ : ∃ kb, w.heap.size = kb := ⟨_, rfl⟩
  rw [hw1] at k1 y0 y1
  rw [hkb] at y0 y1
  have K1 := hid k1
  have b0 := k1.cell h0 id
  have b1 := k1.cell h1 id
  obtain ⟨z1, hb1⟩ : ∃ b, (v == v') = b := ⟨_, rfl⟩
  obtain ⟨z2, hb2⟩ : ∃ b, (m == 2) = b := ⟨_, rfl⟩
  obtain ⟨z3, hb3⟩ : ∃ b, (m' == 2) = b := ⟨_, rfl⟩
  have HR := hid (show riv1 (v, m) (v', m') = (z1 && (z2 || z3)) from by
    unfold riv1
    rw [← hb1, ← hb2, ← hb3]
    rfl)
  clear h0 h1 k1
  cases z1 <;> cases z2 <;> cases z3
  all_goals
    go_enter Try.func69, Try.ntmps69
    go_wp2
    go_ret
    exact ⟨ret_bool (by rw [HR.out]; rfl), by (try rw [hw1]); exact K1.out⟩
set_option maxRecDepth 100000 in
set_option maxHeartbeats 1000000 in
theorem rivd1_any {O : Nat → Prop} {w : World} {bx : Nat} {ad : Ad} {o : Ow} (hb : w.cell? ⟨bx, 0, none⟩ = some (ptr ad.ob)) (h : OwIn O w ad o) (y : Wt) :
    Calls Try.prog 68 #[.agg #[.int .u32 y.1, .int .u8 y.2], .pointer (some ⟨bx, 0, none⟩)] w fun e w' => e = .returned (.bool (o.ws.any fun x => riv1 x y)) ∧ Kept (fun _ => False) w w' := by
  obtain ⟨v, m⟩ := y
  simp only
  have k1 := (Kept.refl (fun _ => False) w).alloc (.cells #[.int .u32 v, .int .u8 m] 36)
  obtain ⟨y0, y1⟩ := want_new w v m
  obtain ⟨w1, hw1⟩ : ∃ w1, w.alloc (.cells #[.int .u32 v, .int .u8 m] 36) = w1 := ⟨_, rfl⟩
  obtain ⟨kb, hkb⟩ : ∃ kb, w.heap.size = kb := ⟨_, rfl⟩
  rw [hw1] at k1 y0 y1
  rw [hkb] at y0 y1
  have K1 := hid k1; have Y0 := hid y0; have Y1 := hid y1
  have b0 := k1.cell hb id
  have H1 := hid (h.same k1)
  obtain ⟨_, _, _, _, _, c5, _⟩ := cells7 H1.out.obj
  unfold ptr at b0
  clear hb h k1 y0 y1
  have eg : ∀ args w, (callFunc 69 args).run Try.prog w = .ok (.enter 69 args) w := enters_of Try.func69 (by kernel_rfl) rfl
  have EG := hid eg
  clear eg
  go_enter Try.func68, Try.ntmps68
  go_wp2_with fail
  clear hw1 hkb
  refine (conW H1.out.ws 69 #[.pointer (some ⟨kb, 0, none⟩)] EG.out (fun x => riv1 x (v, m)) (fun W x _ k => by rw [app1]; exact riv11_any (y := (v, m)) (k.cell Y0.out id) (k.cell Y1.out id) x)).mono ?_
  rintro e w2 ⟨rfl, hk⟩
  have K2 := hid (K1.out.trans hk)
  clear hk b0 c5
  go_wp2
  go_ret
  exact ⟨ret_bool rfl, K2.out⟩
theorem riv_clash (a b : List Wt) : b.any (fun y => a.any fun x => riv1 x y) = clash a b := by
  rw [Bool.eq_iff_iff]
  unfold clash riv1
  simp only [List.any_eq_true]
  constructor
  · rintro ⟨y, hy, x, hx, h⟩; exact ⟨x, hx, y, hy, h⟩
  · rintro ⟨x, hx, y, hy, h⟩; exact ⟨y, hy, x, hx, h⟩
set_option maxRecDepth 100000 in
set_option maxHeartbeats 1000000 in
theorem rivals_any {O F : Nat → Prop} {w : World} {ad : Ad} {o : Ow} (h : OwIn O w ad o) {a : Option Addr} {c : Nat} {ws : List Wt} (hl : Lies F w 2 (.slice a ws.length c) ws.length (wcells ws)) :
    Calls Try.prog 52 #[.pointer (some ⟨ad.ob, 0, none⟩), .slice a ws.length c] w fun e w' => e = .returned (.bool (clash o.ws ws)) ∧ Kept (fun _ => False) w w' := by
  have k1 := (Kept.refl (fun _ => False) w).alloc (.cells #[ptr ad.ob] 65)
  have b0 := box_new w (ptr ad.ob) 65
  obtain ⟨w1, hw1⟩ : ∃ w1, w.alloc (.cells #[.pointer (some ⟨ad.ob, 0, none⟩)] 65) = w1 := ⟨_, rfl⟩
  obtain ⟨kb, hkb⟩ : ∃ kb, w.heap.size = kb := ⟨_, rfl⟩
  unfold ptr at k1 b0
  rw [hw1] at k1 b0
  rw [hkb] at b0
  have K1 := hid k1; have B0 := hid b0; have H1 := hid (h.same k1); have HL := hid (hl.same k1)
  have HC := hid (riv_clash o.ws ws)
  clear k1 b0 h hl
  have eg : ∀ args w, (callFunc 68 args).run Try.prog w = .ok (.enter 68 args) w := enters_of Try.func68 (by kernel_rfl) rfl
  have EG := hid eg
  clear eg
  go_enter Try.func52, Try.ntmps52
  go_wp2_with fail
  try rw [hw1, hkb]
  clear hw1 hkb
  refine (conW HL.out 68 #[.pointer (some ⟨kb, 0, none⟩)] EG.out (fun y => o.ws.any fun x => riv1 x y) (fun W x _ k => by rw [app1]; exact rivd1_any (k.cell B0.out id) (H1.out.same k) x)).mono ?_
  rintro e w2 ⟨rfl, hk⟩
  have K2 := hid (K1.out.trans hk)
  clear hk
  go_wp2
  go_ret
  exact ⟨ret_bool HC.out, K2.out⟩
set_option maxHeartbeats 1000000 in
theorem waits_any {O : Nat → Prop} {w : World} {ad : Ad} {o : Ow} (h : OwIn O w ad o) :
    Calls Try.prog 26 #[.pointer (some ⟨ad.ob, 0, none⟩)] w fun e w' => e = .returned (.bool (decide (0 < o.ws.length))) ∧ w = w' := by
  obtain ⟨_, _, _, _, _, c5, _⟩ := cells7 h.obj
  obtain ⟨n, hn⟩ : ∃ n, o.ws.length = n := ⟨_, rfl⟩
  rw [hn] at c5 ⊢
  clear h hn
  go_enter Try.func26, Try.ntmps26
  go_wp2
  go_ret
  exact ⟨ret_bool (by simp), rfl⟩
end Go.Proofs.Ytpjhdpfaogdboaa
