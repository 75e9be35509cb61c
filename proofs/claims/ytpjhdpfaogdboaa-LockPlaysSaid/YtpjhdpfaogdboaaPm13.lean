/- Texts of this claim, merged: K, L. -/
import Derived.LaidEqlPtr
import Derived.Test.YtpjhdpfaogdboaaPm1
import Derived.Test.YtpjhdpfaogdboaaPm2
import Derived.Test.YtpjhdpfaogdboaaPm3
import Derived.Test.YtpjhdpfaogdboaaPm4
import Derived.Test.YtpjhdpfaogdboaaPm5
import Derived.Test.YtpjhdpfaogdboaaPm6
import Derived.Test.YtpjhdpfaogdboaaPm7
import Derived.Test.YtpjhdpfaogdboaaPm8
import Derived.Test.YtpjhdpfaogdboaaPm9
import Derived.Test.YtpjhdpfaogdboaaPm10
import Derived.Test.YtpjhdpfaogdboaaPm11
import Derived.Test.YtpjhdpfaogdboaaPm12
/- settle's closures; the plain settle; one owner has turned. -/
namespace Go.Proofs.Ytpjhdpfaogdboaa
set_option linter.unusedSimpArgs false
set_option linter.unusedVariables false
open Go.RowKit
set_option maxRecDepth 100000 in
set_option maxHeartbeats 2000000 in
theorem idxO {F : Nat → Prop} {w : World} {a : Option Addr} {c : Nat} {ws : List Ow} {f : Ow → Nat} (hl : Lies F w 1 (.slice a ws.length c) ws.length (ptrs (ws.map f))) (g : Nat) (lb : Array Value) (eg : ∀ args w, (callFunc g args).run Try.prog w = .ok (.enter g args) w) (p : Ow → Bool)
    (hp : ∀ W x, x ∈ ws → Kept (fun _ => False) w W → Calls Try.prog g (#[ptr (f x)] ++ lb) W fun e w' => e = .returned (.bool (p x)) ∧ Kept (fun _ => False) W w') :
    Calls Try.prog 67 #[.slice a ws.length c, .func (.func g) #[] lb] w fun e w' => ∃ r, e = .returned (.int .i64 r) ∧ decide (0 ≤ r) = ws.any p ∧ Kept (fun _ => False) w w' := by
  have HL := hid hl; have HP := hid hp
  have hbig := lies_len hl
  clear hl hp
  go_enter Try.func67, Try.ntmps67
  go_wp2
  go_loopw [8] (fun i wr => ∃ k : Nat, k ≤ ws.length ∧ i = .int .i64 k ∧ (ws.take k).any p = false ∧ Kept (fun _ => False) w wr) (fun i _ => ws.length - (RowKit.intOf i).toNat)
  case atStart => exact ⟨0, Nat.zero_le _, rfl, by simp, Kept.refl _ _⟩
  case round =>
    rename World => wr
    obtain ⟨k, hk, rfl, hany, hkp⟩ := hrel
    have HA := hid hany; have KR := hid hkp
    clear hany hkp
    by_cases hlt : k < ws.length
    · have hltI : (k : Int) < (ws.length : Int) := by omega
      obtain ⟨x, hx⟩ : ∃ x, ws[k]? = some x := ⟨_, List.getElem?_eq_getElem hlt⟩
      obtain ⟨_, hcap, hc1, gb, off, rfl, c0⟩ := lies_ptr (x := f x) (HL.out.same KR.out) (by rw [List.getElem?_map, hx]; rfl)
      have HX := hid hx
      clear hx hc1
      cases hq : p x with
      | true =>
        have hcall := HP.out wr x (List.mem_of_getElem? HX.out) KR.out
        rw [hq] at hcall
        have HC := hid hcall
        have HY := hid (any_hit HX.out p hq)
        clear hcall hq
        go_wp2_with (go_at_fn g; refine (HC.out).mono ?_; rintro e w' ⟨rfl, hk'⟩)
        go_ret
        exact ⟨_, rfl, by rw [HY.out]; simp, KR.out.trans hk'⟩
      | false =>
        have hcall := HP.out wr x (List.mem_of_getElem? HX.out) KR.out
        rw [hq] at hcall
        have HC := hid hcall
        have HY := hid (show (ws.take (k + 1)).any p = false from by rw [any_take HX.out, HA.out, hq]; rfl)
        clear hcall hq
        go_wp2_with (go_at_fn g; refine (HC.out).mono ?_; rintro e w' ⟨rfl, hk'⟩)
        go_roundw
        case rel => exact ⟨k + 1, by omega, by go_num, HY.out, KR.out.trans hk'⟩
        case measure => (simp only [RowKit.intOf]; omega)
    · obtain rfl : k = ws.length := by omega
      have HY := hid (show ws.any p = false from by have := HA.out; rwa [List.take_of_length_le (Nat.le_refl _)] at this)
      go_wp2
      go_ret
      exact ⟨-1, rfl, by rw [HY.out]; rfl, KR.out⟩
set_option maxHeartbeats 1000000 in
theorem conO {F : Nat → Prop} {w : World} {a : Option Addr} {c : Nat} {ws : List Ow} {f : Ow → Nat} (hl : Lies F w 1 (.slice a ws.length c) ws.length (ptrs (ws.map f))) (g : Nat) (lb : Array Value) (eg : ∀ args w, (callFunc g args).run Try.prog w = .ok (.enter g args) w) (p : Ow → Bool)
    (hp : ∀ W x, x ∈ ws → Kept (fun _ => False) w W → Calls Try.prog g (#[ptr (f x)] ++ lb) W fun e w' => e = .returned (.bool (p x)) ∧ Kept (fun _ => False) W w') :
    Calls Try.prog 49 #[.slice a ws.length c, .func (.func g) #[] lb] w fun e w' => e = .returned (.bool (ws.any p)) ∧ Kept (fun _ => False) w w' := by
  have HI := hid (fun (W : World) (k : Kept (fun _ => False) w W) => idxO (hl.same k) g lb eg p (fun V x hx kv => hp V x hx (k.trans kv)))
  clear hl hp eg
  go_enter Try.func49, Try.ntmps49
  go_wp2_with fail
  refine (HI.out w (Kept.refl _ _)).mono ?_
  rintro e w1 ⟨r, rfl, hr, hk⟩
  have HR := hid hr; have HK := hid hk
  clear hr hk
  go_wp2
  go_ret
  exact ⟨ret_bool HR.out, HK.out⟩
theorem infoOw : (Try.prog.info? 68).map (·.size) = some 7 := by kernel_rfl
theorem ne_same (w : World) (a : Addr) : (binOp .neq 65 (.pointer (some a)) (.pointer (some a))).run Try.prog w = .ok (.bool false) w := by
  obtain ⟨i, h1, h2⟩ := Option.map_eq_some_iff.1 infoOw
  have h : ∀ d : Nat, (Op.equalIn (d + 1) 65 (.pointer (some a)) (.pointer (some a))).run Try.prog w = .ok true w := fun d => by
    simp [Op.equalIn, run_underlying Try.underlying65, Go.sizeOf, Go.typeInfo, h1, run_sameAddr_same]
  simp only [binOp]
  simp [Op.equal, Op.maxDepth, h 9999]
theorem ne_other {w : World} {a b : Nat} {ca cb : Array Value} (hne : a ≠ b) (ha : w.heap[a]? = some (.cells ca 68 (0, 0))) (hb : w.heap[b]? = some (.cells cb 68 (0, 0))) :
    (binOp .neq 65 (.pointer (some ⟨a, 0, none⟩)) (.pointer (some ⟨b, 0, none⟩))).run Try.prog w = .ok (.bool true) w := by
  obtain ⟨i, h1, h2⟩ := Option.map_eq_some_iff.1 infoOw
  have hne2 : (⟨a, 0, none⟩ : Addr) ≠ ⟨b, 0, none⟩ := by simp [hne]
  have hsz : i.size ≠ 0 := by rw [h2]; decide
  have h : ∀ d : Nat, (Op.equalIn (d + 1) 65 (.pointer (some ⟨a, 0, none⟩)) (.pointer (some ⟨b, 0, none⟩))).run Try.prog w = .ok false w := fun d => by
    simp [Op.equalIn, run_underlying Try.underlying65, Go.sizeOf, Go.typeInfo, h1, hsz, run_sameAddr_other w hne2 ha hb]
  simp only [binOp]
  simp [Op.equal, Op.maxDepth, h 9999]
set_option maxRecDepth 100000 in
set_option maxHeartbeats 1000000 in
theorem set1_same {O : Nat → Prop} {w : World} {vb : Nat} {a : Ad} {o : Ow} (hv : w.cell? ⟨vb, 0, none⟩ = some (ptr a.ob)) (h : OwIn O w a o) :
    Calls Try.prog 50 #[ptr a.ob, .pointer (some ⟨vb, 0, none⟩)] w fun e w' => e = .returned (.bool false) ∧ Kept (fun _ => False) w w' := by
  have heq := ne_same w ⟨a.ob, 0, none⟩
  clear h
  go_enter Try.func50, Try.ntmps50
  go_wp2
  go_ret
  exact ⟨rfl, Kept.refl _ _⟩
set_option maxRecDepth 100000 in
set_option maxHeartbeats 1000000 in
theorem set1_other {O Q : Nat → Prop} {w : World} {vb : Nat} {a ax : Ad} {o x : Ow} (hv : w.cell? ⟨vb, 0, none⟩ = some (ptr a.ob)) (h : OwIn O w a o) (hx : OwIn Q w ax x) (hne : ax.ob ≠ a.ob) (hr : Ris x.lk) (hf : Fm x.lk) :
    Calls Try.prog 50 #[ptr ax.ob, .pointer (some ⟨vb, 0, none⟩)] w fun e w' => e = .returned (.bool (clash x.lk o.ws)) ∧ Kept (fun _ => False) w w' := by
  have heq := ne_other hne hx.obj h.obj
  obtain ⟨_, _, _, _, _, c5, _⟩ := cells7 h.obj
  have HX := hid hx; have HO := hid h; have HR := hid hr; have HF := hid hf
  clear h hx hr hf hne
  go_enter Try.func50, Try.ntmps50
  go_wp2_with fail
  refine (holds_any HX.out HR.out HF.out HO.out.ws).mono ?_
  rintro e w2 ⟨rfl, hk⟩
  have K2 := hid hk
  clear hk heq c5 hv
  go_wp2
  go_ret
  exact ⟨rfl, K2.out⟩
set_option maxRecDepth 100000 in
set_option maxHeartbeats 1000000 in
theorem set2_any {O Q : Nat → Prop} {w : World} {vb : Nat} {a ax : Ad} {o x : Ow} (hv : w.cell? ⟨vb, 0, none⟩ = some (ptr a.ob)) (h : OwIn O w a o) (hx : OwIn Q w ax x) :
    Calls Try.prog 51 #[ptr ax.ob, .pointer (some ⟨vb, 0, none⟩)] w fun e w' => e = .returned (.bool (clash x.ws o.ws)) ∧ Kept (fun _ => False) w w' := by
  obtain ⟨_, _, _, _, _, c5, _⟩ := cells7 h.obj
  have HX := hid hx; have HO := hid h
  clear h hx
  go_enter Try.func51, Try.ntmps51
  go_wp2_with fail
  refine (rivals_any HX.out HO.out.ws).mono ?_
  rintro e w2 ⟨rfl, hk⟩
  have K2 := hid hk
  clear hk c5 hv
  go_wp2
  go_ret
  exact ⟨rfl, K2.out⟩
/-! ### one owner has turned -/
section
variable {own : Nat → Option Tx} {B : Nat} {w w' : World} {tb mb : Nat} {L : List Ow} {A : Tx → Ad}
theorem nodup_inj {α : Type} {l : List α} (h : l.Nodup) {i j : Nat} {x : α} (hi : l[i]? = some x) (hj : l[j]? = some x) : i = j := by
  obtain ⟨l1, e1⟩ := List.getElem?_eq_some_iff.1 hi
  obtain ⟨l2, e2⟩ := List.getElem?_eq_some_iff.1 hj
  have hp := List.pairwise_iff_getElem.1 h
  rcases Nat.lt_trichotomy i j with h3 | h3 | h3
  · exact absurd (e1.trans e2.symm) (hp i j l1 l2 h3)
  · exact h3
  · exact absurd (e2.trans e1.symm) (hp j i l2 l1 h3)
theorem set_eq_map (hn : (L.map (·.tx)).Nodup) {i : Nat} {o o' : Ow} (hi : L[i]? = some o) : L.set i o' = L.map fun x => if x.tx = o.tx then o' else x := by
  apply List.ext_getElem?
  intro j
  rw [List.getElem?_set, List.getElem?_map]
  split
  · rename_i e; subst e
    have hk := (List.getElem?_eq_some_iff.1 hi).1
    simp [hk, hi]
    have := (List.getElem?_eq_some_iff.1 hi).2
    simp [this]
  · rename_i e
    cases hj : L[j]? with
    | none => rfl
    | some x =>
      simp only [Option.map_some]
      have : ¬ x.tx = o.tx := fun h => by
        have h1 : (L.map (·.tx))[i]? = some o.tx := by rw [List.getElem?_map, hi]; rfl
        have h2 : (L.map (·.tx))[j]? = some o.tx := by rw [List.getElem?_map, hj, ← h]; rfl
        exact e (nodup_inj hn h1 h2)
      rw [if_neg this]
theorem Tab.put (h : Tab own B w tb mb L A) {i : Nat} {o o' : Ow} (hi : L[i]? = some o) (hk : o'.key = o.key) {a' : Ad} (ha : a'.ob = (A o.tx).ob) (hin : OwIn (fun i => own i = some o.tx) w' a' o') (hok : OkO o') (k : Kept (fun i => own i = some o.tx) w w') :
    Tab own B w' tb mb (L.set i o') (fun t => if t = o.tx then a' else A t) := by
  have htx : o'.tx = o.tx := congrArg Prod.snd hk
  have hS := set_eq_map h.nodup (o' := o') hi
  have hob : ∀ t, (if t = o.tx then a' else A t).ob = (A t).ob := fun t => by
    split
    · rename_i e; rw [e]; exact ha
    · rfl
  refine ⟨(k.block _ (row_lt h.obj) (by rw [h.top.1]; simp)).trans h.obj, ?_, ?_, h.top, fun i hi => h.new i (Nat.le_trans k.size hi), h.low, ?_, ?_⟩
  · obtain ⟨M, hm, hp⟩ := h.map
    refine ⟨M.map fun x => if x.tx = o.tx then o' else x, ?_, by rw [hS]; exact hp.map _⟩
    rw [List.map_map]
    have e : M.map ((fun o_1 : Ow => (o_1.tx, ptr (if o_1.tx = o.tx then a' else A o_1.tx).ob)) ∘ fun x => if x.tx = o.tx then o' else x) = M.map fun o => (o.tx, ptr (A o.tx).ob) := by
      apply List.map_congr_left
      intro x _
      simp only [Function.comp, hob]
      split
      · rename_i e; rw [htx, e]
      · rfl
    rw [e]
    exact hm.of_block (k.block _ hm.lt (by rw [h.top.2]; simp))
  · intro x hx
    rw [hS] at hx
    obtain ⟨y, hy, rfl⟩ := List.mem_map.1 hx
    by_cases he : y.tx = o.tx
    · simp only [if_pos he, htx]
      exact hin
    · simp only [if_neg he]
      exact (h.ows y hy).kept k (fun i _ h1 h2 => he (Option.some.inj (h1.symm.trans h2)))
  · rw [hS, List.pairwise_map]
    have hkk : ∀ z : Ow, z ∈ L → (if z.tx = o.tx then o' else z).key = z.key := fun z hz => by
      split
      · rename_i e
        have h1 := findO_of h.nodup hz
        have h2 := findO_of h.nodup (List.mem_of_getElem? hi)
        rw [e, h2] at h1
        rw [hk, Option.some.inj h1]
      · rfl
    refine h.srt.imp_of_mem fun {x y} hx hy hxy => ?_
    rw [hkk x hx, hkk y hy]
    exact hxy
  · intro x hx
    rcases List.mem_or_eq_of_mem_set hx with hx | rfl
    · exact h.ok x hx
    · exact hok
end
end Go.Proofs.Ytpjhdpfaogdboaa
/- settle. -/
namespace Go.Proofs.Ytpjhdpfaogdboaa
set_option linter.unusedSimpArgs false
set_option linter.unusedVariables false
open Go.RowKit
def encT (x : Tx) : List Value := [.int .u8 x.1, .int .u32 x.2.1, .int .u32 x.2.2]
theorem infoT : (Try.prog.info? 32).map (fun i => (i.zero, i.size, i.bytes)) = some (some (txv (0, 0, 0)), 3, 12) := by kernel_rfl
theorem tx_src (w : World) (x1 x2 x3 : Int) {b : Nat} (hb : w.heap.size = b) : Src (w.alloc (.cells #[.int .u8 x1, .int .u32 x2, .int .u32 x3] 32)) 3 (.slice (some ⟨b, 0, none⟩) 1 1) 1 (encT (x1, x2, x3)) := by
  subst hb
  exact src_row rfl (fun j u hu => by rw [row_cell (row_new w _)]; simpa [encT] using hu) (by simp [encT, Value.oneCell'])
theorem conO' {F : Nat → Prop} {w : World} {a : Option Addr} {c N : Nat} {ws : List Ow} {f : Ow → Nat} (hN : ws.length = N) (hl : Lies F w 1 (.slice a N c) N (ptrs (ws.map f))) (g : Nat) (lb : Array Value) (eg : ∀ args w, (callFunc g args).run Try.prog w = .ok (.enter g args) w) (p : Ow → Bool)
    (hp : ∀ W x, x ∈ ws → Kept (fun _ => False) w W → Calls Try.prog g (#[ptr (f x)] ++ lb) W fun e w' => e = .returned (.bool (p x)) ∧ Kept (fun _ => False) W w') :
    Calls Try.prog 49 #[.slice a N c, .func (.func g) #[] lb] w fun e w' => e = .returned (.bool (ws.any p)) ∧ Kept (fun _ => False) w w' := by
  subst hN
  exact conO hl g lb eg p hp
theorem lies_pre1 {F : Nat → Prop} {w : World} {g o M c n : Nat} {l : List Nat} (h : Lies F w 1 (.slice (some ⟨g, o, none⟩) M c) M (ptrs l)) (hn : n ≤ M) : Lies F w 1 (.slice (some ⟨g, o, none⟩) n c) n (ptrs (l.take n)) := by
  obtain ⟨ao, c', e, h1, h2, h3, h4, h5, h6⟩ := h
  simp only [Value.slice.injEq] at e
  obtain ⟨rfl, _, rfl⟩ := e
  have e2 : ptrs (l.take n) = (ptrs l).take n := by simp [ptrs, List.map_take]
  rw [e2]
  refine ⟨_, c, rfl, by omega, h2, by rw [List.length_take]; omega, (fun h => nomatch h), fun hm => ?_, fun u hu => h6 u (List.mem_of_mem_take hu)⟩
  obtain ⟨g', off, e, hf, hl, hc⟩ := h5 (by omega)
  exact ⟨g', off, e, hf, hl, fun j u hu => hc j u (by rw [List.getElem?_take] at hu; split at hu; exact hu; cases hu)⟩
theorem obs_eq {A A' : Tx → Ad} {L L' : List Ow} (hk : L'.map (·.key) = L.map (·.key)) (ho : ∀ t, (A' t).ob = (A t).ob) : obs A' L' = obs A L := by
  have e : ∀ M : List Ow, ∀ A : Tx → Ad, obs A M = (M.map (·.key)).map fun k => (A k.2).ob := fun M A => by unfold obs; rw [List.map_map]; rfl
  rw [e, e, hk]
  exact List.map_congr_left fun k _ => ho k.2
theorem lke_lay {E : List (Int × Value)} {lk : List Wt} (h : LkE E lk) (hr : Ris lk) (v m : Int) (hm : 0 ≤ m) : LkE (lay E v (.int .u8 (max (mdOf lk v) m))) (addW lk (v, m)) := by
  refine ⟨fun k => ?_, ?_⟩
  · rw [look_lay, lkw_add _ _ hr]
    by_cases hk : k = v
    · rw [if_pos hk, if_pos hk]
      unfold mdOf
      cases hl : lkw lk v with
      | none => simp [hm]; omega
      | some x => simp
    · rw [if_neg hk, if_neg hk, h.1]
  · rw [lay_length, addW_len _ _ hr, h.2]
    have h1 := h.1 v
    have h2 := look_mem E v
    rw [h1] at h2
    cases hl : lkw lk v with
    | none =>
      rw [hl] at h2
      have : v ∉ E.map (·.1) := fun hm => by have := h2.2 hm; simp at this
      simp only [if_neg this]
      rfl
    | some x =>
      rw [hl] at h2
      have : v ∈ E.map (·.1) := h2.1 rfl
      simp only [if_pos this]
      rfl
section
variable {own : Nat → Option Tx} {B : Nat} {w : World} {tb mb : Nat} {L : List Ow} {A : Tx → Ad}
theorem Tab.apart (h : Tab own B w tb mb L A) {x o : Ow} (hx : x ∈ L) (ho : o ∈ L) (hne : x.tx ≠ o.tx) : (A x.tx).ob ≠ (A o.tx).ob := fun e => by
  have h1 := (h.ows x hx).own.1
  have h2 := (h.ows o ho).own.1
  rw [e] at h1
  exact hne (Option.some.inj (h1.symm.trans h2))
theorem Tab.uniq (h : Tab own B w tb mb L A) {x o : Ow} (hx : x ∈ L) (ho : o ∈ L) (he : x.tx = o.tx) : x = o := by
  have h1 := findO_of h.nodup hx
  have h2 := findO_of h.nodup ho
  rw [he, h2] at h1
  exact (Option.some.inj h1).symm
/-- the first question -/
theorem ask1 (h : Tab own B w tb mb L A) {o : Ow} (ho : o ∈ L) {vb : Nat} (hv : w.cell? ⟨vb, 0, none⟩ = some (ptr (A o.tx).ob)) {F : Nat → Prop} {a : Option Addr} {c N : Nat} (hN : L.length = N) (hl : Lies F w 1 (.slice a N c) N (ptrs (obs A L))) :
    Calls Try.prog 49 #[.slice a N c, .func (.func 50) #[] #[.pointer (some ⟨vb, 0, none⟩)]] w fun e w' => e = .returned (.bool (L.any fun x => decide (x.tx ≠ o.tx) && clash x.lk o.ws)) ∧ Kept (fun _ => False) w w' :=
  conO' (f := fun x => (A x.tx).ob) hN hl _ _ (enters_of Try.func50 (by kernel_rfl) rfl) _ fun W x hx k => by
    rw [app1]
    have hW := h.same k
    by_cases he : x.tx = o.tx
    · have : x = o := hW.uniq hx ho he
      subst this
      simp only [ne_eq, not_true, decide_false, Bool.false_and]
      exact set1_same (k.cell hv id) (hW.ows x hx)
    · simp only [ne_eq, he, not_false_iff, decide_true, Bool.true_and]
      exact set1_other (k.cell hv id) (hW.ows o ho) (hW.ows x hx) (hW.apart hx ho he) (hW.ok x hx).r (hW.ok x hx).f
/-- the second -/
theorem ask2 (h : Tab own B w tb mb L A) {o : Ow} (ho : o ∈ L) {vb : Nat} (hv : w.cell? ⟨vb, 0, none⟩ = some (ptr (A o.tx).ob)) {F : Nat → Prop} {g off c k N : Nat} (hk : k ≤ L.length) (hN : L.length = N) (hl : Lies F w 1 (.slice (some ⟨g, off, none⟩) N c) N (ptrs (obs A L))) :
    Calls Try.prog 49 #[.slice (some ⟨g, off, none⟩) k c, .func (.func 51) #[] #[.pointer (some ⟨vb, 0, none⟩)]] w fun e w' => e = .returned (.bool ((L.take k).any fun x => clash x.ws o.ws)) ∧ Kept (fun _ => False) w w' :=
  conO' (f := fun x => (A x.tx).ob) (ws := L.take k) (by rw [List.length_take]; omega) (by
    have := lies_pre1 hl (n := k) (by omega)
    rw [obs, ← List.map_take] at this
    exact this) _ _ (enters_of Try.func51 (by kernel_rfl) rfl) _ fun W x hx kk => by
    rw [app1]
    have hW := h.same kk
    exact set2_any (kk.cell hv id) (hW.ows o ho) (hW.ows x (List.mem_of_mem_take hx))
end
end Go.Proofs.Ytpjhdpfaogdboaa
