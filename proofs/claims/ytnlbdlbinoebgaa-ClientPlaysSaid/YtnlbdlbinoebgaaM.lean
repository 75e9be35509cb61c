/- Lists of structs that are alike. -/
import Derived.Test.YtnlbdlbinoebgaaL
namespace Go.Proofs.Ytnlbdlbinoebgaa
open Go.RowKit
theorem fields_of {P : Program} {t : TypeId} {fs : Array Field} (h : P.underlying t = some (.struct fs)) : P.fieldsOf t = fs := by unfold Program.fieldsOf; rw [h]
theorem eq_val (d : Nat) (k n : Int) (s : ByteArray) (w : World) : (Op.equalIn (d + 2) 75 (.agg #[.int .u8 k, .int .i64 n, .string s]) (.agg #[.int .u8 k, .int .i64 n, .string s])).run Try.prog w = .ok true w := by
  have u8 := Try.underlying5
  have i64 := Try.underlying2
  have st := Try.underlying9
  have hf := fields_of Try.underlying75
  have e : (Op.equalIn (d + 2) 75 (.agg #[.int .u8 k, .int .i64 n, .string s]) (.agg #[.int .u8 k, .int .i64 n, .string s])).run Try.prog w = _ := run_equalIn_struct w (d + 1) 75 _ _ (by rw [hf]; exact Try.underlying75) (by kernel_rfl)
  rw [e, hf]
  simp [Op.eqFields, go_sem, run_equalIn_int w d _ _ _ _ _ u8, run_equalIn_int w d _ _ _ _ _ i64, run_equalIn_string w d _ _ _ st]
theorem eq_op (x : O) (w : World) : (Op.equalIn 10000 81 (.agg (ocell x).toArray) (.agg (ocell x).toArray)).run Try.prog w = .ok true w := by
  have u8 := Try.underlying5
  have u32 := Try.underlying28
  have hf := fields_of Try.underlying81
  unfold ocell
  have e : (Op.equalIn 10000 81 (.agg #[.int .u8 x.kd, .int .u32 x.a, .int .u32 x.b, .int .u8 x.key, .int .u8 x.k, .int .i64 x.n, .string x.s]) (.agg #[.int .u8 x.kd, .int .u32 x.a, .int .u32 x.b, .int .u8 x.key, .int .u8 x.k, .int .i64 x.n, .string x.s])).run Try.prog w = _ := run_equalIn_struct w 9999 81 _ _ (by rw [hf]; exact Try.underlying81) (by kernel_rfl)
  have hv := eq_val 9997 x.k x.n x.s w
  rw [e, hf]
  simp [Op.eqFields, go_sem, run_equalIn_int w 9998 _ _ _ _ _ u8, run_equalIn_int w 9998 _ _ _ _ _ u32, hv]
theorem eq_prop (key k n : Int) (s : ByteArray) (w : World) : (Op.equalIn 10000 105 (.agg #[.int .u8 key, .int .u8 k, .int .i64 n, .string s]) (.agg #[.int .u8 key, .int .u8 k, .int .i64 n, .string s])).run Try.prog w = .ok true w := by
  have u8 := Try.underlying5
  have hf := fields_of Try.underlying105
  have e : (Op.equalIn 10000 105 (.agg #[.int .u8 key, .int .u8 k, .int .i64 n, .string s]) (.agg #[.int .u8 key, .int .u8 k, .int .i64 n, .string s])).run Try.prog w = _ := run_equalIn_struct w 9999 105 _ _ (by rw [hf]; exact Try.underlying105) (by kernel_rfl)
  have hv := eq_val 9997 k n s w
  rw [e, hf]
  simp [Op.eqFields, go_sem, run_equalIn_int w 9998 _ _ _ _ _ u8, hv]
theorem eq_half (key k n : Int) (s : ByteArray) (w : World) : (Op.equalIn 10000 107 (.agg #[.int .u32 key, .int .u8 k, .int .i64 n, .string s]) (.agg #[.int .u32 key, .int .u8 k, .int .i64 n, .string s])).run Try.prog w = .ok true w := by
  have u32 := Try.underlying28
  have hf := fields_of Try.underlying107
  have e : (Op.equalIn 10000 107 (.agg #[.int .u32 key, .int .u8 k, .int .i64 n, .string s]) (.agg #[.int .u32 key, .int .u8 k, .int .i64 n, .string s])).run Try.prog w = _ := run_equalIn_struct w 9999 107 _ _ (by rw [hf]; exact Try.underlying107) (by kernel_rfl)
  have hv := eq_val 9997 k n s w
  rw [e, hf]
  simp [Op.eqFields, go_sem, run_equalIn_int w 9998 _ _ _ _ _ u32, hv]
theorem eq_want (a b : Int) (w : World) : (Op.equalIn 10000 93 (.agg #[.int .u32 a, .int .u8 b]) (.agg #[.int .u32 a, .int .u8 b])).run Try.prog w = .ok true w := by
  have u8 := Try.underlying5
  have u32 := Try.underlying28
  have hf := fields_of Try.underlying93
  have e : (Op.equalIn 10000 93 (.agg #[.int .u32 a, .int .u8 b]) (.agg #[.int .u32 a, .int .u8 b])).run Try.prog w = _ := run_equalIn_struct w 9999 93 _ _ (by rw [hf]; exact Try.underlying93) (by kernel_rfl)
  rw [e, hf]
  simp [Op.eqFields, go_sem, run_equalIn_int w 9998 _ _ _ _ _ u8, run_equalIn_int w 9998 _ _ _ _ _ u32]
theorem eq_entry (a b c : Int) (w : World) : (Op.equalIn 10000 96 (.agg #[.int .u32 a, .int .u8 b, .int .u32 c]) (.agg #[.int .u32 a, .int .u8 b, .int .u32 c])).run Try.prog w = .ok true w := by
  have u8 := Try.underlying5
  have u32 := Try.underlying28
  have hf := fields_of Try.underlying96
  have e : (Op.equalIn 10000 96 (.agg #[.int .u32 a, .int .u8 b, .int .u32 c]) (.agg #[.int .u32 a, .int .u8 b, .int .u32 c])).run Try.prog w = _ := run_equalIn_struct w 9999 96 _ _ (by rw [hf]; exact Try.underlying96) (by kernel_rfl)
  rw [e, hf]
  simp [Op.eqFields, go_sem, run_equalIn_int w 9998 _ _ _ _ _ u8, run_equalIn_int w 9998 _ _ _ _ _ u32]
theorem eq_tx (a b c : Int) (w : World) : (Op.equalIn 10000 33 (.agg #[.int .u8 a, .int .u32 b, .int .u32 c]) (.agg #[.int .u8 a, .int .u32 b, .int .u32 c])).run Try.prog w = .ok true w := by
  have u8 := Try.underlying5
  have u32 := Try.underlying28
  have hf := fields_of Try.underlying33
  have e : (Op.equalIn 10000 33 (.agg #[.int .u8 a, .int .u32 b, .int .u32 c]) (.agg #[.int .u8 a, .int .u32 b, .int .u32 c])).run Try.prog w = _ := run_equalIn_struct w 9999 33 _ _ (by rw [hf]; exact Try.underlying33) (by kernel_rfl)
  rw [e, hf]
  simp [Op.eqFields, go_sem, run_equalIn_int w 9998 _ _ _ _ _ u8, run_equalIn_int w 9998 _ _ _ _ _ u32]
theorem kdr (w : World) (q : Nat) : Kept (fun _ => False) w (w.drewN q) := ⟨rfl, rfl, rfl, Nat.le_refl _, fun _ _ _ => rfl⟩
theorem cap_of {F : Nat → Prop} {w : World} {size : Nat} {a : Option Addr} {N c : Nat} {l : List Value} (h : Lies F w size (.slice a N c) N l) : N ≤ c ∧ c ≤ 9223372036854775807 := by
  obtain ⟨ao, c', e, h1, h2, _⟩ := h
  simp only [Value.slice.injEq] at e
  obtain ⟨_, _, rfl⟩ := e
  unfold maxLen at h2
  exact ⟨h1, by omega⟩
/-- the cells of the k-th element -/
theorem Lies.el {α : Type} {enc : α → List Value} {n : Nat} (hn : ∀ x, (enc x).length = n) {F : Nat → Prop} {w w' : World} {a : Option Addr} {N q : Nat} {L : List α} (h : Lies F w n (.slice a N q) N (L.flatMap enc)) (hL : L.length = N) (kp : Kept (fun _ => False) w w') {k : Nat} {x : α} (hx : L[k]? = some x) :
    ∃ g o, a = some ⟨g, o, none⟩ ∧ ∀ j u, (enc x)[j]? = some u → w'.cell? ⟨g, o + k * n + j, none⟩ = some u := by
  have hk := (List.getElem?_eq_some_iff.1 hx).1
  obtain ⟨g, o, q', e, _, _, _, _, hc⟩ := h.cell (by omega)
  simp only [Value.slice.injEq] at e
  obtain ⟨rfl, _, _⟩ := e
  refine ⟨g, o, rfl, fun j u hu => ?_⟩
  have hj : j < n := by have := (List.getElem?_eq_some_iff.1 hu).1; rw [hn] at this; exact this
  have h1 := flat_at enc n hn L k x j hx hj
  rw [hu] at h1
  rw [Nat.add_assoc]
  exact kp.cell (hc _ _ h1) (fun h => h)
abbrev Pr := Int × Int × Int × ByteArray
def prC (x : Pr) : List Value := [.int .u8 x.1, .int .u8 x.2.1, .int .i64 x.2.2.1, .string x.2.2.2]
def haC (x : Pr) : List Value := [.int .u32 x.1, .int .u8 x.2.1, .int .i64 x.2.2.1, .string x.2.2.2]
def wtC (x : Int × Int) : List Value := [.int .u32 x.1, .int .u8 x.2]
def enC (x : Int × Int × Int) : List Value := [.int .u32 x.1, .int .u8 x.2.1, .int .u32 x.2.2]
def nuC (x : Int) : List Value := [.int .u32 x]
-- a round of a comparing loop: $1 how many, $2 the list, $3 $4 the two facts Lies, $5 the fact of the length, $6 the fact of the encoding's length
set_option maxRecDepth 100000 in
set_option maxHeartbeats 1000000 in
theorem same_vals {F F' : Nat → Prop} {w : World} {a b : Option Addr} {N c d : Nat} {L : List Val} (ha : Lies F w 3 (.slice a N c) N (L.flatMap vcell)) (hb : Lies F' w 3 (.slice b N d) N (L.flatMap vcell)) (hLN : L.length = N) :
    Calls Try.prog 36 #[.slice a N c, .slice b N d] w fun e w' => e = .returned (.bool true) ∧ Kept (fun _ => False) w w' := by
  obtain ⟨m1, m2⟩ := cap_of ha
  obtain ⟨m3, m4⟩ := cap_of hb
  have HA := hid ha; have HB := hid hb; have HN := hid hLN
  clear ha hb hLN
  go_enter Try.func36, Try.ntmps36
  go_wp2_with fail
  go_loopw [13] (fun i wr => ∃ k : Nat, k ≤ N ∧ i = .int .i64 k ∧ Kept (fun _ => False) w wr) (fun i _ => N - (RowKit.intOf i).toNat)
  case atStart => exact ⟨0, Nat.zero_le _, rfl, Kept.refl _ _⟩
  case round =>
    rename World => wr
    obtain ⟨k, hk, rfl, hkp⟩ := hrel
    have KR := hid hkp
    clear hkp
    by_cases hlt : k < N
    · have hltI : (k : Int) < (N : Int) := by omega
      obtain ⟨x, hx⟩ : ∃ x, L[k]? = some x := ⟨_, List.getElem?_eq_getElem (by have := HN.out; omega)⟩
      obtain ⟨g1, o1, rfl, f1⟩ := Lies.el (enc := vcell) (fun _ => rfl) HA.out HN.out KR.out hx
      obtain ⟨g2, o2, rfl, f2⟩ := Lies.el (enc := vcell) (fun _ => rfl) HB.out HN.out KR.out hx
      clear hx
      obtain ⟨x1, x2, x3⟩ := x
      have p0 := f1 0 _ rfl; have p1 := f1 1 _ rfl; have p2 := f1 2 _ rfl; have r0 := f2 0 _ rfl; have r1 := f2 1 _ rfl; have r2 := f2 2 _ rfl
      simp only [Nat.add_zero] at p0 p1 p2 r0 r1 r2
      have hq := eq_val 9998 x1 x2 x3
      clear f1 f2
      go_wp2_with fail
      go_quiet (fail)
      have K1 := hid (KR.out.trans (kdr wr nq))
      go_wp2
      go_roundw
      case rel => exact ⟨k + 1, by omega, by go_num, K1.out⟩
      case measure => (simp only [RowKit.intOf]; omega)
    · go_wp2
      go_ret
      exact ⟨rfl, KR.out⟩
set_option maxRecDepth 100000 in
set_option maxHeartbeats 1000000 in
theorem same_nums {F F' : Nat → Prop} {w : World} {a b : Option Addr} {N c d : Nat} {L : List Int} (ha : Lies F w 1 (.slice a N c) N (L.flatMap nuC)) (hb : Lies F' w 1 (.slice b N d) N (L.flatMap nuC)) (hLN : L.length = N) :
    Calls Try.prog 37 #[.slice a N c, .slice b N d] w fun e w' => e = .returned (.bool true) ∧ Kept (fun _ => False) w w' := by
  obtain ⟨m1, m2⟩ := cap_of ha
  obtain ⟨m3, m4⟩ := cap_of hb
  have HA := hid ha; have HB := hid hb; have HN := hid hLN
  clear ha hb hLN
  go_enter Try.func37, Try.ntmps37
  go_wp2_with fail
  go_loopw [13] (fun i wr => ∃ k : Nat, k ≤ N ∧ i = .int .i64 k ∧ Kept (fun _ => False) w wr) (fun i _ => N - (RowKit.intOf i).toNat)
  case atStart => exact ⟨0, Nat.zero_le _, rfl, Kept.refl _ _⟩
  case round =>
    rename World => wr
    obtain ⟨k, hk, rfl, hkp⟩ := hrel
    have KR := hid hkp
    clear hkp
    by_cases hlt : k < N
    · have hltI : (k : Int) < (N : Int) := by omega
      obtain ⟨x, hx⟩ : ∃ x, L[k]? = some x := ⟨_, List.getElem?_eq_getElem (by have := HN.out; omega)⟩
      obtain ⟨g1, o1, rfl, f1⟩ := Lies.el (enc := nuC) (fun _ => rfl) HA.out HN.out KR.out hx
      obtain ⟨g2, o2, rfl, f2⟩ := Lies.el (enc := nuC) (fun _ => rfl) HB.out HN.out KR.out hx
      clear hx
      have p0 := f1 0 _ rfl; have r0 := f2 0 _ rfl
      simp only [Nat.add_zero, Nat.mul_one] at p0 r0
      clear f1 f2
      go_wp2_with fail
      go_quiet (fail)
      have K1 := hid (KR.out.trans (kdr wr nq))
      go_wp2
      go_roundw
      case rel => exact ⟨k + 1, by omega, by go_num, K1.out⟩
      case measure => (simp only [RowKit.intOf]; omega)
    · go_wp2
      go_ret
      exact ⟨rfl, KR.out⟩
end Go.Proofs.Ytnlbdlbinoebgaa
