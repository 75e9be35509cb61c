/- LockShares: the walk. -/
import Derived.Test.YtpjhdpfaogdboaaV
import Derived.Test.YtpjhdpfaogdboaaW
import Derived.Test.YtpjhdpfaogdboaaArg
import Derived.Test.YtpjhdpfaogdboaaMin
namespace Go.Proofs.Ytpjhdpfaogdboaa
open Go.RowKit
def enc8 (x : Int) : List Value := [.int .u8 x]
theorem read8 {w : World} {es : List Value} (_hl : es.length = 1) (h : Rd Try.prog w 5 es) : ∃ x, es = enc8 x ∧ (0 ≤ x ∧ x ≤ 255) := by
  obtain ⟨x, rfl, hw⟩ := h.int Try.underlying5
  simp [Lit.wf, IntKind.min, IntKind.max, IntKind.signed, IntKind.bits] at hw
  exact ⟨x, rfl, by omega⟩
theorem enc8_at {F : Nat → Prop} {w : World} {a : Option Addr} {N c : Nat} {l : List Int} (h : Lies F w 1 (.slice a N c) N (l.flatMap enc8)) {k : Nat} {x : Int} (hx : l[k]? = some x) : ∃ g o, a = some ⟨g, o, none⟩ ∧ w.cell? ⟨g, o + k, none⟩ = some (.int .u8 x) := by
  have hl : (l.flatMap enc8).length = N * 1 := h.len
  rw [flat_len (f := enc8) (m := 1) (fun _ => rfl)] at hl
  have hk := (List.getElem?_eq_some_iff.1 hx).1
  obtain ⟨g, o, c', e, _, _, _, _, hc⟩ := h.cell (by omega)
  simp only [Value.slice.injEq] at e
  obtain ⟨rfl, _, rfl⟩ := e
  refine ⟨g, o, rfl, hc _ _ ?_⟩
  have := flat_at (f := enc8) (m := 1) (fun _ => rfl) l k 0 x hx (by decide)
  rw [Nat.mul_one, Nat.add_zero] at this
  exact this
set_option maxRecDepth 100000 in
set_option maxHeartbeats 4000000 in
theorem shares_walk (W : World) (args : Array Value) (h : RdAll Try.prog W Try.f3.params.toList args.toList) :
    Calls Try.prog 3 args W fun e W' => e = .returned (.bool true) ∧ Below W.heap.size W W' := by
  rw [Try.params3] at h
  obtain ⟨v0, v1, v2, rfl⟩ : ∃ v0 v1 v2, args = #[v0, v1, v2] := by
    rcases args with ⟨_ | ⟨v0, _ | ⟨v1, _ | ⟨v2, _ | ⟨v3, l⟩⟩⟩⟩⟩ <;> simp [RdAll] at h
    exact ⟨v0, v1, v2, rfl⟩
  obtain ⟨r0, r1, r2, _⟩ := h
  obtain ⟨v, rfl, wf0⟩ := r1.int Try.underlying5
  obtain ⟨al, rfl, wf1⟩ := r2.int Try.underlying5
  obtain ⟨a, len, cap, rfl, h1⟩ := r0.slice Try.underlying22
  obtain ⟨ages0, hlen, hl, _, hq⟩ := lies_of enc8 1 (fun _ => rfl) (by decide) (fun x u hu => by simp [enc8] at hu; subst hu; rfl) 0 Try.underlying22 (by kernel_rfl) (fun x => 0 ≤ x ∧ x ≤ 255) (fun es h1 h2 => read8 h1 h2) h1
  simp [Lit.wf, IntKind.min, IntKind.max, IntKind.signed, IntKind.bits] at wf0 wf1
  obtain ⟨v0, v1⟩ : 0 ≤ v ∧ v ≤ 255 := by omega
  obtain ⟨al0, al1⟩ : 0 ≤ al ∧ al ≤ 255 := by omega
  obtain ⟨vid, hid0⟩ : ∃ vid, 1 + v % 40 = vid := ⟨_, rfl⟩
  obtain ⟨id1, id2⟩ : 1 ≤ vid ∧ vid ≤ 40 := by omega
  have HLN := hid hlen; have HA := hid hl; have HQ := hid hq
  have hlb := lies_len hl
  clear h1 r0 r1 r2 wf0 wf1 hlen hl hq
  go_enter Try.func3, Try.ntmps3
  go_wp2_with fail
  refine (awake_any _).mono ?_; rintro e w1 ⟨rfl, hk1⟩
  have K1 := hid hk1
  clear hk1
  go_wp2_with fail
  refine (new_x w1).mono ?_
  rintro e w2 ⟨tb, rfl, ht, hle, hk⟩
  have hz : W.heap.size ≤ w1.heap.size := K1.out.size
  have T2 := hid (ht.mono (Q := fun i => i < W.heap.size) (fun i hi => by omega))
  have K2 := hid (show Kept (fun i => W.heap.size ≤ i) W w2 from (K1.out.trans hk).mono (fun _ _ h => h.elim))
  clear ht hle hk hz K1
  obtain ⟨n, hn1, hn2, hn3⟩ : ∃ n : Nat, (if (30 : Int) < (len : Int) then (30 : Int) else (len : Int)) = (n : Int) ∧ n ≤ len ∧ n ≤ 30 := ⟨min len 30, by split <;> omega, by omega, by omega⟩
  obtain ⟨hcap1, hcap2⟩ := cap_of HA.out
  unfold maxLen at hcap2
  have HMIN := hid hn1
  clear hn1
  obtain ⟨ages, hag⟩ : ∃ ages, ages0.take n = ages := ⟨_, rfl⟩
  have HAN := hid (show ages.length = n by rw [← hag, List.length_take, HLN.out]; omega)
  have HAQ := hid (show ∀ x ∈ ages, 0 ≤ x ∧ x ≤ 255 by rw [← hag]; exact fun x hx => HQ.out x (List.mem_of_mem_take hx))
  have HAT := hid (show ∀ k x, ages[k]? = some x → ages0[k]? = some x by
    rw [← hag]
    intro k x hx
    rw [List.getElem?_take] at hx
    split at hx
    · exact hx
    · cases hx)
  clear hag
  go_wp2_with (refine wpList_min rfl _ _ _ rfl len 30 n (by rfl) (by rfl) HMIN.out ?_)
  go_loopw [9, 32] (fun od i wr => ∃ (k m : Nat) (L : List Ow), od = .int .i64 m ∧ i = .int .i64 k ∧ k ≤ n ∧ m ≤ k ∧ olders (ages.take k) al = m ∧ Shs vid (ages.take k) L ∧ TabX (fun i => i < W.heap.size) wr tb L ∧ Kept (fun i => W.heap.size ≤ i) W wr) (fun _ i _ => n - (RowKit.intOf i).toNat)
  case atStart => exact ⟨0, 0, [], rfl, rfl, Nat.zero_le _, Nat.le_refl _, rfl, ⟨List.Perm.refl _⟩, T2.out, K2.out⟩
  case round =>
    rename World => wr
    clear T2 K2
    obtain ⟨k, m, L, rfl, rfl, hk, hmk, hol, hsh, ht, hkw⟩ := hrel
    have T := hid ht; have K := hid hkw; have HSH := hid hsh; have HOL := hid hol
    have HTL := hid (show (ages.take k).length = k by rw [List.length_take, HAN.out]; omega)
    clear ht hkw hsh hol
    by_cases hlt : k < n
    · have hltI : (k : Int) < (n : Int) := by omega
      obtain ⟨x, hx⟩ : ∃ x, ages[k]? = some x := ⟨_, List.getElem?_eq_getElem (by rw [HAN.out]; exact hlt)⟩
      obtain ⟨x0, x1⟩ := HAQ.out x (List.mem_of_getElem? hx)
      obtain ⟨g, o, rfl, c0⟩ := enc8_at (HA.out.kept K.out (fun g _ h => h)) (HAT.out k x hx)
      have HTK := hid (show ages.take (k + 1) = ages.take k ++ [x] by rw [List.take_add_one, hx]; rfl)
      obtain ⟨q1, q2, q3, q4⟩ := sh_step HSH.out (by rw [HTL.out]; omega) id1 id2 x
      rw [HTL.out, show tx0 (k + 1) = (0, 0, (k : Int) + 1) from rfl] at q1 q2 q3 q4
      rw [← HTK.out] at q4
      have Q1 := hid q1; have Q2 := hid q2; have Q3 := hid q3; have Q4 := hid q4
      have HO2 := hid (show olders (ages.take (k + 1)) al = m + if x ≤ al then 1 else 0 by rw [HTK.out, olders_snoc, HOL.out])
      clear hx q1 q2 q3 q4
      go_wp2_with fail
      refine (tx_any _ ((k : Int) + 1) (by omega) (by omega)).mono ?_
      rintro e w3 ⟨rfl, hk3⟩
      have T3 := hid (T.out.same hk3); have K3 := hid (K.out.trans (hk3.mono (fun _ _ h => h.elim)))
      clear hk3 c0 T K
      obtain ⟨yb, hyb⟩ : ∃ yb, w3.heap.size = yb := ⟨_, rfl⟩
      obtain ⟨w4, hw4⟩ : ∃ w4, w3.alloc (.cells #[.int .u32 vid, .int .u8 1] 36) = w4 := ⟨_, rfl⟩
      have k34 : Kept (fun _ => False) w3 w4 := by rw [← hw4]; exact (Kept.refl _ _).alloc _
      have T4 := hid (show TabX (fun i => i < W.heap.size ∨ i = yb) w4 tb L from T3.out.fresh k34 (fun _ _ h => h.elim) (fun i hi => hi.imp id (fun e => by rw [e, ← hyb, ← hw4]; exact ⟨Nat.le_refl _, by simp⟩)))
      have Y4 := hid (show Lies (fun i => ¬ (i < W.heap.size ∨ i = yb)) w4 2 (.slice (some ⟨yb, 0, none⟩) 1 1) 1 (wcells [(vid, 1)]) from by
        rw [← hw4, ← hyb]
        exact wlit w3 vid 1 (fun h => h (.inr rfl)))
      have K4 := hid (K3.out.trans (k34.mono (fun _ _ h => h.elim)))
      have hln := HSH.out.len
      have hcn := HSH.out.cnt
      rw [HTL.out] at hln hcn
      have q := ask_x T4.out (0, 0, (k : Int) + 1) x (ws := [(vid, 1)]) Y4.out (by omega) (by omega)
      rw [Q1.out] at q
      have AQ := hid q
      clear k34 T3 K3 q hln hcn
      go_wp2_with fail
      try rw [hw4]
      try rw [hyb]
      clear hw4 hyb
      refine (AQ.out).mono ?_
      rintro e w5 ⟨v1, v2, rfl, ⟨a1, c1, rfl, -, -⟩, ⟨a2, c2, rfl, -, -⟩, ht5, hk5⟩
      rw [Q2.out, Q3.out]
      have T5 := hid (ht5.mono (Q := fun i => i < W.heap.size) (fun i hi => .inl (.inl hi)))
      have K5 := hid (K4.out.trans (hk5.mono (fun i _ h => by omega)))
      clear ht5 hk5 T4 Y4 K4 AQ
      by_cases hle : x ≤ al
      · have ho := HO2.out
        rw [if_pos hle] at ho
        have HO3 := hid ho
        clear ho
        go_wp2
        go_roundw
        case rel => exact ⟨k + 1, m + 1, _, by go_num, by go_num, by omega, by omega, HO3.out, Q4.out, T5.out, K5.out⟩
        case measure => (simp only [RowKit.intOf]; omega)
      · have ho := HO2.out
        rw [if_neg hle] at ho
        have HO3 := hid ho
        clear ho
        go_wp2
        go_roundw
        case rel => exact ⟨k + 1, m, _, rfl, by go_num, by omega, by omega, HO3.out, Q4.out, T5.out, K5.out⟩
        case measure => (simp only [RowKit.intOf]; omega)
    · obtain rfl : k = n := by omega
      have hta : ages.take k = ages := by rw [← HAN.out]; exact List.take_length
      rw [hta] at HSH HOL
      obtain ⟨q1, q2, q3, q4⟩ := sh_alone HSH.out (by rw [HAN.out]; omega) id1 id2 al
      rw [show tx0 1000 = (0, 0, 1000) from rfl] at q1 q2 q3 q4
      rw [HOL.out] at q2 q3 q4
      rw [HAN.out] at q2
      obtain ⟨d, hd⟩ : ∃ d, k - m = d := ⟨_, rfl⟩
      have hkd : (k : Int) = (d : Int) + (m : Int) := by omega
      have hdm : ((d : Int) == (k : Int) - (m : Int)) = true := by simp; omega
      rw [hd] at q2
      have Q1 := hid q1; have Q2 := hid q2; have Q3 := hid q3; have Q4 := hid q4
      have HKD := hid hkd; have HDM := hid hdm
      clear q1 q2 q3 q4 hta hd hkd hdm HTL
      go_wp2_with fail
      refine (tx_any _ 1000 (by decide) (by decide)).mono ?_
      rintro e w3 ⟨rfl, hk3⟩
      have T3 := hid (T.out.same hk3); have K3 := hid (K.out.trans (hk3.mono (fun _ _ h => h.elim)))
      clear hk3 T K
      obtain ⟨yb, hyb⟩ : ∃ yb, w3.heap.size = yb := ⟨_, rfl⟩
      obtain ⟨w4, hw4⟩ : ∃ w4, w3.alloc (.cells #[.int .u32 vid, .int .u8 2] 36) = w4 := ⟨_, rfl⟩
      have k34 : Kept (fun _ => False) w3 w4 := by rw [← hw4]; exact (Kept.refl _ _).alloc _
      have T4 := hid (show TabX (fun i => i < W.heap.size ∨ i = yb) w4 tb L from T3.out.fresh k34 (fun _ _ h => h.elim) (fun i hi => hi.imp id (fun e => by rw [e, ← hyb, ← hw4]; exact ⟨Nat.le_refl _, by simp⟩)))
      have Y4 := hid (show Lies (fun i => ¬ (i < W.heap.size ∨ i = yb)) w4 2 (.slice (some ⟨yb, 0, none⟩) 1 1) 1 (wcells [(vid, 2)]) from by
        rw [← hw4, ← hyb]
        exact wlit w3 vid 2 (fun h => h (.inr rfl)))
      have K4 := hid (K3.out.trans (k34.mono (fun _ _ h => h.elim)))
      have hln := HSH.out.len
      have hcn := HSH.out.cnt
      rw [HAN.out] at hln hcn
      have q := ask_x T4.out (0, 0, 1000) al (ws := [(vid, 2)]) Y4.out (by omega) (by omega)
      rw [Q1.out] at q
      have AQ := hid q
      clear k34 T3 K3 q hln hcn
      go_wp2_with fail
      try rw [hw4]
      try rw [hyb]
      clear hw4 hyb
      refine (AQ.out).mono ?_
      rintro e w5 ⟨v1, v2, rfl, ⟨a1, c1, rfl, -, -⟩, ⟨a2, c2, rfl, -, -⟩, ht5, hk5⟩
      rw [Q2.out, Q3.out]
      have T5 := hid (ht5.mono (Q := fun i => i < W.heap.size) (fun i hi => .inl (.inl hi)))
      have K5 := hid (K4.out.trans (hk5.mono (fun i _ h => by omega)))
      have q := count_x T5.out (by rw [Q4.out]; omega)
      rw [Q4.out] at q
      have CQ := hid q
      clear ht5 hk5 T4 Y4 K4 AQ q
      have hdm := HDM.out
      by_cases hm : m = 0
      · subst hm
        have hdk : k = d := by have := HKD.out; omega
        clear hdm
        subst hdk
        have e1 : max 0 1 = 1 := rfl
        rw [if_pos rfl]
        rw [e1] at CQ
        clear e1
        go_wp2_with fail
        refine CQ.out.mono ?_
        rintro e w6 ⟨rfl, hk6⟩
        have K6 := hid (K5.out.trans (hk6.mono (fun _ _ h => h.elim)))
        clear hk6
        go_wp2
        go_ret
        exact ⟨rfl, K6.out.below (Nat.le_refl _) (fun _ h => h)⟩
      · rw [if_neg hm]
        have e1 : max m 1 = m := by omega
        rw [e1] at CQ
        have hm1 : 1 ≤ m := by omega
        have hm2 : ((m : Int) == 0) = false := by simp; omega
        clear e1 hm
        go_wp2_with fail
        refine CQ.out.mono ?_
        rintro e w6 ⟨rfl, hk6⟩
        have K6 := hid (K5.out.trans (hk6.mono (fun _ _ h => h.elim)))
        clear hk6
        go_wp2
        go_ret
        exact ⟨ret_bool (by rw [show max (m : Int) 1 = m by omega]; simp), K6.out.below (Nat.le_refl _) (fun _ h => h)⟩
end Go.Proofs.Ytpjhdpfaogdboaa
