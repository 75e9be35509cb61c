/- The document's number. -/
import Derived.Test.YtnicaiofjficnaaDoorT
namespace Go.Proofs.YtnicaiofjficnaaDoor
open Go.RowKit
def numR (m : Bool) (r : List UInt8) : Option Int :=
  if 1 ≤ r.length ∧ r.length ≤ 19 ∧ ¬ (r.head?.map (·.toNat) = some 48 ∧ (1 < r.length ∨ m = true)) ∧ (∀ c ∈ r, dig c) then
    if m then (if valF 0 r ≤ 9223372036854775808 then some (-(valF 0 r : Int)) else none) else (if valF 0 r < 9223372036854775808 then some (valF 0 r : Int) else none)
  else none
theorem numOk_minus {l : List UInt8} (h : l.head?.map (·.toNat) = some 45) : numOk l = numR true l.tail := by
  unfold numOk numR; simp only [h, if_true]
theorem numOk_plus {l : List UInt8} (h : ¬ l.head?.map (·.toNat) = some 45) : numOk l = numR false l := by
  unfold numOk numR; simp only [h, if_false, Bool.false_eq_true]
theorem numR_short {m : Bool} {r : List UInt8} (h : r.length < 1) : numR m r = none := by unfold numR; rw [if_neg (fun h' => by omega)]
theorem numR_long {m : Bool} {r : List UInt8} (h : 19 < r.length) : numR m r = none := by unfold numR; rw [if_neg (fun h' => by omega)]
theorem numR_lead {m : Bool} {r : List UInt8} (h : r.head?.map (·.toNat) = some 48 ∧ (1 < r.length ∨ m = true)) : numR m r = none := by unfold numR; rw [if_neg (fun h' => h'.2.2.1 h)]
theorem numR_bad {m : Bool} {r : List UInt8} {c : UInt8} (h : c ∈ r) (hc : ¬ dig c) : numR m r = none := by unfold numR; rw [if_neg (fun h' => hc (h'.2.2.2 c h))]
def numV (m : Bool) (u : Nat) : Option Int := if m then (if u ≤ 9223372036854775808 then some (-(u : Int)) else none) else (if u < 9223372036854775808 then some (u : Int) else none)
theorem numR_ok {m : Bool} {r : List UInt8} (h1 : 1 ≤ r.length) (h2 : r.length ≤ 19) (h3 : ¬ (r.head?.map (·.toNat) = some 48 ∧ (1 < r.length ∨ m = true))) (h4 : ∀ c ∈ r, dig c) : numR m r = numV m (valF 0 r) := by
  unfold numR numV; rw [if_pos ⟨h1, h2, h3, h4⟩]
theorem ret_num {x : Int} {b : Bool} {o : Option Int} (h : o.isSome = b) : Ending.returned (.tuple #[.int .i64 x, .bool b]) = .returned (.tuple #[.int .i64 x, .bool o.isSome]) := by rw [h]
theorem size_len (s : ByteArray) : s.data.toList.length = s.size := by rw [Array.length_toList]; rfl
theorem head_at {s : ByteArray} (h : 0 < s.size) : s.data.toList.head?.map (·.toNat) = some (s[0]'h).toNat := by rw [bytes_head h]; rfl
theorem mem_at {s : ByteArray} {k : Nat} (h : k < s.size) : (s[k]'h) ∈ s.data.toList := by rw [ByteArray.getElem_eq_getElem_data]; simp
theorem take_at {s : ByteArray} {k : Nat} (h : k < s.size) : s.data.toList.take (k + 1) = s.data.toList.take k ++ [s[k]'h] := by
  rw [List.take_add_one, ByteArray.getElem_eq_getElem_data]
  congr 1
  rw [Array.getElem?_toList, Array.getElem?_eq_getElem h]; rfl
set_option maxHeartbeats 4000000 in
set_option maxRecDepth 100000 in
theorem number_any (s : ByteArray) (hs : s.size ≤ 140737488355327) (w : World) : Calls Tryd.prog 26 #[.string s] w fun e w' => ∃ x, e = .returned (.tuple #[.int .i64 x, .bool (numOk s.data.toList).isSome]) ∧ (∀ v, numOk s.data.toList = some v → x = v) ∧ w = w' := by
  go_enter Tryd.func26, Tryd.ntmps26
  by_cases h0 : 0 < s.size
  · have h0I : (0 : Int) < (s.size : Int) := by omega
    obtain ⟨x, hx⟩ : ∃ x, (s[0]'h0).toNat = x := ⟨_, rfl⟩
    by_cases hm : x = 45
    · have hmb : ((x : Int) == 45) = true := by simp; omega
      have h1I : (1 : Int) ≤ (s.size : Int) := by omega
      have HNR := hid (numOk_minus (l := s.data.toList) (by rw [head_at h0, hx, hm]))
      clear hm
      obtain ⟨R, hR⟩ : ∃ R, s.extract 1 s.size = R := ⟨_, rfl⟩
      have hRl : R.data.toList = s.data.toList.tail := by
        rw [← hR, ByteArray.data_extract, Array.toList_extract, List.extract_eq_take_drop, List.take_of_length_le (by rw [List.length_drop, size_len]; exact Nat.le_refl _), List.drop_one]
      rw [← hRl] at HNR
      clear hRl
      have HSL := hid (size_len R)
      by_cases h1 : R.size < 1
      · have h1I : (R.size : Int) < 1 := by omega
        have HN2 := hid (numR_short (m := true) (by rw [HSL.out]; exact h1))
        clear h1
        go_wp2_with fail
        go_returns
        exact ⟨0, ret_num (by rw [HNR.out, HN2.out]; rfl), (fun v hv => by rw [HNR.out, HN2.out] at hv; cases hv), rfl⟩
      · have h1I : ¬ (R.size : Int) < 1 := by omega
        by_cases h19 : 19 < R.size
        · have h19I : (19 : Int) < (R.size : Int) := by omega
          have HN2 := hid (numR_long (m := true) (by rw [HSL.out]; exact h19))
          clear h1 h19
          go_wp2_with fail
          go_returns
          exact ⟨0, ret_num (by rw [HNR.out, HN2.out]; rfl), (fun v hv => by rw [HNR.out, HN2.out] at hv; cases hv), rfl⟩
        · have h19I : ¬ (19 : Int) < (R.size : Int) := by omega
          have h0N : 0 < R.size := by omega
          have h0I2 : (0 : Int) < (R.size : Int) := by omega
          obtain ⟨c0, hc0⟩ : ∃ c, (R[0]'h0N).toNat = c := ⟨_, rfl⟩
          try (have hxc := hc0.symm.trans hx; subst hxc)
          have HH := hid ((head_at h0N).trans (by rw [hc0]))
          by_cases hlead : c0 = 48 ∧ (1 < R.size ∨ true = true)
          · have HN2 := hid (numR_lead (m := true) (r := R.data.toList) ⟨by rw [HH.out, hlead.1], by rw [HSL.out]; exact hlead.2⟩)
            have hb48 : ((c0 : Int) == 48) = true := by have := hlead.1; simp; omega
            rcases hlead.2 with hl | hl
            · have hlI : (1 : Int) < (R.size : Int) := by omega
              clear h1 h19 hlead hl
              go_wp2_with fail
              go_returns
              exact ⟨0, ret_num (by rw [HNR.out, HN2.out]; rfl), (fun v hv => by rw [HNR.out, HN2.out] at hv; cases hv), rfl⟩
            · first
                | exact absurd hl (by decide)
                | (by_cases hl2 : 1 < R.size
                   · have hlI : (1 : Int) < (R.size : Int) := by omega
                     clear h1 h19 hlead hl hl2
                     go_wp2_with fail
                     go_returns
                     exact ⟨0, ret_num (by rw [HNR.out, HN2.out]; rfl), (fun v hv => by rw [HNR.out, HN2.out] at hv; cases hv), rfl⟩
                   · have hlI : ¬ (1 : Int) < (R.size : Int) := by omega
                     clear h1 h19 hlead hl hl2
                     go_wp2_with fail
                     go_returns
                     exact ⟨0, ret_num (by rw [HNR.out, HN2.out]; rfl), (fun v hv => by rw [HNR.out, HN2.out] at hv; cases hv), rfl⟩)
          · have HNL := hid (show ¬ (R.data.toList.head?.map (·.toNat) = some 48 ∧ (1 < R.data.toList.length ∨ true = true)) from fun h => hlead ⟨by have := HH.out; rw [this] at h; simpa using h.1, by rw [← HSL.out]; exact h.2⟩)
            have HS1 := hid (show 1 ≤ R.data.toList.length by rw [HSL.out]; omega); have HS2 := hid (show R.data.toList.length ≤ 19 by rw [HSL.out]; omega)
            have HOK3 := hid (fun (hd : ∀ c ∈ R.data.toList, dig c) => numR_ok (m := true) HS1.out HS2.out HNL.out hd)
            clear HNL
            by_cases h48 : c0 = 48
            · exact absurd ⟨h48, Or.inr rfl⟩ hlead
            · have hb48 : ((c0 : Int) == 48) = false := by simp; omega
              clear h1 hlead h48
              go_wp2_with fail
              go_loopw [5, 6] (fun nv iv wr => ∃ k : Nat, k ≤ R.size ∧ iv = .int .i64 k ∧ (∀ c ∈ R.data.toList.take k, dig c) ∧ nv = .int .u64 ((valF 0 (R.data.toList.take k) : Nat) : Int) ∧ w = wr) (fun _ iv _ => R.size - (RowKit.intOf iv).toNat)
              case atStart => exact ⟨0, Nat.zero_le _, rfl, (fun c hc => by simp at hc), rfl, rfl⟩
              case round =>
                obtain ⟨k, hk, rfl, hd, rfl, rfl⟩ := hrel
                have HD := hid hd
                clear hd
                by_cases hlt : k < R.size
                · have hltI : (k : Int) < (R.size : Int) := by omega
                  have HLT := hid hlt
                  obtain ⟨c, hc⟩ : ∃ c, (R[k]'hlt).toNat = c := ⟨_, rfl⟩
                  have HC := hid hc
                  have HTK := hid (take_at hlt)
                  have hvl := val_lt (R.data.toList.take k) HD.out 0
                  have hln : (R.data.toList.take k).length = k := by rw [List.length_take, HSL.out]; omega
                  rw [hln] at hvl
                  obtain ⟨u, hu⟩ : ∃ u, valF 0 (R.data.toList.take k) = u := ⟨_, rfl⟩
                  rw [hu] at hvl ⊢
                  have HU := hid hu
                  have hp10 : 10 ^ k ≤ 10 ^ 18 := Nat.pow_le_pow_right (by decide) (by omega)
                  have hub : u < 1000000000000000000 := by
                    have e18 : (10 : Nat) ^ 18 = 1000000000000000000 := by decide
                    rw [e18] at hp10
                    omega
                  have hc256 : c < 256 := by rw [← hc]; exact UInt8.toNat_lt _
                  clear hvl hln hu hp10
                  by_cases hdg : 48 ≤ c ∧ c ≤ 57
                  · have hn1 : ¬ (c : Int) < 48 := by omega
                    have hn2 : ¬ (57 : Int) < (c : Int) := by omega
                    obtain ⟨d, hdd⟩ : ∃ d, c - 48 = d := ⟨_, rfl⟩
                    have hw1 : IntKind.u64.wrap (10 * (u : Int)) = ((10 * u : Nat) : Int) := by simp [IntKind.wrap, IntKind.bits, IntKind.signed]; omega
                    have hw2 : IntKind.u8.wrap ((c : Int) - 48) = (d : Int) := by simp [IntKind.wrap, IntKind.bits, IntKind.signed]; omega
                    have hw3 : IntKind.u64.wrap (d : Int) = (d : Int) := by simp [IntKind.wrap, IntKind.bits, IntKind.signed]; omega
                    have hw4 : IntKind.u64.wrap (((10 * u : Nat) : Int) + (d : Int)) = ((10 * u + d : Nat) : Int) := by simp [IntKind.wrap, IntKind.bits, IntKind.signed]; omega
                    have hw5 : IntKind.u64.wrap (10 * (u : Int) + (d : Int)) = ((10 * u + d : Nat) : Int) := by simp [IntKind.wrap, IntKind.bits, IntKind.signed]; omega
                    have HDD := hid hdd
                    clear hdd
                    go_wp2
                    go_roundw
                    case rel =>
                      refine ⟨k + 1, by have := HLT.out; omega, by go_num, fun x hx => ?_, ?_, (by first | rfl | trivial)⟩
                      · rw [HTK.out] at hx
                        rcases List.mem_append.1 hx with hx | hx
                        · exact HD.out x hx
                        · rw [List.mem_singleton] at hx; subst hx; unfold dig; rw [HC.out]; exact hdg
                      · rw [HTK.out, valF_snoc, HU.out, HC.out, HDD.out]; try rfl
                    case measure => (have := HLT.out; simp only [RowKit.intOf]; omega)
                  · have HN2 := hid (numR_bad (m := true) (mem_at hlt) (fun h => hdg (by unfold dig at h; rw [hc] at h; exact h)))
                    by_cases hc48 : c < 48
                    · have hn1 : (c : Int) < 48 := by omega
                      clear hdg hc48
                      go_wp2_with fail
                      go_returns
                      exact ⟨0, ret_num (by rw [HNR.out, HN2.out]; rfl), (fun v hv => by rw [HNR.out, HN2.out] at hv; cases hv), rfl⟩
                    · have hn1 : ¬ (c : Int) < 48 := by omega
                      have hn2 : (57 : Int) < (c : Int) := by omega
                      clear hdg hc48
                      go_wp2_with fail
                      go_returns
                      exact ⟨0, ret_num (by rw [HNR.out, HN2.out]; rfl), (fun v hv => by rw [HNR.out, HN2.out] at hv; cases hv), rfl⟩
                · obtain rfl : k = R.size := by omega
                  have htk : R.data.toList.take R.size = R.data.toList := List.take_of_length_le (by rw [HSL.out]; exact Nat.le_refl _)
                  rw [htk] at HD ⊢
                  have HN3 := hid (HOK3.out HD.out)
                  have hvl := val_lt R.data.toList HD.out 0
                  have hp10 : 10 ^ R.data.toList.length ≤ 10 ^ 19 := Nat.pow_le_pow_right (by decide) HS2.out
                  obtain ⟨u, hu⟩ : ∃ u, valF 0 R.data.toList = u := ⟨_, rfl⟩
                  rw [hu] at hvl HN3 ⊢
                  have hub : u < 10000000000000000000 := by
                    have e19 : (10 : Nat) ^ 19 = 10000000000000000000 := by decide
                    rw [e19] at hp10
                    omega
                  clear hvl hp10 hu htk
                  by_cases hz : u ≤ 9223372036854775808
                  · have HB := hid (show (numOk s.data.toList).isSome = decide ((u : Int) ≤ 9223372036854775808) by rw [HNR.out, HN3.out]; simp [numV, hz]; omega)
                    have HV := hid (show ∀ v, numOk s.data.toList = some v → IntKind.i64.wrap (-IntKind.i64.wrap (u : Int)) = v from fun v hv => by rw [HNR.out, HN3.out] at hv; simp [numV, hz] at hv; rw [← hv]; simp [IntKind.wrap, IntKind.bits, IntKind.signed]; omega)
                    clear hz
                    go_wp2_with fail
                    go_returns
                    exact ⟨_, ret_num HB.out, (fun v hv => by have h := HV.out v hv; simp only [IntWalk.i64_left] at h; exact h), rfl⟩
                  · have HB := hid (show (numOk s.data.toList).isSome = decide ((u : Int) ≤ 9223372036854775808) by rw [HNR.out, HN3.out]; simp [numV, hz]; omega)
                    have HV := hid (show ∀ v, numOk s.data.toList = some v → IntKind.i64.wrap (-IntKind.i64.wrap (u : Int)) = v from fun v hv => by rw [HNR.out, HN3.out] at hv; simp [numV, hz] at hv)
                    clear hz
                    go_wp2_with fail
                    go_returns
                    exact ⟨_, ret_num HB.out, (fun v hv => by have h := HV.out v hv; simp only [IntWalk.i64_left] at h; exact h), rfl⟩
    · have hmb : ((x : Int) == 45) = false := by simp; omega
      have HNR := hid (numOk_plus (l := s.data.toList) (by rw [head_at h0, hx]; simpa using hm))
      clear hm
      have HSL := hid (size_len s)
      by_cases h1 : s.size < 1
      · have h1I : (s.size : Int) < 1 := by omega
        have HN2 := hid (numR_short (m := false) (by rw [HSL.out]; exact h1))
        clear h1
        go_wp2_with fail
        go_returns
        exact ⟨0, ret_num (by rw [HNR.out, HN2.out]; rfl), (fun v hv => by rw [HNR.out, HN2.out] at hv; cases hv), rfl⟩
      · have h1I : ¬ (s.size : Int) < 1 := by omega
        by_cases h19 : 19 < s.size
        · have h19I : (19 : Int) < (s.size : Int) := by omega
          have HN2 := hid (numR_long (m := false) (by rw [HSL.out]; exact h19))
          clear h1 h19
          go_wp2_with fail
          go_returns
          exact ⟨0, ret_num (by rw [HNR.out, HN2.out]; rfl), (fun v hv => by rw [HNR.out, HN2.out] at hv; cases hv), rfl⟩
        · have h19I : ¬ (19 : Int) < (s.size : Int) := by omega
          have h0N : 0 < s.size := by omega
          have h0I2 : (0 : Int) < (s.size : Int) := by omega
          obtain ⟨c0, hc0⟩ : ∃ c, (s[0]'h0N).toNat = c := ⟨_, rfl⟩
          try (have hxc := hc0.symm.trans hx; subst hxc)
          have HH := hid ((head_at h0N).trans (by rw [hc0]))
          by_cases hlead : c0 = 48 ∧ (1 < s.size ∨ false = true)
          · have HN2 := hid (numR_lead (m := false) (r := s.data.toList) ⟨by rw [HH.out, hlead.1], by rw [HSL.out]; exact hlead.2⟩)
            have hb48 : ((c0 : Int) == 48) = true := by have := hlead.1; simp; omega
            rcases hlead.2 with hl | hl
            · have hlI : (1 : Int) < (s.size : Int) := by omega
              clear h1 h19 hlead hl
              go_wp2_with fail
              go_returns
              exact ⟨0, ret_num (by rw [HNR.out, HN2.out]; rfl), (fun v hv => by rw [HNR.out, HN2.out] at hv; cases hv), rfl⟩
            · first
                | exact absurd hl (by decide)
                | (by_cases hl2 : 1 < s.size
                   · have hlI : (1 : Int) < (s.size : Int) := by omega
                     clear h1 h19 hlead hl hl2
                     go_wp2_with fail
                     go_returns
                     exact ⟨0, ret_num (by rw [HNR.out, HN2.out]; rfl), (fun v hv => by rw [HNR.out, HN2.out] at hv; cases hv), rfl⟩
                   · have hlI : ¬ (1 : Int) < (s.size : Int) := by omega
                     clear h1 h19 hlead hl hl2
                     go_wp2_with fail
                     go_returns
                     exact ⟨0, ret_num (by rw [HNR.out, HN2.out]; rfl), (fun v hv => by rw [HNR.out, HN2.out] at hv; cases hv), rfl⟩)
          · have HNL := hid (show ¬ (s.data.toList.head?.map (·.toNat) = some 48 ∧ (1 < s.data.toList.length ∨ false = true)) from fun h => hlead ⟨by have := HH.out; rw [this] at h; simpa using h.1, by rw [← HSL.out]; exact h.2⟩)
            have HS1 := hid (show 1 ≤ s.data.toList.length by rw [HSL.out]; omega); have HS2 := hid (show s.data.toList.length ≤ 19 by rw [HSL.out]; omega)
            have HOK3 := hid (fun (hd : ∀ c ∈ s.data.toList, dig c) => numR_ok (m := false) HS1.out HS2.out HNL.out hd)
            clear HNL
            by_cases h48 : c0 = 48
            · have hb48 : ((c0 : Int) == 48) = true := by simp; omega
              have hlI : ¬ (1 : Int) < (s.size : Int) := fun h => hlead ⟨h48, Or.inl (by omega)⟩
              clear h1 hlead h48
              go_wp2_with fail
              go_loopw [5, 6] (fun nv iv wr => ∃ k : Nat, k ≤ s.size ∧ iv = .int .i64 k ∧ (∀ c ∈ s.data.toList.take k, dig c) ∧ nv = .int .u64 ((valF 0 (s.data.toList.take k) : Nat) : Int) ∧ w = wr) (fun _ iv _ => s.size - (RowKit.intOf iv).toNat)
              case atStart => exact ⟨0, Nat.zero_le _, rfl, (fun c hc => by simp at hc), rfl, rfl⟩
              case round =>
                obtain ⟨k, hk, rfl, hd, rfl, rfl⟩ := hrel
                have HD := hid hd
                clear hd
                by_cases hlt : k < s.size
                · have hltI : (k : Int) < (s.size : Int) := by omega
                  have HLT := hid hlt
                  obtain ⟨c, hc⟩ : ∃ c, (s[k]'hlt).toNat = c := ⟨_, rfl⟩
                  have HC := hid hc
                  have HTK := hid (take_at hlt)
                  have hvl := val_lt (s.data.toList.take k) HD.out 0
                  have hln : (s.data.toList.take k).length = k := by rw [List.length_take, HSL.out]; omega
                  rw [hln] at hvl
                  obtain ⟨u, hu⟩ : ∃ u, valF 0 (s.data.toList.take k) = u := ⟨_, rfl⟩
                  rw [hu] at hvl ⊢
                  have HU := hid hu
                  have hp10 : 10 ^ k ≤ 10 ^ 18 := Nat.pow_le_pow_right (by decide) (by omega)
                  have hub : u < 1000000000000000000 := by
                    have e18 : (10 : Nat) ^ 18 = 1000000000000000000 := by decide
                    rw [e18] at hp10
                    omega
                  have hc256 : c < 256 := by rw [← hc]; exact UInt8.toNat_lt _
                  clear hvl hln hu hp10
                  by_cases hdg : 48 ≤ c ∧ c ≤ 57
                  · have hn1 : ¬ (c : Int) < 48 := by omega
                    have hn2 : ¬ (57 : Int) < (c : Int) := by omega
                    obtain ⟨d, hdd⟩ : ∃ d, c - 48 = d := ⟨_, rfl⟩
                    have hw1 : IntKind.u64.wrap (10 * (u : Int)) = ((10 * u : Nat) : Int) := by simp [IntKind.wrap, IntKind.bits, IntKind.signed]; omega
                    have hw2 : IntKind.u8.wrap ((c : Int) - 48) = (d : Int) := by simp [IntKind.wrap, IntKind.bits, IntKind.signed]; omega
                    have hw3 : IntKind.u64.wrap (d : Int) = (d : Int) := by simp [IntKind.wrap, IntKind.bits, IntKind.signed]; omega
                    have hw4 : IntKind.u64.wrap (((10 * u : Nat) : Int) + (d : Int)) = ((10 * u + d : Nat) : Int) := by simp [IntKind.wrap, IntKind.bits, IntKind.signed]; omega
                    have hw5 : IntKind.u64.wrap (10 * (u : Int) + (d : Int)) = ((10 * u + d : Nat) : Int) := by simp [IntKind.wrap, IntKind.bits, IntKind.signed]; omega
                    have HDD := hid hdd
                    clear hdd
                    go_wp2
                    go_roundw
                    case rel =>
                      refine ⟨k + 1, by have := HLT.out; omega, by go_num, fun x hx => ?_, ?_, (by first | rfl | trivial)⟩
                      · rw [HTK.out] at hx
                        rcases List.mem_append.1 hx with hx | hx
                        · exact HD.out x hx
                        · rw [List.mem_singleton] at hx; subst hx; unfold dig; rw [HC.out]; exact hdg
                      · rw [HTK.out, valF_snoc, HU.out, HC.out, HDD.out]; try rfl
                    case measure => (have := HLT.out; simp only [RowKit.intOf]; omega)
                  · have HN2 := hid (numR_bad (m := false) (mem_at hlt) (fun h => hdg (by unfold dig at h; rw [hc] at h; exact h)))
                    by_cases hc48 : c < 48
                    · have hn1 : (c : Int) < 48 := by omega
                      clear hdg hc48
                      go_wp2_with fail
                      go_returns
                      exact ⟨0, ret_num (by rw [HNR.out, HN2.out]; rfl), (fun v hv => by rw [HNR.out, HN2.out] at hv; cases hv), rfl⟩
                    · have hn1 : ¬ (c : Int) < 48 := by omega
                      have hn2 : (57 : Int) < (c : Int) := by omega
                      clear hdg hc48
                      go_wp2_with fail
                      go_returns
                      exact ⟨0, ret_num (by rw [HNR.out, HN2.out]; rfl), (fun v hv => by rw [HNR.out, HN2.out] at hv; cases hv), rfl⟩
                · obtain rfl : k = s.size := by omega
                  have htk : s.data.toList.take s.size = s.data.toList := List.take_of_length_le (by rw [HSL.out]; exact Nat.le_refl _)
                  rw [htk] at HD ⊢
                  have HN3 := hid (HOK3.out HD.out)
                  have hvl := val_lt s.data.toList HD.out 0
                  have hp10 : 10 ^ s.data.toList.length ≤ 10 ^ 19 := Nat.pow_le_pow_right (by decide) HS2.out
                  obtain ⟨u, hu⟩ : ∃ u, valF 0 s.data.toList = u := ⟨_, rfl⟩
                  rw [hu] at hvl HN3 ⊢
                  have hub : u < 10000000000000000000 := by
                    have e19 : (10 : Nat) ^ 19 = 10000000000000000000 := by decide
                    rw [e19] at hp10
                    omega
                  clear hvl hp10 hu htk
                  by_cases hz : u < 9223372036854775808
                  · have HB := hid (show (numOk s.data.toList).isSome = decide ((u : Int) < 9223372036854775808) by rw [HNR.out, HN3.out]; simp [numV, hz]; omega)
                    have HV := hid (show ∀ v, numOk s.data.toList = some v → IntKind.i64.wrap (u : Int) = v from fun v hv => by rw [HNR.out, HN3.out] at hv; simp [numV, hz] at hv; rw [← hv]; simp [IntKind.wrap, IntKind.bits, IntKind.signed]; omega)
                    clear hz
                    go_wp2_with fail
                    go_returns
                    exact ⟨_, ret_num HB.out, (fun v hv => by have h := HV.out v hv; simp only [IntWalk.i64_left] at h; exact h), rfl⟩
                  · have HB := hid (show (numOk s.data.toList).isSome = decide ((u : Int) < 9223372036854775808) by rw [HNR.out, HN3.out]; simp [numV, hz]; omega)
                    have HV := hid (show ∀ v, numOk s.data.toList = some v → IntKind.i64.wrap (u : Int) = v from fun v hv => by rw [HNR.out, HN3.out] at hv; simp [numV, hz] at hv)
                    clear hz
                    go_wp2_with fail
                    go_returns
                    exact ⟨_, ret_num HB.out, (fun v hv => by have h := HV.out v hv; simp only [IntWalk.i64_left] at h; exact h), rfl⟩
            · have hb48 : ((c0 : Int) == 48) = false := by simp; omega
              clear h1 hlead h48
              go_wp2_with fail
              go_loopw [5, 6] (fun nv iv wr => ∃ k : Nat, k ≤ s.size ∧ iv = .int .i64 k ∧ (∀ c ∈ s.data.toList.take k, dig c) ∧ nv = .int .u64 ((valF 0 (s.data.toList.take k) : Nat) : Int) ∧ w = wr) (fun _ iv _ => s.size - (RowKit.intOf iv).toNat)
              case atStart => exact ⟨0, Nat.zero_le _, rfl, (fun c hc => by simp at hc), rfl, rfl⟩
              case round =>
                obtain ⟨k, hk, rfl, hd, rfl, rfl⟩ := hrel
                have HD := hid hd
                clear hd
                by_cases hlt : k < s.size
                · have hltI : (k : Int) < (s.size : Int) := by omega
                  have HLT := hid hlt
                  obtain ⟨c, hc⟩ : ∃ c, (s[k]'hlt).toNat = c := ⟨_, rfl⟩
                  have HC := hid hc
                  have HTK := hid (take_at hlt)
                  have hvl := val_lt (s.data.toList.take k) HD.out 0
                  have hln : (s.data.toList.take k).length = k := by rw [List.length_take, HSL.out]; omega
                  rw [hln] at hvl
                  obtain ⟨u, hu⟩ : ∃ u, valF 0 (s.data.toList.take k) = u := ⟨_, rfl⟩
                  rw [hu] at hvl ⊢
                  have HU := hid hu
                  have hp10 : 10 ^ k ≤ 10 ^ 18 := Nat.pow_le_pow_right (by decide) (by omega)
                  have hub : u < 1000000000000000000 := by
                    have e18 : (10 : Nat) ^ 18 = 1000000000000000000 := by decide
                    rw [e18] at hp10
                    omega
                  have hc256 : c < 256 := by rw [← hc]; exact UInt8.toNat_lt _
                  clear hvl hln hu hp10
                  by_cases hdg : 48 ≤ c ∧ c ≤ 57
                  · have hn1 : ¬ (c : Int) < 48 := by omega
                    have hn2 : ¬ (57 : Int) < (c : Int) := by omega
                    obtain ⟨d, hdd⟩ : ∃ d, c - 48 = d := ⟨_, rfl⟩
                    have hw1 : IntKind.u64.wrap (10 * (u : Int)) = ((10 * u : Nat) : Int) := by simp [IntKind.wrap, IntKind.bits, IntKind.signed]; omega
                    have hw2 : IntKind.u8.wrap ((c : Int) - 48) = (d : Int) := by simp [IntKind.wrap, IntKind.bits, IntKind.signed]; omega
                    have hw3 : IntKind.u64.wrap (d : Int) = (d : Int) := by simp [IntKind.wrap, IntKind.bits, IntKind.signed]; omega
                    have hw4 : IntKind.u64.wrap (((10 * u : Nat) : Int) + (d : Int)) = ((10 * u + d : Nat) : Int) := by simp [IntKind.wrap, IntKind.bits, IntKind.signed]; omega
                    have hw5 : IntKind.u64.wrap (10 * (u : Int) + (d : Int)) = ((10 * u + d : Nat) : Int) := by simp [IntKind.wrap, IntKind.bits, IntKind.signed]; omega
                    have HDD := hid hdd
                    clear hdd
                    go_wp2
                    go_roundw
                    case rel =>
                      refine ⟨k + 1, by have := HLT.out; omega, by go_num, fun x hx => ?_, ?_, (by first | rfl | trivial)⟩
                      · rw [HTK.out] at hx
                        rcases List.mem_append.1 hx with hx | hx
                        · exact HD.out x hx
                        · rw [List.mem_singleton] at hx; subst hx; unfold dig; rw [HC.out]; exact hdg
                      · rw [HTK.out, valF_snoc, HU.out, HC.out, HDD.out]; try rfl
                    case measure => (have := HLT.out; simp only [RowKit.intOf]; omega)
                  · have HN2 := hid (numR_bad (m := false) (mem_at hlt) (fun h => hdg (by unfold dig at h; rw [hc] at h; exact h)))
                    by_cases hc48 : c < 48
                    · have hn1 : (c : Int) < 48 := by omega
                      clear hdg hc48
                      go_wp2_with fail
                      go_returns
                      exact ⟨0, ret_num (by rw [HNR.out, HN2.out]; rfl), (fun v hv => by rw [HNR.out, HN2.out] at hv; cases hv), rfl⟩
                    · have hn1 : ¬ (c : Int) < 48 := by omega
                      have hn2 : (57 : Int) < (c : Int) := by omega
                      clear hdg hc48
                      go_wp2_with fail
                      go_returns
                      exact ⟨0, ret_num (by rw [HNR.out, HN2.out]; rfl), (fun v hv => by rw [HNR.out, HN2.out] at hv; cases hv), rfl⟩
                · obtain rfl : k = s.size := by omega
                  have htk : s.data.toList.take s.size = s.data.toList := List.take_of_length_le (by rw [HSL.out]; exact Nat.le_refl _)
                  rw [htk] at HD ⊢
                  have HN3 := hid (HOK3.out HD.out)
                  have hvl := val_lt s.data.toList HD.out 0
                  have hp10 : 10 ^ s.data.toList.length ≤ 10 ^ 19 := Nat.pow_le_pow_right (by decide) HS2.out
                  obtain ⟨u, hu⟩ : ∃ u, valF 0 s.data.toList = u := ⟨_, rfl⟩
                  rw [hu] at hvl HN3 ⊢
                  have hub : u < 10000000000000000000 := by
                    have e19 : (10 : Nat) ^ 19 = 10000000000000000000 := by decide
                    rw [e19] at hp10
                    omega
                  clear hvl hp10 hu htk
                  by_cases hz : u < 9223372036854775808
                  · have HB := hid (show (numOk s.data.toList).isSome = decide ((u : Int) < 9223372036854775808) by rw [HNR.out, HN3.out]; simp [numV, hz]; omega)
                    have HV := hid (show ∀ v, numOk s.data.toList = some v → IntKind.i64.wrap (u : Int) = v from fun v hv => by rw [HNR.out, HN3.out] at hv; simp [numV, hz] at hv; rw [← hv]; simp [IntKind.wrap, IntKind.bits, IntKind.signed]; omega)
                    clear hz
                    go_wp2_with fail
                    go_returns
                    exact ⟨_, ret_num HB.out, (fun v hv => by have h := HV.out v hv; simp only [IntWalk.i64_left] at h; exact h), rfl⟩
                  · have HB := hid (show (numOk s.data.toList).isSome = decide ((u : Int) < 9223372036854775808) by rw [HNR.out, HN3.out]; simp [numV, hz]; omega)
                    have HV := hid (show ∀ v, numOk s.data.toList = some v → IntKind.i64.wrap (u : Int) = v from fun v hv => by rw [HNR.out, HN3.out] at hv; simp [numV, hz] at hv)
                    clear hz
                    go_wp2_with fail
                    go_returns
                    exact ⟨_, ret_num HB.out, (fun v hv => by have h := HV.out v hv; simp only [IntWalk.i64_left] at h; exact h), rfl⟩
  · have h0I : ¬ (0 : Int) < (s.size : Int) := by omega
    have h1I : (s.size : Int) < 1 := by omega
    have HN2 := hid (show numOk s.data.toList = none by
      have e : s.data.toList = [] := List.length_eq_zero_iff.1 (by rw [size_len]; omega)
      rw [e]; decide)
    clear h0
    go_wp2_with fail
    go_returns
    exact ⟨0, ret_num (by rw [HN2.out]; rfl), (fun v hv => by rw [HN2.out] at hv; cases hv), rfl⟩
end Go.Proofs.YtnicaiofjficnaaDoor
