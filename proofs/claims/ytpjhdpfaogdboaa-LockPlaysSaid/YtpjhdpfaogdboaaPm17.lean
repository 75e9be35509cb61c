/- Texts of this claim, merged: SrtG. -/
import Derived.Laws.Bits64
import Derived.Laws.Bits64b
import Derived.Lib.BitFns
import Derived.Sort.LotD5
import Derived.Test.YtpjhdpfaogdboaaPm1
import Derived.Test.YtpjhdpfaogdboaaPm3
import Derived.Test.YtpjhdpfaogdboaaPm5
import Derived.Test.YtpjhdpfaogdboaaPm6
import Derived.Test.YtpjhdpfaogdboaaPm7
import Derived.Test.YtpjhdpfaogdboaaPm16
/- bits.Len of a small number, xorshift, breakPatterns. -/
namespace Go.Proofs.Ytpjhdpfaogdboaa
set_option linter.unusedSimpArgs false
set_option linter.unusedVariables false
open Go.RowKit
open Go.Sort (swp ltInt)

theorem bitLen_small : ∀ n : Fin 64, Lib.bitLen n.1 = Go.Sort.bitsLen n.1 ∧ Go.Sort.bitsLen n.1 ≤ 6 := by decide
set_option maxRecDepth 100000 in
set_option maxHeartbeats 1000000 in
theorem len64_small (x : Int) (h0 : 0 ≤ x) (h1 : x ≤ 63) (w : World) : Calls Try.prog 86 #[.int .u64 x] w fun e w' => e = .returned (.int .i64 (Go.Sort.bitsLen x.toNat)) ∧ w = w' := by
  have e := hid (Lib.len8_of x (by omega) (by omega))
  have HB := hid (bitLen_small ⟨x.toNat, by omega⟩)
  go_enter Try.func86, Try.ntmps86
  go_wp2
  go_ret
  refine ⟨ret_int ?_, rfl⟩
  have e := e.out
  have hb := HB.out
  have hx : x.toNat < Lib.len8tab.size := by have : Lib.len8tab.size = 256 := by decide
                                             omega
  have e2 : ((Lib.len8tab[x.toNat]).toNat : Int) = (Go.Sort.bitsLen x.toNat : Int) := by
    rw [hb.1] at e
    rw [← e]
    unfold Lib.len8
    rw [getElem?_pos Lib.len8tab x.toNat hx]
    rfl
  rw [e2]
  unfold wrap64
  omega
set_option maxRecDepth 100000 in
set_option maxHeartbeats 1000000 in
theorem next_any (X : Nat) (hX : X < 18446744073709551616) {w : World} {b : Nat} (hb : w.heap[b]? = some (.cells #[.int .u64 X] 138 (0, 0))) :
    Calls Try.prog 97 #[.pointer (some ⟨b, 0, none⟩)] w fun e w' => e = .returned (.int .u64 (Go.Sort.xorNextN X : Nat)) ∧ w'.heap[b]? = some (.cells #[.int .u64 (Go.Sort.xorNextN X : Nat)] 138 (0, 0)) ∧ Kept (fun k => k = b) w w' := by
  obtain ⟨A, hA⟩ : ∃ A : Nat, A = X ^^^ (X * 8192 % 18446744073709551616) := ⟨_, rfl⟩
  obtain ⟨B, hB⟩ : ∃ B : Nat, B = A ^^^ (A / 128) := ⟨_, rfl⟩
  obtain ⟨C, hC⟩ : ∃ C : Nat, C = B ^^^ (B * 131072 % 18446744073709551616) := ⟨_, rfl⟩
  have lA : A < 18446744073709551616 := by rw [hA]; exact Nat.xor_lt_two_pow (n := 64) (by omega) (by omega)
  have lB : B < 18446744073709551616 := by rw [hB]; exact Nat.xor_lt_two_pow (n := 64) (by omega) (by omega)
  have e1 : bits .xor .u64 (X : Int) (IntKind.u64.wrap ((X : Int) * 8192)) = (A : Int) := by
    rw [IntKind.wrap_u64, show ((X : Int) * 8192 % 18446744073709551616) = ((X * 8192 % 18446744073709551616 : Nat) : Int) by omega, bits_xor_u64_nat _ _ hX (by omega), hA]
  have e2 : bits .xor .u64 (A : Int) ((A : Int) / 128) = (B : Int) := by
    rw [show ((A : Int) / 128) = ((A / 128 : Nat) : Int) by omega, bits_xor_u64_nat _ _ lA (by omega), hB]
  have e3 : bits .xor .u64 (B : Int) (IntKind.u64.wrap ((B : Int) * 131072)) = (C : Int) := by
    rw [IntKind.wrap_u64, show ((B : Int) * 131072 % 18446744073709551616) = ((B * 131072 % 18446744073709551616 : Nat) : Int) by omega, bits_xor_u64_nat _ _ lB (by omega), hC]
  have hv : Go.Sort.xorNextN X = C := by unfold Go.Sort.xorNextN; simp only []; rw [← hA, ← hB, ← hC]
  rw [hv]
  have c0 := row_cell hb 0
  have f0 := row_free hb 0
  simp only [List.getElem?_toArray, List.getElem?_cons_zero] at c0
  have HB := hid hb
  clear hA hB hC hv hb
  go_enter Try.func97, Try.ntmps97
  go_wp2
  go_region
  have HW1 := hid (show ((w.setCell ⟨b, 0, none⟩ (.int .u64 A)).drew).heap[b]? = some (.cells #[.int .u64 A] 138 (0, 0)) from row_set HB.out 0 (.int .u64 (A : Int)))
  have K1 := hid (show Kept (fun k => k = b) w (w.setCell ⟨b, 0, none⟩ (.int .u64 A)).drew from ((Kept.refl (fun k => k = b) w).setCell (p := ⟨b, 0, none⟩) (.inl rfl) _).drew)
  obtain ⟨w1, hw1⟩ : ∃ x, (w.setCell ⟨b, 0, none⟩ (.int .u64 A)).drew = x := ⟨_, rfl⟩
  rw [hw1] at HW1 K1 ⊢
  have c0 := row_cell HW1.out 0
  have f0 := row_free HW1.out 0
  simp only [List.getElem?_toArray, List.getElem?_cons_zero] at c0
  clear hw1
  have e2 := e2
  go_wp2
  go_region
  have HW2 := hid (show ((w1.setCell ⟨b, 0, none⟩ (.int .u64 B)).drew).heap[b]? = some (.cells #[.int .u64 B] 138 (0, 0)) from row_set HW1.out 0 (.int .u64 (B : Int)))
  have K2 := hid (show Kept (fun k => k = b) w1 (w1.setCell ⟨b, 0, none⟩ (.int .u64 B)).drew from ((Kept.refl (fun k => k = b) w1).setCell (p := ⟨b, 0, none⟩) (.inl rfl) _).drew)
  obtain ⟨w2, hw2⟩ : ∃ x, (w1.setCell ⟨b, 0, none⟩ (.int .u64 B)).drew = x := ⟨_, rfl⟩
  rw [hw2] at HW2 K2 ⊢
  have c0 := row_cell HW2.out 0
  have f0 := row_free HW2.out 0
  simp only [List.getElem?_toArray, List.getElem?_cons_zero] at c0
  clear hw2
  go_wp2
  go_region
  have HW3 := hid (show ((w2.setCell ⟨b, 0, none⟩ (.int .u64 C)).drew).heap[b]? = some (.cells #[.int .u64 C] 138 (0, 0)) from row_set HW2.out 0 (.int .u64 (C : Int)))
  have K3 := hid (show Kept (fun k => k = b) w2 (w2.setCell ⟨b, 0, none⟩ (.int .u64 C)).drew from ((Kept.refl (fun k => k = b) w2).setCell (p := ⟨b, 0, none⟩) (.inl rfl) _).drew)
  obtain ⟨w3, hw3⟩ : ∃ x, (w2.setCell ⟨b, 0, none⟩ (.int .u64 C)).drew = x := ⟨_, rfl⟩
  rw [hw3] at HW3 K3 ⊢
  have c0 := row_cell HW3.out 0
  have f0 := row_free HW3.out 0
  simp only [List.getElem?_toArray, List.getElem?_cons_zero] at c0
  clear hw3
  go_wp2
  go_ret
  exact ⟨rfl, HW3.out, (K1.out.trans K2.out).trans K3.out⟩
theorem len_small (n : Nat) (hn : n < 64) (w : World) : Calls Try.prog 72 #[.int .u64 n] w fun e w' => e = .returned (.int .i64 (Go.Sort.bitsLen n)) ∧ w = w' := by
  obtain ⟨x, hx⟩ : ∃ x : Int, (n : Int) = x := ⟨_, rfl⟩
  have h0 : 0 ≤ x ∧ x ≤ 63 := by omega
  have e : n = x.toNat := by omega
  rw [hx, e]
  clear hx e
  go_enter Try.func72, Try.ntmps72
  go_wp2_with fail
  refine (len64_small x h0.1 h0.2 _).mono ?_; rintro e w' ⟨rfl, rfl⟩
  go_wp2
  go_ret
  exact ⟨rfl, rfl⟩
theorem npow_small (n : Nat) (hn : n < 64) (w : World) : Calls Try.prog 96 #[.int .i64 n] w fun e w' => e = .returned (.int .u64 ((1 <<< Go.Sort.bitsLen n : Nat) : Int)) ∧ w = w' := by
  have hb := (bitLen_small ⟨n, hn⟩).2
  obtain ⟨k, hk⟩ : ∃ k, Go.Sort.bitsLen n = k := ⟨_, rfl⟩
  simp only [hk] at hb
  have HK := hid hk
  have hp : IntKind.u64.wrap ((2 : Int) ^ k) = ((1 <<< k : Nat) : Int) := by
    match k, hb with
    | 0, _ => rfl
    | 1, _ => rfl
    | 2, _ => rfl
    | 3, _ => rfl
    | 4, _ => rfl
    | 5, _ => rfl
    | 6, _ => rfl
  rw [hk]
  clear hk
  go_enter Try.func96, Try.ntmps96
  go_wp2_with fail
  refine (len_small n hn _).mono ?_; rintro e w' ⟨rfl, rfl⟩
  rw [HK.out]
  go_wp2
  go_ret
  exact ⟨rfl, rfl⟩
/-- t rounds of breakPatterns -/
def bpAt (a L M i0 : Nat) (d : Array Int) : Nat → UInt64 × Array Int
  | 0 => (UInt64.ofNat L, d)
  | t + 1 => Go.Sort.breakStep a L M (bpAt a L M i0 d t) (i0 + t)
theorem break_eq {d : Array Int} {a b L : Nat} (hb : b = a + L) (h8 : 8 ≤ L) : Go.Sort.breakPatterns d a b = (bpAt a L (1 <<< Go.Sort.bitsLen L) (a + L / 4 * 2 - 1) d 3).2 := by
  subst hb
  unfold Go.Sort.breakPatterns
  simp only [Nat.add_sub_cancel_left]
  rw [if_pos h8]
  rfl
set_option maxRecDepth 100000 in
set_option maxHeartbeats 2000000 in
theorem break_any {w : World} {g : Nat} {d : Array Int} {tl : List Value} (h : Srt w g d tl) {N : Nat} (hN : d.size = N) (cap : Nat) {a b : Nat} (hab : a + 8 ≤ b) (hb : b ≤ N) (hd : N < 50) :
    Calls Try.prog 78 #[.slice (some ⟨g, 0, none⟩) N cap, .int .i64 a, .int .i64 b] w (SrtEnd w g tl (Go.Sort.breakPatterns d a b)) := by
  have H := hid h; have HN := hid hN
  clear h hN
  obtain ⟨L, hbL⟩ : ∃ L, b = a + L := ⟨b - a, by omega⟩
  have hL : 8 ≤ L ∧ L < 50 ∧ a + L ≤ N := by omega
  have HE := hid (break_eq (d := d) hbL hL.1)
  obtain ⟨q, hq⟩ : ∃ q, L / 4 = q := ⟨_, rfl⟩
  have hqL : 4 * q ≤ L ∧ L < 4 * q + 4 ∧ 2 ≤ q := by omega
  have e0 : (b : Int) - (a : Int) = (L : Int) := by omega
  have e1 : (L : Int) / 4 = (q : Int) := by omega
  obtain ⟨i0, hi0⟩ : ∃ i0, a + q * 2 - 1 = i0 := ⟨_, rfl⟩
  have hi0' : i0 + 1 ≤ a + q * 2 ∧ a + q * 2 ≤ i0 + 1 := by omega
  have e2 : (a : Int) + (q : Int) * 2 - 1 = (i0 : Int) := by omega
  have e3 : (a : Int) + (q : Int) * 2 + 1 = ((i0 + 2 : Nat) : Int) := by omega
  have hb6 := (bitLen_small ⟨L, by omega⟩).2
  have hM2 := Go.Sort.two_pow_bitsLen_le (n := L) (by omega)
  rw [hq, hi0] at HE
  obtain ⟨M, hM⟩ : ∃ M, 1 <<< Go.Sort.bitsLen L = M := ⟨_, rfl⟩
  have hM1 : 1 ≤ M ∧ M ≤ 2 * L := by rw [← hM, Nat.one_shiftLeft]; exact ⟨Nat.two_pow_pos _, hM2⟩
  rw [hM] at HE
  have HM := hid hM
  clear hM hq hi0 hbL hb6 hM2
  go_enter Try.func78, Try.ntmps78
  go_wp2_with fail
  have hr0 := row_new w (.cells #[.int .u64 (L : Int)] 138)
  have hk0 := (Kept.refl (fun _ => False) w).alloc (.cells #[.int .u64 (L : Int)] 138)
  have hlt := H.out.lt
  obtain ⟨rb, hrb⟩ : ∃ s, w.heap.size = s := ⟨_, rfl⟩
  obtain ⟨w1, hw1⟩ : ∃ x, w.alloc (.cells #[.int .u64 (L : Int)] 138) = x := ⟨_, rfl⟩
  rw [hw1, hrb] at hr0
  rw [hw1] at hk0 ⊢
  rw [hrb] at hlt ⊢
  have HRB := hid hrb; have HR0 := hid hr0; have HK0 := hid hk0
  clear hrb hw1 hr0 hk0
  refine (npow_small L (by omega) _).mono ?_; rintro e w' ⟨rfl, rfl⟩
  rw [HM.out]
  go_wp2_with fail
  clear e0 e1 e2
  go_loopw [9] (fun i wr => ∃ (t : Nat) (R : UInt64) (dk : Array Int), i = .int .i64 ((i0 + t : Nat) : Int) ∧ t ≤ 3 ∧ bpAt a L M i0 d t = (R, dk) ∧ dk.size = N ∧ wr.heap[rb]? = some (.cells #[.int .u64 (R.toNat : Int)] 138 (0, 0)) ∧ Srt wr g dk tl ∧ Kept (fun k => k = g) w wr) (fun i _ => i0 + 3 - (intOf i).toNat)
  case atStart =>
    refine ⟨0, UInt64.ofNat L, d, rfl, by omega, rfl, HN.out, ?_, H.out.kept HK0.out (fun h => h), HK0.out.mono (fun _ _ h => h.elim)⟩
    rw [HR0.out]
    have : (UInt64.ofNat L).toNat = L := by simp; omega
    rw [this]
  case round =>
    rename World => wA
    obtain ⟨t, R, dk, rfl, ht, hbp, hsz, hr, hs, hkp⟩ := hrel
    have HS := hid hs; have HK := hid hkp; have HBP := hid hbp; have HZ := hid hsz; have HR := hid hr
    clear hs hkp hbp hsz hr HR0 HK0 H
    have hgrb : g ≠ rb := by omega
    have HG := hid hgrb
    clear hgrb
    by_cases hlt : t < 3
    · obtain ⟨x, hx⟩ : ∃ x, x = i0 + t := ⟨_, rfl⟩
      have hxN : x < N ∧ x ≤ i0 + 2 := by omega
      have hxI : ((i0 + t : Nat) : Int) = (x : Int) := by omega
      have hle : (x : Int) ≤ ((i0 + 2 : Nat) : Int) := by omega
      have hxx : (x : Int) + 1 = ((i0 + (t + 1) : Nat) : Int) := by omega
      have HX := hid hx; have HXX := hid hxx
      rw [hxI]
      clear hx hxI hxx
      obtain ⟨e4, he4⟩ : ∃ e4, i0 + 2 = e4 := ⟨_, rfl⟩
      have e5 : (a : Int) + (q : Int) * 2 + 1 = (e4 : Int) := by omega
      have hle : (x : Int) ≤ (e4 : Int) := by omega
      clear e3 he4
      have e0 : (L : Int) / 4 = (q : Int) := by omega
      have lR := R.toNat_lt
      obtain ⟨R', hR'⟩ : ∃ R' : Nat, R' = Go.Sort.xorNextN R.toNat := ⟨_, rfl⟩
      have lR' : R' < 18446744073709551616 := by rw [hR']; exact Go.Sort.xorNextN_lt _ lR
      obtain ⟨O, hO⟩ : ∃ O : Nat, O = R' &&& (M - 1) := ⟨_, rfl⟩
      have lO : O ≤ M - 1 := by rw [hO]; exact Nat.and_le_right
      have eAnd : bits .and .u64 (R' : Int) ((M : Int) - 1) = (O : Int) := by
        rw [show ((M : Int) - 1) = ((M - 1 : Nat) : Int) by omega, bits_and_u64_nat _ _ lR' (by omega), hO]
      have lO2 : (O : Int) < 2 * (L : Int) := by omega
      have HNX := hid (show R' = (Go.Sort.xorNext R).toNat ∧ O = (Go.Sort.xorNext R).toNat &&& (M - 1) from by
        have e : R' = (Go.Sort.xorNext R).toNat := by rw [hR', Go.Sort.xorNext_toNat]
        exact ⟨e, by rw [hO, e]⟩)
      have HRX := hid hR'
      clear hR' hO
      go_wp2_with fail
      refine (next_any R.toNat lR HR.out).mono ?_
      rintro e w2 ⟨rfl, hr2, hk2⟩
      rw [← HRX.out] at hr2 ⊢
      have HS2 := hid (HS.out.kept hk2 (fun e => HG.out e)); have HR2 := hid hr2
      have HK2 := hid (HK.out.trans' hk2 (fun i e => .inr (by rw [HRB.out]; exact Nat.le_of_eq e.symm)))
      clear hr2 hk2
      by_cases hLO : L ≤ O
      · obtain ⟨o, ho⟩ : ∃ o, o = O - L := ⟨_, rfl⟩
        have e6 : (O : Int) - (L : Int) = (o : Int) := by omega
        have hoL : o < L := by omega
        have HOE := hid (show (if (Go.Sort.xorNext R).toNat &&& (M - 1) ≥ L then ((Go.Sort.xorNext R).toNat &&& (M - 1)) - L else (Go.Sort.xorNext R).toNat &&& (M - 1)) = o by rw [← HNX.out.2, if_pos hLO]; exact ho.symm)
        clear ho
        obtain ⟨p, hp⟩ : ∃ p, p = a + o := ⟨_, rfl⟩
        have e7 : (a : Int) + (o : Int) = (p : Int) := by omega
        have hpN : p < N := by omega
        have HP := hid hp
        clear hp
        have c0 := HS2.out.cell (i := x) (by have := HZ.out; omega)
        have c1 := HS2.out.cell (i := p) (by have := HZ.out; omega)
        have f0 := HS2.out.free x
        have f1 := HS2.out.free p
        obtain ⟨v', c2⟩ : ∃ v', (w2.setCell ⟨g, x, none⟩ (.int .u32 (nt dk p))).cell? ⟨g, p, none⟩ = some v' := ⟨_, (HS2.out.put x (nt dk p) (by have := HZ.out; omega)).cell (i := p) (by simp; have := HZ.out; omega)⟩
        go_wp2_with fail
        go_region
        obtain ⟨h1, h2⟩ := HS2.out.swapd (i := x) (j := p) (by have := HZ.out; omega) (by have := HZ.out; omega)
        have HS3 := hid h1; have HK3 := hid (HK2.out.trans h2)
        have HR3 := hid (show _ = _ from (h2.block rb (row_lt HR2.out) (fun e => HG.out e.symm)).trans HR2.out)
        clear h1 h2 c0 c1 c2 f0 f1
        go_wp2
        go_roundw
        case rel =>
          refine ⟨t + 1, Go.Sort.xorNext R, swp dk x p, by rw [HXX.out], by omega, ?_, by rw [size_swp]; exact HZ.out, by rw [← HNX.out.1]; exact HR3.out, HS3.out, HK3.out⟩
          show Go.Sort.breakStep a L M (bpAt a L M i0 d t) (i0 + t) = _
          rw [HBP.out]
          unfold Go.Sort.breakStep
          simp only []
          rw [HOE.out, ← HX.out, ← HP.out]
        case measure => (have := HX.out; simp [intOf]; try omega)
      · obtain ⟨o, ho⟩ : ∃ o, O = o := ⟨_, rfl⟩
        have HOE := hid (show (if (Go.Sort.xorNext R).toNat &&& (M - 1) ≥ L then ((Go.Sort.xorNext R).toNat &&& (M - 1)) - L else (Go.Sort.xorNext R).toNat &&& (M - 1)) = o by rw [← HNX.out.2, if_neg hLO]; exact ho)
        subst ho
        obtain ⟨o, ho⟩ : ∃ o, o = O := ⟨_, rfl⟩
        have hoL : o < L := by omega
        subst ho
        obtain ⟨p, hp⟩ : ∃ p, p = a + o := ⟨_, rfl⟩
        have e7 : (a : Int) + (o : Int) = (p : Int) := by omega
        have hpN : p < N := by omega
        have HP := hid hp
        clear hp
        have c0 := HS2.out.cell (i := x) (by have := HZ.out; omega)
        have c1 := HS2.out.cell (i := p) (by have := HZ.out; omega)
        have f0 := HS2.out.free x
        have f1 := HS2.out.free p
        obtain ⟨v', c2⟩ : ∃ v', (w2.setCell ⟨g, x, none⟩ (.int .u32 (nt dk p))).cell? ⟨g, p, none⟩ = some v' := ⟨_, (HS2.out.put x (nt dk p) (by have := HZ.out; omega)).cell (i := p) (by simp; have := HZ.out; omega)⟩
        go_wp2_with fail
        go_region
        obtain ⟨h1, h2⟩ := HS2.out.swapd (i := x) (j := p) (by have := HZ.out; omega) (by have := HZ.out; omega)
        have HS3 := hid h1; have HK3 := hid (HK2.out.trans h2)
        have HR3 := hid (show _ = _ from (h2.block rb (row_lt HR2.out) (fun e => HG.out e.symm)).trans HR2.out)
        clear h1 h2 c0 c1 c2 f0 f1
        go_wp2
        go_roundw
        case rel =>
          refine ⟨t + 1, Go.Sort.xorNext R, swp dk x p, by rw [HXX.out], by omega, ?_, by rw [size_swp]; exact HZ.out, by rw [← HNX.out.1]; exact HR3.out, HS3.out, HK3.out⟩
          show Go.Sort.breakStep a L M (bpAt a L M i0 d t) (i0 + t) = _
          rw [HBP.out]
          unfold Go.Sort.breakStep
          simp only []
          rw [HOE.out, ← HX.out, ← HP.out]
        case measure => (have := HX.out; simp [intOf]; try omega)
    · obtain rfl : t = 3 := by omega
      have hno : ¬ ((i0 + 3 : Nat) : Int) ≤ ((i0 + 2 : Nat) : Int) := by omega
      have e0 : (L : Int) / 4 = (q : Int) := by omega
      go_wp2
      go_end0
      exact ⟨rfl, by rw [HE.out, HBP.out]; exact HS.out, HK.out⟩
end Go.Proofs.Ytpjhdpfaogdboaa
