/- Faults: the document's Dec and Text. -/
import Derived.Test.YtlkhbepmkembgaaDoorO
import Derived.Test.YtlkhbepmkembgaaDoorLies
namespace Go.Proofs.YtlkhbepmkembgaaDoor
open Go.RowKit
theorem digit_at : ∀ {d : Nat}, d < 10 → (ByteArray.mk #[48, 49, 50, 51, 52, 53, 54, 55, 56, 57]).extract d (d + 1) = ⟨#[UInt8.ofNat (48 + d)]⟩
  | 0, _ => by decide +kernel | 1, _ => by decide +kernel | 2, _ => by decide +kernel | 3, _ => by decide +kernel | 4, _ => by decide +kernel
  | 5, _ => by decide +kernel | 6, _ => by decide +kernel | 7, _ => by decide +kernel | 8, _ => by decide +kernel | 9, _ => by decide +kernel
  | d + 10, h => by omega
set_option maxHeartbeats 2000000 in
set_option maxRecDepth 100000 in
theorem digits_any (n : Nat) : n < 18446744073709551616 → ∀ w : World, Calls Tryd.prog 35 #[.int .u64 n] w fun e w' => e = .returned (.string ⟨(Lib.decDigits n).toArray⟩) ∧ w = w' := by
  induction n using Nat.strongRecOn with
  | _ n ih =>
    intro hn w
    obtain ⟨d, hd⟩ : ∃ d, n % 10 = d := ⟨_, rfl⟩
    have hd10 : d < 10 := by omega
    have hdI : ((n : Int) % 10) = (d : Int) := by omega
    have hw : IntKind.u64.wrap ((d : Int) + 1) = ((d + 1 : Nat) : Int) := by simp [IntKind.wrap, IntKind.bits, IntKind.signed]; omega
    have hqt : (n : Int).tdiv 10 = ((n / 10 : Nat) : Int) := rfl
    have HIH := hid ih
    clear ih
    have hd0 : (0 : Int) ≤ (d : Int) := by omega
    have hdI1 : (d : Int) < 10 := by omega
    have hdI2 : ((d + 1 : Nat) : Int) ≤ 10 := by omega
    have hdI3 : (d : Int) ≤ ((d + 1 : Nat) : Int) := by omega
    go_enter Tryd.func35, Tryd.ntmps35
    by_cases h10 : n < 10
    · have h10I : (n : Int) < 10 := by omega
      have hnd : n = d := by omega
      subst hnd
      have HX := hid (show (ByteArray.mk #[48, 49, 50, 51, 52, 53, 54, 55, 56, 57]).extract n (n + 1) = ⟨(Lib.decDigits n).toArray⟩ by rw [Lib.decDigits, dif_pos h10]; exact digit_at h10)
      go_wp2_with fail
      go_ret
      exact ⟨by rw [← HX.out]; rfl, rfl⟩
    · have h10I : ¬ (n : Int) < 10 := by omega
      have hc : ∀ w : World, Calls Tryd.prog 35 #[.int .u64 ((n : Int) / 10)] w fun e w' => e = .returned (.string ⟨(Lib.decDigits (n / 10)).toArray⟩) ∧ w = w' := fun w => HIH.out (n / 10) (by omega) (by omega) w
      have hP : (ByteArray.mk (Lib.decDigits (n / 10)).toArray).size ≤ 30 := by
        show (Lib.decDigits (n / 10)).toArray.size ≤ 30
        have := dec_len 19 (n / 10) (by omega)
        simp; omega
      have hQ : (ByteArray.mk #[48, 49, 50, 51, 52, 53, 54, 55, 56, 57]).extract d (d + 1) = ⟨#[UInt8.ofNat (48 + d)]⟩ := digit_at hd10
      have HX := hid (show (ByteArray.mk (Lib.decDigits (n / 10)).toArray ++ ⟨#[UInt8.ofNat (48 + d)]⟩ : ByteArray) = ⟨(Lib.decDigits n).toArray⟩ by
        rw [Lib.decDigits.eq_1 n, dif_neg h10, hd]
        apply toList_inj
        simp [ByteArray.data_append])
      obtain ⟨P, hPe⟩ : ∃ P, (ByteArray.mk (Lib.decDigits (n / 10)).toArray) = P := ⟨_, rfl⟩
      rw [hPe] at hP HX
      have HC := hid hc
      have hsz : ¬ 9223372036854775807 < P.size + (ByteArray.mk #[UInt8.ofNat (48 + d)]).size := by
        have : (ByteArray.mk #[UInt8.ofNat (48 + d)]).size = 1 := rfl
        omega
      clear hc HIH
      go_wp2_with fail
      refine (HC.out _).mono ?_; rintro e w' ⟨rfl, rfl⟩
      rw [hPe]
      clear hPe HC
      go_wp2_with fail
      go_ret
      exact ⟨by rw [← HX.out, UInt8.ofNat_add]; rfl, rfl⟩
set_option maxHeartbeats 2000000 in
set_option maxRecDepth 100000 in
theorem dec_any (n : Int) (h0 : -9223372036854775808 ≤ n) (h1 : n ≤ 9223372036854775807) (w : World) : Calls Tryd.prog 24 #[.int .i64 n] w fun e w' => e = .returned (.string ⟨(Lib.itoa n).toArray⟩) ∧ w = w' := by
  go_enter Tryd.func24, Tryd.ntmps24
  by_cases hn : n < 0
  · obtain ⟨u, hu⟩ : ∃ u, n.natAbs = u := ⟨_, rfl⟩
    have hw1 : IntKind.u64.wrap (-IntKind.u64.wrap n) = (u : Int) := by simp [IntKind.wrap, IntKind.bits, IntKind.signed]; omega
    have hi : Lib.itoa n = 45 :: Lib.decDigits u := by unfold Lib.itoa; rw [if_pos hn, hu]
    have HI := hid hi
    have hP : (ByteArray.mk (Lib.decDigits u).toArray).size ≤ 30 := by
      show (Lib.decDigits u).toArray.size ≤ 30
      have := dec_len 19 u (by omega)
      simp; omega
    have HX := hid (show (ByteArray.mk #[45] ++ ⟨(Lib.decDigits u).toArray⟩ : ByteArray) = ⟨(Lib.itoa n).toArray⟩ by
      rw [hi]
      apply toList_inj
      simp [ByteArray.data_append])
    have HD := hid (digits_any u (by omega))
    obtain ⟨P, hPe⟩ : ∃ P, (ByteArray.mk (Lib.decDigits u).toArray) = P := ⟨_, rfl⟩
    rw [hPe] at hP HX
    have hsz : ¬ 9223372036854775807 < 1 + P.size := by omega
    clear hi
    go_wp2_with fail
    refine (HD.out _).mono ?_; rintro e w' ⟨rfl, rfl⟩
    rw [hPe]
    clear hPe
    go_wp2_with fail
    go_ret
    exact ⟨retS (by rw [← HX.out]), rfl⟩
  · obtain ⟨u, hu⟩ : ∃ u, n.toNat = u := ⟨_, rfl⟩
    have hw1 : IntKind.u64.wrap n = (u : Int) := by simp [IntKind.wrap, IntKind.bits, IntKind.signed]; omega
    have HI := hid (show Lib.itoa n = Lib.decDigits u by unfold Lib.itoa; rw [if_neg hn, hu])
    have HD := hid (digits_any u (by omega))
    go_wp2_with fail
    refine (HD.out _).mono ?_; rintro e w' ⟨rfl, rfl⟩
    go_wp2_with fail
    go_ret
    exact ⟨retS (by rw [HI.out]), rfl⟩
theorem decB_any (n : Int) (h0 : -9223372036854775808 ≤ n) (h1 : n ≤ 9223372036854775807) (w : World) : Calls Tryd.prog 24 #[.int .i64 n] w fun e w' => e = .returned (.string (itoaB n)) ∧ w = w' := dec_any n h0 h1 w
def lcell (l : FL) : List Value := [.int .i64 l.1, .int .u32 l.2]
def lcells (L : List FL) : List Value := L.flatMap lcell
theorem lcells_len : ∀ L : List FL, (lcells L).length = L.length * 2
  | [] => rfl
  | l :: L => by have := lcells_len L; simp [lcells, lcell, List.flatMap_cons] at this ⊢; omega
theorem lcells_one (L : List FL) : ∀ u ∈ lcells L, u.oneCell' = true := by
  intro u hu
  simp only [lcells, List.mem_flatMap, lcell] at hu
  obtain ⟨x, _, hx⟩ := hu
  simp at hx
  rcases hx with rfl | rfl <;> rfl
theorem lcells_at : ∀ (L : List FL) (k : Nat) (l : FL), L[k]? = some l → (lcells L)[k * 2]? = some (.int .i64 l.1) ∧ (lcells L)[k * 2 + 1]? = some (.int .u32 l.2)
  | [], k, l, h => by simp at h
  | x :: L, 0, l, h => by simp at h; subst h; exact ⟨rfl, rfl⟩
  | x :: L, k + 1, l, h => by
    have := lcells_at L k l (by simpa using h)
    have e : lcells (x :: L) = lcell x ++ lcells L := rfl
    have e2 : (lcell x).length = 2 := rfl
    rw [e, List.getElem?_append_right (by rw [e2]; omega), List.getElem?_append_right (by rw [e2]; omega), e2, show (k + 1) * 2 - 2 = k * 2 by omega, show (k + 1) * 2 + 1 - 2 = k * 2 + 1 by omega]
    exact this
theorem lcells_snoc (L : List FL) (l : FL) : lcells (L ++ [l]) = lcells L ++ lcell l := by simp [lcells]
/-- a list of links that is read -/
abbrev LL (w : World) (v : Value) (L : List FL) : Prop := Lies (fun _ => False) w 2 v L.length (lcells L)
theorem ll_at {w : World} {v : Value} {L : List FL} (h : LL w v L) {k : Nat} {l : FL} (hl : L[k]? = some l) :
    ∃ g off c, v = .slice (some ⟨g, off, none⟩) L.length c ∧ w.cell? ⟨g, off + k * 2, none⟩ = some (.int .i64 l.1) ∧ w.cell? ⟨g, off + k * 2 + 1, none⟩ = some (.int .u32 l.2) := by
  have hk : k < L.length := (List.getElem?_eq_some_iff.1 hl).1
  obtain ⟨g, off, c, h1, _, _, _, _, h2⟩ := h.cell (by omega)
  obtain ⟨a1, a2⟩ := lcells_at L k l hl
  exact ⟨g, off, c, h1, h2 _ _ a1, by rw [Nat.add_assoc]; exact h2 _ _ a2⟩
set_option maxHeartbeats 400000 in
set_option maxRecDepth 100000 in
theorem doctext_any {W : World} {v : Value} {L : List FL} {r : Int} (h : LL W v L) (hL : L.length ≤ 1000) (hwl : ∀ l ∈ L, Wl l) (h0 : -9223372036854775808 ≤ r) (h1 : r ≤ 9223372036854775807) :
    Calls Tryd.prog 15 #[.agg #[v, .int .i64 r]] W fun e w' => e = .returned (.string (text L r)) ∧ Kept (fun _ => False) W w' := by
  obtain ⟨w1, hw1⟩ : ∃ w1, W.alloc (.cells #[v, .int .i64 r] 24) = w1 := ⟨_, rfl⟩
  have hk1 : Kept (fun _ => False) W w1 := hw1 ▸ (Kept.refl _ _).alloc _
  have hr : w1.heap[W.heap.size]? = some (.cells #[v, .int .i64 r] 24 (0, 0)) := by rw [← hw1]; exact row_new _ _
  obtain ⟨cb, hcb⟩ : ∃ cb, W.heap.size = cb := ⟨_, rfl⟩
  rw [hcb] at hr
  have c0 := row_cell hr 0
  have c1 := row_cell hr 1
  simp at c0 c1
  have HLL := hid (h.kept hk1 (fun _ _ => id)); have HWL := hid hwl; have HR := hid (And.intro h0 h1); have HL := hid hL
  have HK := hid hk1
  have HC1 := hid c1
  obtain ⟨ao, cc, rfl⟩ := h.isSlice
  clear h hwl h0 h1 hk1 hr
  go_enter Tryd.func15, Tryd.ntmps15
  go_wp2_with fail
  clear hw1 hcb
  go_loopw [3, 9] (fun s i wr => ∃ k : Nat, k ≤ L.length ∧ i = .int .i64 k ∧ s = .string (txt (L.take k)) ∧ Kept (fun _ => False) w1 wr) (fun _ i _ => L.length - (RowKit.intOf i).toNat)
  case atStart => exact ⟨0, Nat.zero_le _, rfl, rfl, Kept.refl _ _⟩
  case round =>
    rename World => wr
    obtain ⟨k, hk, rfl, rfl, hkp⟩ := hrel
    have HKP := hid hkp
    clear hkp
    have hts := txt_size (L.take k) (fun l hl => HWL.out l (List.mem_of_mem_take hl))
    rw [List.length_take] at hts
    by_cases hlt : k < L.length
    · obtain ⟨l, hl⟩ : ∃ l, L[k]? = some l := ⟨_, List.getElem?_eq_getElem hlt⟩
      obtain ⟨g, off, c, hv, d0, d1⟩ := ll_at (HLL.out.same HKP.out) hl
      simp only [Value.slice.injEq] at hv
      obtain ⟨rfl, _, rfl⟩ := hv
      have hkI : (k : Int) < (L.length : Int) := by omega
      obtain ⟨o, x⟩ := l
      simp only at d0 d1
      obtain ⟨⟨h1, h2⟩, h3, h4⟩ := HWL.out _ (List.mem_of_getElem? hl)
      simp only at h1 h2 h3 h4
      have hfs := fr_size (HWL.out _ (List.mem_of_getElem? hl))
      have hP := itoa_size h1 h2
      have hV := itoa_size (n := x) (by omega) (by omega)
      have hIO := hid (fun w => decB_any o h1 h2 w)
      have hUI := hid (fun w => decB_any x (by omega) (by omega) w)
      have HX := hid (show txt (L.take k) ++ ((((opB ++ itoaB o) ++ vxB) ++ itoaB x) ++ coB) = txt (L.take (k + 1)) by rw [List.take_add_one, hl, show some (o, x) = some (o, x) from rfl, Option.toList_some, txt_snoc]; unfold fr; exact rfl)
      obtain ⟨S, hS⟩ : ∃ S, txt (L.take k) = S := ⟨_, rfl⟩
      obtain ⟨P, hPe⟩ : ∃ P, itoaB o = P := ⟨_, rfl⟩
      obtain ⟨V, hVe⟩ : ∃ P, itoaB x = P := ⟨_, rfl⟩
      rw [hPe] at hP HX hIO
      rw [hVe] at hV HX hUI
      rw [hS] at hts HX ⊢
      have hwr : IntKind.i64.wrap x = x := by simp [IntKind.wrap, IntKind.bits, IntKind.signed]; omega
      clear hPe hVe hS hl h1 h2 h3 h4 hfs
      have HLX := HL.out
      have f1 : ¬ 9223372036854775807 < 3 + P.size := by omega
      have f2 : ¬ 9223372036854775807 < 3 + P.size + 8 := by omega
      have f3 : ¬ 9223372036854775807 < 3 + P.size + 8 + V.size := by omega
      have f4 : ¬ 9223372036854775807 < 3 + P.size + 8 + V.size + 2 := by omega
      have f5 : ¬ 9223372036854775807 < S.size + (3 + P.size + 8 + V.size + 2) := by omega
      obtain ⟨wx, hwx⟩ : ∃ wx, wr.alloc (.cells #[.int .i64 o, .int .u32 x] 42) = wx := ⟨_, rfl⟩
      have hkx : Kept (fun _ => False) wr wx := hwx ▸ (Kept.refl _ _).alloc _
      have hrx : wx.heap[wr.heap.size]? = some (.cells #[.int .i64 o, .int .u32 x] 42 (0, 0)) := by rw [← hwx]; exact row_new _ _
      obtain ⟨xb, hxb⟩ : ∃ xb, wr.heap.size = xb := ⟨_, rfl⟩
      rw [hxb] at hrx
      have HRX := hid (show ∀ n, (wx.drewN n).cell? ⟨xb, 0, none⟩ = some (.int .i64 o) ∧ (wx.drewN n).cell? ⟨xb, 1, none⟩ = some (.int .u32 x) from fun n => ⟨by rw [World.cell?_drewN, row_cell hrx]; rfl, by rw [World.cell?_drewN, row_cell hrx]; rfl⟩)
      have HKX := hid hkx
      have s0 : wx.drew.cell? ⟨xb, 0, none⟩ = some (.int .i64 o) ∧ wx.drew.cell? ⟨xb, 1, none⟩ = some (.int .u32 x) := HRX.out 1
      clear hrx hkx HLX
      go_wp2_with fail
      clear hwx hxb
      go_region_held3 (fun w' => w'.cell? ⟨xb, 0, none⟩ = some (.int .i64 o) ∧ w'.cell? ⟨xb, 1, none⟩ = some (.int .u32 x)) (first | exact s0)
        (first
          | (go_at_call 24; refine (hIO.out _).mono ?_; rintro e w9 ⟨rfl, rfl⟩; clear hIO)
          | (go_at_call 24; refine (hUI.out _).mono ?_; rintro e w9 ⟨rfl, rfl⟩; clear hUI))
      go_wp2_with fail
      go_roundw
      case rel => exact ⟨k + 1, by omega, by go_num, by rw [← HX.out]; rfl, HKP.out.trans HKX.out.drew⟩
      case measure => (simp only [RowKit.intOf]; omega)
    · obtain rfl : k = L.length := by omega
      have c1 := HKP.out.cell HC1.out id
      have hP := itoa_size HR.out.1 HR.out.2
      have hIO := hid (fun w => decB_any r HR.out.1 HR.out.2 w)
      have HX := hid (show (txt (L.take L.length) ++ erB) ++ itoaB r = text L r by rw [List.take_length, ByteArray.append_assoc]; unfold text errB; exact rfl)
      obtain ⟨S, hS⟩ : ∃ S, txt (L.take L.length) = S := ⟨_, rfl⟩
      obtain ⟨P, hPe⟩ : ∃ P, itoaB r = P := ⟨_, rfl⟩
      rw [hPe] at hP HX hIO
      rw [hS] at hts HX ⊢
      have HLX := HL.out
      have f1 : ¬ 9223372036854775807 < S.size + 6 := by omega
      have f2 : ¬ 9223372036854775807 < S.size + 6 + P.size := by omega
      clear hS hPe HLX
      go_wp2_with fail
      refine (hIO.out _).mono ?_; rintro e w' ⟨rfl, rfl⟩
      go_wp2_with fail
      go_ret
      exact ⟨retS HX.out, HK.out.trans HKP.out⟩
end Go.Proofs.YtlkhbepmkembgaaDoor
