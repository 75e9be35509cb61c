/- Faults: the texts of links. -/
import Derived.Test.YtlkhbepmkembgaaDoorD
import Derived.Test.YtlkhbepmkembgaaDoorN
import Derived.StillTailTactics
import Derived.Deep.RegionHeld3
namespace Go.Proofs.YtlkhbepmkembgaaDoor
open Go.RowKit
theorem dec_len (k : Nat) : ∀ u, u < 10 ^ (k + 1) → (Lib.decDigits u).length ≤ k + 1 := by
  induction k with
  | zero => intro u hu; unfold Lib.decDigits; rw [dif_pos (by simpa using hu)]; simp
  | succ k ih =>
    intro u hu
    unfold Lib.decDigits
    by_cases h : u < 10
    · rw [dif_pos h]; simp
    · rw [dif_neg h, List.length_append]
      have := ih (u / 10) (by rw [Nat.pow_succ] at hu; omega)
      simp; omega
def itoaB (n : Int) : ByteArray := ⟨(Lib.itoa n).toArray⟩
theorem itoa_size {n : Int} (h0 : -9223372036854775808 ≤ n) (h1 : n ≤ 9223372036854775807) : (itoaB n).size ≤ 21 := by
  show (Lib.itoa n).toArray.size ≤ 21
  rw [List.size_toArray]
  unfold Lib.itoa
  split
  · have := dec_len 19 n.natAbs (by omega)
    simp; omega
  · have := dec_len 19 n.toNat (by omega)
    omega
def Wl (l : FL) : Prop := (-9223372036854775808 ≤ l.1 ∧ l.1 ≤ 9223372036854775807) ∧ (0 ≤ l.2 ∧ l.2 ≤ 4294967295)
def opB : ByteArray := ⟨#[111, 112, 32]⟩
def vxB : ByteArray := ⟨#[32, 118, 101, 114, 116, 101, 120, 32]⟩
def coB : ByteArray := ⟨#[58, 32]⟩
def erB : ByteArray := ⟨#[101, 114, 114, 111, 114, 32]⟩
def fr (l : FL) : ByteArray := (((opB ++ itoaB l.1) ++ vxB) ++ itoaB l.2) ++ coB
theorem fr_size {l : FL} (h : Wl l) : (fr l).size ≤ 60 := by
  obtain ⟨⟨h1, h2⟩, h3, h4⟩ := h
  have a := itoa_size h1 h2
  have b := itoa_size (n := l.2) (by omega) (by omega)
  have e1 : opB.size = 3 := rfl
  have e2 : vxB.size = 8 := rfl
  have e3 : coB.size = 2 := rfl
  simp only [fr, ByteArray.size_append, e1, e2, e3]
  omega
def txt (L : List FL) : ByteArray := L.foldl (fun s l => s ++ fr l) ⟨#[]⟩
theorem txt_snoc (L : List FL) (l : FL) : txt (L ++ [l]) = txt L ++ fr l := by simp [txt, List.foldl_append]
theorem txt_size0 : ∀ (L : List FL) (s : ByteArray), (∀ l ∈ L, Wl l) → (L.foldl (fun s l => s ++ fr l) s).size ≤ s.size + 60 * L.length
  | [], s, _ => by simp
  | l :: L, s, h => by
    rw [List.foldl_cons]
    have h1 := txt_size0 L (s ++ fr l) (fun x hx => h x (by simp [hx]))
    have h2 := fr_size (h l (by simp))
    rw [ByteArray.size_append] at h1
    simp only [List.length_cons]; omega
theorem txt_size (L : List FL) (h : ∀ l ∈ L, Wl l) : (txt L).size ≤ 60 * L.length := by
  have h1 := txt_size0 L ⟨#[]⟩ h
  have e : (⟨#[]⟩ : ByteArray).size = 0 := rfl
  rw [e] at h1
  unfold txt
  omega
theorem retS {x y : ByteArray} (h : x = y) : Ending.returned (.string x) = .returned (.string y) := by rw [h]
theorem itoaB_any (n : Int) (h0 : -9223372036854775808 ≤ n) (h1 : n ≤ 9223372036854775807) (w : World) (ht : Tab w) :
    Calls Tryd.prog 33 #[.int .i64 n] w fun e w' => e = .returned (.string (itoaB n)) ∧ Kept (fun _ => False) w w' := itoa_any n h0 h1 w ht
theorem uintB_any (n : Int) (h0 : 0 ≤ n) (h1 : n ≤ 4294967295) (w : World) (ht : Tab w) :
    Calls Tryd.prog 34 #[.int .u64 n, .int .i64 10] w fun e w' => e = .returned (.string (itoaB n)) ∧ Kept (fun _ => False) w w' := by
  obtain ⟨u, rfl⟩ : ∃ u : Nat, n = u := ⟨n.toNat, by omega⟩
  have h := uint_any u (by omega) w ht
  unfold itoaB
  rw [Lib.itoa_nonneg]
  exact h
set_option maxHeartbeats 2000000 in
set_option maxRecDepth 100000 in
theorem front_any (b : Nat) (l : FL) (e : Value) (w : World) (h : w.heap[b]? = some (.cells #[.int .i64 l.1, .int .u32 l.2, e] 59 (0, 0))) (hw : Wl l) (ht : Tab w) :
    Calls Tryd.prog 22 #[.pointer (some ⟨b, 0, none⟩)] w fun r w' => r = .returned (.string (fr l)) ∧ Kept (fun _ => False) w w' := by
  obtain ⟨o, v⟩ := l
  obtain ⟨⟨h1, h2⟩, h3, h4⟩ := hw
  simp only at h h1 h2 h3 h4
  have HC := hid (show ∀ w', Kept (fun _ => False) w w' → w'.cell? ⟨b, 0, none⟩ = some (.int .i64 o) ∧ w'.cell? ⟨b, 1, none⟩ = some (.int .u32 v) from fun w' k => ⟨k.cell (row_cell h 0) id, k.cell (row_cell h 1) id⟩)
  have HT := hid ht
  have hP := itoa_size h1 h2
  have hV := itoa_size (n := v) (by omega) (by omega)
  have hIO := hid (fun w ht => itoaB_any o h1 h2 w ht)
  have hUI := hid (fun w ht => uintB_any v h3 h4 w ht)
  have HX := hid (show (((opB ++ itoaB o) ++ vxB) ++ itoaB v) ++ coB = fr (o, v) from rfl)
  obtain ⟨P, hPe⟩ : ∃ P, itoaB o = P := ⟨_, rfl⟩
  obtain ⟨V, hVe⟩ : ∃ P, itoaB v = P := ⟨_, rfl⟩
  rw [hPe] at hP HX hIO
  rw [hVe] at hV HX hUI
  have hwr : IntKind.u64.wrap v = v := by simp [IntKind.wrap, IntKind.bits, IntKind.signed]; omega
  clear hPe hVe h ht h1 h2
  have f1 : ¬ 9223372036854775807 < 3 + P.size := by omega
  have f2 : ¬ 9223372036854775807 < 3 + P.size + 8 := by omega
  have f3 : ¬ 9223372036854775807 < 3 + P.size + 8 + V.size := by omega
  have f4 : ¬ 9223372036854775807 < 3 + P.size + 8 + V.size + 2 := by omega
  have s0 := HC.out w.drew (Kept.refl _ _).drew
  go_enter Tryd.func22, Tryd.ntmps22
  go_wp2_with fail
  go_region_held3 (fun w' => w'.cell? ⟨b, 0, none⟩ = some (.int .i64 o) ∧ w'.cell? ⟨b, 1, none⟩ = some (.int .u32 v)) (first | exact s0 | exact s1 | exact s2)
    (first
      | (go_at_call 33; refine (hIO.out _ (HT.out.kept (Kept.refl _ _).drew)).mono ?_; rintro e w1 ⟨rfl, hk⟩; have K1 := hid (show Kept (fun _ => False) w w1 from (Kept.refl _ _).drew.trans hk); have s1 := HC.out w1 K1.out; clear hk s0)
      | (go_at_call 34; refine (hUI.out _ (HT.out.kept K1.out)).mono ?_; rintro e w2 ⟨rfl, hk⟩; have K2 := hid (K1.out.trans hk); have s2 := HC.out w2 K2.out; clear hk s1))
  clear s2
  go_wp2_with fail
  go_ret
  exact ⟨retS HX.out, K2.out⟩
def errB (r : Int) : ByteArray := erB ++ itoaB r
set_option maxRecDepth 100000 in
theorem errno_any (r : Int) (h0 : -9223372036854775808 ≤ r) (h1 : r ≤ 9223372036854775807) (w : World) (ht : Tab w) :
    Calls Tryd.prog 23 #[.int .i64 r] w fun e w' => e = .returned (.string (errB r)) ∧ Kept (fun _ => False) w w' := by
  have hP := itoa_size h0 h1
  have hIO := hid (itoaB_any r h0 h1 w ht)
  have HX := hid (show erB ++ itoaB r = errB r from rfl)
  obtain ⟨P, hPe⟩ : ∃ P, itoaB r = P := ⟨_, rfl⟩
  rw [hPe] at hP HX hIO
  clear hPe h0 h1
  have f1 : ¬ 9223372036854775807 < 6 + P.size := by omega
  go_enter Tryd.func23, Tryd.ntmps23
  go_wp2_with fail
  refine hIO.out.mono ?_; rintro e w' ⟨rfl, hk⟩
  have HK := hid hk
  clear hk
  go_wp2_with fail
  go_ret
  exact ⟨retS HX.out, HK.out⟩
/-! ### fault.Text -/
def text (L : List FL) (r : Int) : ByteArray := txt L ++ errB r
set_option maxHeartbeats 4000000 in
set_option maxRecDepth 100000 in
theorem text_any {W : World} {v : Value} {L : List FL} {r : Int} {has : Int → Bool} (h : ErrAt W v L r has) (hG : ErrT W) (ht : Tab W) (hL : L.length ≤ 1000) (hwl : ∀ l ∈ L, Wl l) (h0 : -9223372036854775808 ≤ r) (h1 : r ≤ 9223372036854775807) :
    Calls Tryd.prog 12 #[v] W fun e w' => e = .returned (.string (text L r)) ∧ Kept (fun _ => False) W w' := by
  obtain ⟨te, pe, rfl⟩ := h.iface
  have HE := hid h; have HG := hid hG; have HT := hid ht; have HWL := hid hwl; have HR := hid (And.intro h0 h1); have HL := hid hL
  have HC := hid (chains_any h hG hL)
  clear h hG ht hwl h0 h1
  go_enter Tryd.func12, Tryd.ntmps12
  go_wp2_with fail
  refine HC.out.mono ?_; rintro e w1 ⟨a, c, ps, rfl, ho, hp, hb, hk⟩
  have HO := hid ho; have HP := hid hp; have HK := hid hk
  clear ho hp hb hk HC
  go_wp2_with fail
  go_loopw [3, 11] (fun s i wr => ∃ k : Nat, k ≤ L.length ∧ i = .int .i64 k ∧ s = .string (txt (L.take k)) ∧ Kept (fun _ => False) w1 wr) (fun _ i _ => L.length - (RowKit.intOf i).toNat)
  case atStart => exact ⟨0, Nat.zero_le _, rfl, rfl, Kept.refl _ _⟩
  case round =>
    rename World => wr
    obtain ⟨k, hk, rfl, rfl, hkp⟩ := hrel
    have HKP := hid hkp
    have KW := hid (HK.out.trans hkp)
    clear hkp
    have hts := txt_size (L.take k) (fun l hl => HWL.out l (List.mem_of_mem_take hl))
    rw [List.length_take] at hts
    by_cases hlt : k < L.length
    · obtain ⟨l, hl⟩ : ∃ l, L[k]? = some l := ⟨_, List.getElem?_eq_getElem hlt⟩
      obtain ⟨b, e, hpb, hrow⟩ := HP.out.2 k l hl
      obtain ⟨g, cap, hse, _, _⟩ := HO.out.some_of_pos (by omega)
      simp only [Value.slice.injEq] at hse
      obtain ⟨rfl, _, rfl⟩ := hse
      have hlen := HP.out.1
      have cs : wr.cell? ⟨g, k, none⟩ = some (.pointer (some ⟨b, 0, none⟩)) := by
        have h1 := HKP.out.cell (HO.out.cells rfl k (by rw [HO.out.len]; omega)) id
        rw [h1]
        have : ps[k]'(by omega) = b := (List.getElem?_eq_some_iff.1 hpb).2
        simp [ptrs, this]
      have hwl := HWL.out l (List.mem_of_getElem? hl)
      have HF := hid (front_any b l e wr ((KW.out.block b (row_lt hrow) id).trans hrow) hwl (HT.out.kept KW.out))
      have hfs := fr_size hwl
      have hkI : (k : Int) < (L.length : Int) := by omega
      have HX := hid (show txt (L.take k) ++ fr l = txt (L.take (k + 1)) by rw [List.take_add_one, hl]; exact (txt_snoc _ _).symm)
      obtain ⟨S, hS⟩ : ∃ S, txt (L.take k) = S := ⟨_, rfl⟩
      obtain ⟨T, hT⟩ : ∃ S, fr l = S := ⟨_, rfl⟩
      rw [hS] at hts HX ⊢
      rw [hT] at hfs HX HF
      have hsz : ¬ 9223372036854775807 < S.size + T.size := by have := HL.out; omega
      clear hS hT hl hrow hpb hlen hwl hts hfs
      go_wp2_with fail
      refine HF.out.mono ?_; rintro e w' ⟨rfl, hk2⟩
      have HK2 := hid hk2
      clear hk2
      go_wp2_with fail
      go_roundw
      case rel => exact ⟨k + 1, by omega, by go_num, by rw [HX.out], HKP.out.trans HK2.out⟩
      case measure => (simp only [RowKit.intOf]; omega)
    · obtain rfl : k = L.length := by omega
      have HCD := hid (code_any (HE.out.kept KW.out (fun _ _ => id)) (HG.out.kept KW.out))
      have hes : (errB r).size ≤ 30 := by
        have := itoa_size HR.out.1 HR.out.2
        have e1 : erB.size = 6 := rfl
        simp only [errB, ByteArray.size_append, e1]; omega
      have HX := hid (show txt (L.take L.length) ++ errB r = text L r by rw [List.take_length]; rfl)
      have hsz : ¬ 9223372036854775807 < (txt (L.take L.length)).size + (errB r).size := by have := HL.out; omega
      obtain ⟨S, hS⟩ : ∃ S, txt (L.take L.length) = S := ⟨_, rfl⟩
      obtain ⟨T, hT⟩ : ∃ S, errB r = S := ⟨_, rfl⟩
      have hEN := hid (fun w ht => errno_any r HR.out.1 HR.out.2 w ht)
      rw [hS] at hsz HX ⊢
      rw [hT] at hsz HX hEN
      clear hS hT hts hes
      go_wp2_with fail
      refine HCD.out.mono ?_; rintro e w' ⟨rfl, hk2⟩
      have HK2 := hid hk2
      clear hk2
      go_wp2_with fail
      refine (hEN.out _ (HT.out.kept (KW.out.trans HK2.out))).mono ?_; rintro e w'' ⟨rfl, hk3⟩
      have HK3 := hid hk3
      clear hk3
      go_wp2_with fail
      go_ret
      exact ⟨retS HX.out, (KW.out.trans HK2.out).trans HK3.out⟩
set_option maxRecDepth 100000 in
theorem text_nil (w : World) : Calls Tryd.prog 12 #[.nilIface] w fun e w' => e = .returned (.string ⟨#[]⟩) ∧ w = w' := by
  go_enter Tryd.func12, Tryd.ntmps12
  go_wp2_with fail
  go_ret
  exact ⟨rfl, rfl⟩
end Go.Proofs.YtlkhbepmkembgaaDoor
