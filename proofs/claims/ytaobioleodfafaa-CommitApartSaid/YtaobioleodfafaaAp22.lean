/- Texts of this claim, merged: Dk, Dl, Hol2. -/
import Derived.Test.YtaobioleodfafaaAp1
import Derived.Test.YtaobioleodfafaaAp2
import Derived.Test.YtaobioleodfafaaAp3
import Derived.Test.YtaobioleodfafaaAp4
import Derived.Test.YtaobioleodfafaaAp5
import Derived.Test.YtaobioleodfafaaAp6
import Derived.Test.YtaobioleodfafaaAp7
import Derived.Test.YtaobioleodfafaaAp8
import Derived.Test.YtaobioleodfafaaAp9
import Derived.Test.YtaobioleodfafaaAp10
import Derived.Test.YtaobioleodfafaaAp11
import Derived.Test.YtaobioleodfafaaAp12
import Derived.Test.YtaobioleodfafaaAp13
import Derived.Test.YtaobioleodfafaaAp14
import Derived.Test.YtaobioleodfafaaAp15
import Derived.Test.YtaobioleodfafaaAp16
import Derived.Test.YtaobioleodfafaaAp17
import Derived.Test.YtaobioleodfafaaAp18
import Derived.Test.YtaobioleodfafaaAp19
import Derived.Test.YtaobioleodfafaaAp20
import Derived.Test.YtaobioleodfafaaAp21
/- The document: DocTake. -/
namespace Go.Proofs.Ytaobioleodfafaa
open Go.RowKit
def stpK (t : Tx) (s : List (Tx × Int) × Bool) (p : Tx × Int) : List (Tx × Int) × Bool := if (!s.2 && decide (ltT t p.1)) then (s.1 ++ [(t, 2)] ++ [p], true) else (s.1 ++ [p], s.2)
def insK (T : List (Tx × Int)) (t : Tx) : List (Tx × Int) := if (T.foldl (stpK t) ([], false)).2 then (T.foldl (stpK t) ([], false)).1 else (T.foldl (stpK t) ([], false)).1 ++ [(t, 2)]
def takeD (z : Bool) (T : List (Tx × Int)) (t : Tx) : Int × List (Tx × Int) := if z then (6, T) else if stK T t = 0 then (0, insK T t) else (7, T)
theorem infoTk : (Try.prog.info? 94).map (fun i => (i.zero, i.size, i.bytes)) = some (some (.agg #[.int .u8 0, .int .u32 0, .int .u32 0, .int .i64 0]), 4, 24) := by kernel_rfl
theorem infoTks : (Try.prog.info? 94).map (·.size) = some 4 := by kernel_rfl
theorem tk_src (w : World) (x1 x2 x3 s : Int) {b : Nat} (hb : w.heap.size = b) : Src (w.alloc (.cells #[.int .u8 x1, .int .u32 x2, .int .u32 x3, .int .i64 s] 94)) 4 (.slice (some ⟨b, 0, none⟩) 1 1) 1 (takC ((x1, x2, x3), s)) := by
  subst hb
  exact src_row rfl (fun j u hu => by rw [row_cell (row_new w _)]; simpa [takC] using hu) (by simp [takC, Value.oneCell'])
theorem Own.same {w w' : World} {E size : Nat} {v : Value} {n : Nat} {xs : List Value} (h : Own w E size v n xs) (k : Kept (fun _ => False) w w') : Own w' E size v n xs := h.kept k (fun _ _ => id)
theorem ob_eq (a : Option Addr) (n n' c : Nat) : (Value.slice a n c).ownBlock = (Value.slice a n' c).ownBlock := by cases a <;> rfl
theorem DBook.newT {own : Nat → Option Tx} {w : World} {xb : Nat} {ra ta : Option Addr} {rc tc : Nat} {G : List (Tx × Rn)} {Z : Tx → Dx} {T : List (Tx × Int)} (h : DBook own w xb ra ta rc tc G Z T) {a : Option Addr} {m c : Nat} {T' : List (Tx × Int)}
    (ho : Own w 94 4 (.slice a m c) m (T'.flatMap takC)) (hm : T'.length = m) (hg : ∀ g, (Value.slice a m c).ownBlock = some g → own g = none) :
    DBook own (w.setCell ⟨xb, 1, none⟩ (.slice a m c)) xb ra a rc c G Z T' ∧ Kept (fun i => i = xb) w (w.setCell ⟨xb, 1, none⟩ (.slice a m c)) := by
  subst hm
  have kk : Kept (fun i => i = xb) w (w.setCell ⟨xb, 1, none⟩ (.slice a T'.length c)) := Kept.setCell (F := fun i => i = xb) (Kept.refl _ _) (p := ⟨xb, 1, none⟩) (.inl rfl) _
  refine ⟨⟨row_set h.obj 1 _, h.runs.kept kk (fun g hg e => h.runs.ne_block h.obj (by decide) (e ▸ hg)), ho.kept kk (fun g hg e => ho.ne_block h.obj (by decide) (e ▸ hg)), fun p hp => (h.run p hp).kept kk (fun i hi e => by rw [e, h.top.1] at hi; cases hi), ⟨h.top.1, h.top.2.1, hg⟩, fun i hi => h.new i (Nat.le_trans kk.size hi)⟩, kk⟩
-- append(out, x): $1 what is appended (four letters), $2 the fact Own of out, $3 m
set_option maxRecDepth 100000 in
set_option maxHeartbeats 2000000 in
theorem kdtake {P : Nat → Prop} {w : World} {z : Bool} {xa : Option Addr} {G : List (Tx × Rn)} {T : List (Tx × Int)} {t1 t2 t3 : Int} (hd : Dk P w z xa G T) (hz : T.length ≤ 100000) :
    Calls Try.prog 27 #[.pointer xa, .agg #[.int .u8 t1, .int .u32 t2, .int .u32 t3]] w fun e w' => e = .returned (.int .i64 (takeD z T (t1, t2, t3)).1) ∧
      Dk (Gr P w w') w' z xa G (takeD z T (t1, t2, t3)).2 ∧ Kept P w w' := by
  have HD0 := hid hd
  rcases hd.bk with ⟨rfl, rfl, rfl, rfl⟩ | ⟨rfl, own, xb, ra, ta, rc, tc, Z, rfl, h, hP⟩
  · have hk1 := (Kept.refl (fun _ => False) w).alloc (.cells #[.int .u8 t1, .int .u32 t2, .int .u32 t3] 28)
    have hkb := row_new w (.cells #[.int .u8 t1, .int .u32 t2, .int .u32 t3] 28)
    obtain ⟨w1, hw1⟩ : ∃ w1, w.alloc (.cells #[.int .u8 t1, .int .u32 t2, .int .u32 t3] 28) = w1 := ⟨_, rfl⟩
    obtain ⟨kb, hkb'⟩ : ∃ kb, w.heap.size = kb := ⟨_, rfl⟩
    rw [hw1] at hk1 hkb
    rw [hkb'] at hkb
    have HD := hid (hd.same hk1); have HK := hid hkb; have K1 := hid hk1
    obtain ⟨d0, d1, d2⟩ := cells3 HK.out
    clear hd hkb hk1
    go_enter Try.func27, Try.ntmps27
    go_wp2_with fail
    try rw [hw1, hkb']
    clear hw1 hkb' d0 d1 d2
    go_ret
    exact ⟨rfl, HD0.out.gr K1.out, K1.out.mono (fun _ _ h => h.elim)⟩
  · have HP := hid hP
    have HB0 := hid h
    clear h hP
    have hk1 := (Kept.refl (fun _ => False) w).alloc (.cells #[.int .u8 t1, .int .u32 t2, .int .u32 t3] 28)
    have hkb := row_new w (.cells #[.int .u8 t1, .int .u32 t2, .int .u32 t3] 28)
    obtain ⟨w1, hw1⟩ : ∃ w1, w.alloc (.cells #[.int .u8 t1, .int .u32 t2, .int .u32 t3] 28) = w1 := ⟨_, rfl⟩
    obtain ⟨kb, hkb'⟩ : ∃ kb, w.heap.size = kb := ⟨_, rfl⟩
    rw [hw1] at hk1 hkb
    rw [hkb'] at hkb
    have HD := hid (hd.same hk1); have HK := hid hkb; have K1 := hid hk1
    obtain ⟨d0, d1, d2⟩ := cells3 HK.out
    clear hd hkb hk1
    go_enter Try.func27, Try.ntmps27
    go_wp2_with fail
    try rw [hw1, hkb']
    clear hw1 hkb' d0 d1 d2
    refine (kdstands HD.out (Nat.le_trans hz (by decide))).mono ?_
    rintro e w2 ⟨rfl, hk2⟩
    have K2 := hid (K1.out.trans hk2)
    have HB2 := hid (HB0.out.same K2.out)
    have HK2 := hid ((hk2.block _ (row_lt HK.out) id).trans HK.out)
    clear hk2 HD K1 HK
    obtain ⟨v, hv⟩ : ∃ v, stK T (t1, t2, t3) = v := ⟨_, rfl⟩
    rw [hv]
    have HV := hid hv
    clear hv
    by_cases hv0 : v = 0
    · have HS := hid (show takeD false T (t1, t2, t3) = (0, insK T (t1, t2, t3)) by unfold takeD; rw [HV.out, if_pos hv0]; rfl)
      subst hv0
      obtain ⟨n, hn⟩ : ∃ n, T.length = n := ⟨_, rfl⟩
      obtain ⟨-, c1⟩ := HB2.out.cells
      rw [hn] at c1 hz
      have HN := hid hn
      clear hn
      go_wp2_with fail
      go_loopw [5, 6, 20] (fun o d i wr => ∃ (k m : Nat) (a : Option Addr) (c : Nat) (O : List (Tx × Int)) (D : Bool), k ≤ n ∧ m ≤ k + 1 ∧ i = .int .i64 k ∧ o = .slice a m c ∧ d = .bool D ∧ (T.take k).foldl (stpK (t1, t2, t3)) ([], false) = (O, D) ∧ (D = false → m ≤ k) ∧ O.length = m ∧ Own wr 94 4 (.slice a m c) m (O.flatMap takC) ∧ (∀ g, (Value.slice a m c).ownBlock = some g → w2.heap.size ≤ g) ∧ Kept (fun _ => False) w2 wr) (fun _ _ i _ => n - (RowKit.intOf i).toNat)
      case atStart => exact ⟨0, 0, none, 0, [], false, Nat.zero_le _, Nat.zero_le _, rfl, rfl, rfl, rfl, fun _ => Nat.le_refl _, rfl, Own.nil _ _ _, fun g hg => by simp [Value.ownBlock] at hg, Kept.refl _ _⟩
      case round =>
        rename World => wr
        obtain ⟨k, m, a, c, O, D, hk, hmk, rfl, rfl, rfl, hfd, hDm, hlen, hown, hbl, hkp⟩ := hrel
        have HFD := hid hfd; have HDM := hid hDm; have HLN := hid hlen; have HO := hid hown; have HBL := hid hbl; have KR := hid hkp
        clear hfd hDm hlen hown hbl hkp
        by_cases hlt : k < n
        · have hltI : (k : Int) < (n : Int) := by omega
          obtain ⟨⟨⟨x1, x2, x3⟩, s0⟩, hgk⟩ : ∃ p, T[k]? = some p := ⟨_, List.getElem?_eq_getElem (by rw [HN.out]; exact hlt)⟩
          have HBR := hid (HB2.out.same KR.out)
          obtain ⟨tb, hta, ⟨e0, e1, e2⟩, e3, -⟩ := HBR.out.tcell hgk
          cases hta
          have hfs := hid (show (T.take (k + 1)).foldl (stpK (t1, t2, t3)) ([], false) = stpK (t1, t2, t3) (O, D) ((x1, x2, x3), s0) by
            rw [List.take_add_one, hgk, List.foldl_append, HFD.out]; rfl)
          clear hgk
          have HKR := hid ((KR.out.block _ (row_lt HK2.out) id).trans HK2.out)
          cases D with
          | true =>
            have HF1 := hid (show stpK (t1, t2, t3) (O, true) ((x1, x2, x3), s0) = (O ++ [((x1, x2, x3), s0)], true) from rfl)
            go_wp2_with (first | (refine wpList_store_row rfl 94 (.tmp 8) (.tmp 23) rfl #[.int .u8 x1, .int .u32 x2, .int .u32 x3, .int .i64 s0] #[.int .u8 0, .int .u32 0, .int .u32 0, .int .i64 0] (by rfl) (by rfl) (by exact row_new _ _) rfl infoTks (by simp [Value.oneCell']) ?_; intro w3 hb3 hk3; obtain ⟨y0, y1, y2, y3⟩ := cells4 hb3; have k3 := ((Kept.refl (fun _ => False) wr).alloc (.cells #[.int .u8 0, .int .u32 0, .int .u32 0, .int .i64 0] 94)).trans' hk3 (fun i e => .inr (by rw [e]; exact Nat.le_refl _)); obtain ⟨d0, d1, d2⟩ := cells3 ((k3.block _ (row_lt HKR.out) id).trans HKR.out); have HB3 := hid hb3; have K3 := hid k3; clear hb3 hk3 k3) | (at_builtin; refine wpList_app rfl _ _ 39 rfl 94 (.agg #[.int .u8 0, .int .u32 0, .int .u32 0, .int .i64 0]) 4 24 Try.underlying39 infoTk rfl (by decide) _ m _ rfl (by exact (HO.out.same K3.out).alloc _) _ rfl 1 _ (tk_src _ x1 x2 x3 s0 (by simp)) (by unfold maxLen; omega) (by omega) ?_; intro a' c' w6 ho6 hk6 hf6 _; have HO4 := hid ho6; have HK4 := hid hk6; have HF4 := hid hf6; clear ho6 hk6 hf6))
            go_roundw
            case rel => exact ⟨k + 1, m + 1, a', c', O ++ [((x1, x2, x3), s0)], true, by omega, by omega, by go_num, rfl, rfl, by rw [hfs.out, HF1.out], fun h => Bool.noConfusion h, by rw [List.length_append, HLN.out]; rfl, by have h := HO4.out; rw [List.flatMap_append]; simpa using h, fun g hg => (HF4.out g hg).elim (fun h => HBL.out g h) (fun h => by have h1 := KR.out.size; have h2 := K3.out.size; simp at h; omega), ((KR.out.trans K3.out).alloc _).trans' HK4.out (fun i hi => .inr (HBL.out i hi))⟩
            case measure => (simp only [RowKit.intOf]; omega)
          | false =>
            have hmk2 := HDM.out rfl
            go_wp2_with (first | (refine wpList_store_row rfl 94 (.tmp 8) (.tmp 23) rfl #[.int .u8 x1, .int .u32 x2, .int .u32 x3, .int .i64 s0] #[.int .u8 0, .int .u32 0, .int .u32 0, .int .i64 0] (by rfl) (by rfl) (by exact row_new _ _) rfl infoTks (by simp [Value.oneCell']) ?_; intro w3 hb3 hk3; obtain ⟨y0, y1, y2, y3⟩ := cells4 hb3; have k3 := ((Kept.refl (fun _ => False) wr).alloc (.cells #[.int .u8 0, .int .u32 0, .int .u32 0, .int .i64 0] 94)).trans' hk3 (fun i e => .inr (by rw [e]; exact Nat.le_refl _)); obtain ⟨d0, d1, d2⟩ := cells3 ((k3.block _ (row_lt HKR.out) id).trans HKR.out); have HB3 := hid hb3; have K3 := hid k3; clear hb3 hk3 k3))
            refine (dless _ (t1, t2, t3) (x1, x2, x3)).mono ?_
            rintro e w4 ⟨rfl, hk4⟩
            obtain ⟨lb, hlb⟩ : ∃ b, decide (ltT (t1, t2, t3) (x1, x2, x3)) = b := ⟨_, rfl⟩
            rw [hlb]
            have K4 := hid (K3.out.trans hk4)
            have hb4 := (hk4.block _ (row_lt HB3.out) id).trans HB3.out
            obtain ⟨y0, y1, y2, y3⟩ := cells4 hb4
            have hkk4 := (K4.out.block _ (row_lt HKR.out) id).trans HKR.out
            obtain ⟨d0, d1, d2⟩ := cells3 hkk4
            have HB4 := hid hb4; have HKK4 := hid hkk4
            have HF1 := hid (show stpK (t1, t2, t3) (O, false) ((x1, x2, x3), s0) = if lb then (O ++ [((t1, t2, t3), 2)] ++ [((x1, x2, x3), s0)], true) else (O ++ [((x1, x2, x3), s0)], false) by unfold stpK; rw [← hlb]; simp)
            clear hk4 hb4 hkk4 hlb
            cases lb with
            | true =>
              go_wp2_with (first | (at_builtin; refine wpList_app rfl _ _ 39 rfl 94 (.agg #[.int .u8 0, .int .u32 0, .int .u32 0, .int .i64 0]) 4 24 Try.underlying39 infoTk rfl (by decide) _ m _ rfl (by exact (HO.out.same K4.out).alloc _) _ rfl 1 _ (tk_src _ t1 t2 t3 2 (by simp)) (by unfold maxLen; omega) (by omega) ?_; intro a1 c1 w5 ho6 hk6 hf6 _; have hb6 := (hk6.block _ (row_lt (row_old HB4.out _)) (fun e => absurd (HO.out.lt e) (Nat.lt_irrefl _))).trans (row_old HB4.out _); obtain ⟨y0, y1, y2, y3⟩ := cells4 hb6; have HO5 := hid ho6; have HK5 := hid hk6; have HF5 := hid hf6; clear ho6 hk6 hf6 hb6) | (at_builtin; refine wpList_app rfl _ _ 39 rfl 94 (.agg #[.int .u8 0, .int .u32 0, .int .u32 0, .int .i64 0]) 4 24 Try.underlying39 infoTk rfl (by decide) _ (m + 1) _ rfl (by exact (HO5.out).alloc _) _ rfl 1 _ (tk_src _ x1 x2 x3 s0 (by simp)) (by unfold maxLen; omega) (by omega) ?_; intro a' c' w6 ho6 hk6 hf6 _; have HO7 := hid ho6; have HK7 := hid hk6; have HF7 := hid hf6; clear ho6 hk6 hf6))
              go_roundw
              case rel =>
                have k5 : Kept (fun _ => False) w2 w5 := ((KR.out.trans K4.out).alloc _).trans' HK5.out (fun i hi => .inr (HBL.out i hi))
                have f5 : ∀ g, (Value.slice a1 (m + 1) c1).ownBlock = some g → w2.heap.size ≤ g := fun g hg => (HF5.out g hg).elim (fun h => HBL.out g h) (fun h => by have h1 := KR.out.size; have h2 := K4.out.size; simp at h; omega)
                exact ⟨k + 1, m + 1 + 1, a', c', O ++ [((t1, t2, t3), 2)] ++ [((x1, x2, x3), s0)], true, by omega, by omega, by go_num, rfl, rfl, by rw [hfs.out, HF1.out]; rfl, (fun h => Bool.noConfusion h), by rw [List.length_append, List.length_append, HLN.out]; rfl, by have h := HO7.out; rw [List.flatMap_append, List.flatMap_append]; simpa using h, fun g hg => (HF7.out g hg).elim (fun h => f5 g h) (fun h => by have h1 := k5.size; simp at h; omega), (k5.alloc _).trans' HK7.out (fun i hi => .inr (f5 i hi))⟩
              case measure => (simp only [RowKit.intOf]; omega)
            | false =>
              go_wp2_with (first | (at_builtin; refine wpList_app rfl _ _ 39 rfl 94 (.agg #[.int .u8 0, .int .u32 0, .int .u32 0, .int .i64 0]) 4 24 Try.underlying39 infoTk rfl (by decide) _ m _ rfl (by exact (HO.out.same K4.out).alloc _) _ rfl 1 _ (tk_src _ x1 x2 x3 s0 (by simp)) (by unfold maxLen; omega) (by omega) ?_; intro a' c' w6 ho6 hk6 hf6 _; have HO5 := hid ho6; have HK5 := hid hk6; have HF5 := hid hf6; clear ho6 hk6 hf6))
              go_roundw
              case rel => exact ⟨k + 1, m + 1, a', c', O ++ [((x1, x2, x3), s0)], false, by omega, by omega, by go_num, rfl, rfl, by rw [hfs.out, HF1.out]; rfl, fun _ => by omega, by rw [List.length_append, HLN.out]; rfl, by have h := HO5.out; rw [List.flatMap_append]; simpa using h, fun g hg => (HF5.out g hg).elim (fun h => HBL.out g h) (fun h => by have h1 := KR.out.size; have h2 := K4.out.size; simp at h; omega), ((KR.out.trans K4.out).alloc _).trans' HK5.out (fun i hi => .inr (HBL.out i hi))⟩
              case measure => (simp only [RowKit.intOf]; omega)
        · obtain rfl : k = n := by omega
          have hT := hid (show T.foldl (stpK (t1, t2, t3)) ([], false) = (O, D) by rw [← HFD.out, ← HN.out, List.take_length])
          have HKR := hid ((KR.out.block _ (row_lt HK2.out) id).trans HK2.out)
          obtain ⟨d0, d1, d2⟩ := cells3 HKR.out
          cases D with
          | true =>
            have hin := hid (show insK T (t1, t2, t3) = O by unfold insK; rw [hT.out]; rfl)
            obtain ⟨hb6, hk6⟩ := (HB2.out.same KR.out).newT HO.out HLN.out (fun g hg => HB2.out.new g (HBL.out g hg))
            have HB6 := hid hb6; have HK6 := hid hk6
            obtain ⟨-, c1⟩ := (HB2.out.same KR.out).cells
            have cf := row_free (HB2.out.same KR.out).obj 1
            clear hb6 hk6
            go_wp2
            go_ret
            rw [HS.out, hin.out]
            have ks := (K2.out.trans KR.out).size
            have k6 : Kept P w _ := ((K2.out.trans KR.out).mono (fun _ _ h => h.elim)).trans' HK6.out (fun i e => .inl (by rw [e]; exact HP.out _ (.inl rfl)))
            refine ⟨rfl, ⟨Gr.lt HD0.out.lt k6.size, .inr ⟨rfl, own, xb, ra, _, rc, _, Z, rfl, HB6.out, ?_⟩⟩, k6⟩
            rintro i (h | h | h | h)
            · exact .inl (HP.out i (.inl h))
            · exact .inl (HP.out i (.inr (.inl h)))
            · exact .inr ⟨Nat.le_trans K2.out.size (HBL.out i ((ob_eq _ _ _ _).trans h)), Nat.lt_of_lt_of_le ((HO.out).lt (g := i) ((ob_eq _ _ _ _).trans h)) HK6.out.size⟩
            · exact .inl (HP.out i (.inr (.inr (.inr h))))
          | false =>
            have hin := hid (show insK T (t1, t2, t3) = O ++ [((t1, t2, t3), 2)] by unfold insK; rw [hT.out]; rfl)
            have HLN2 := hid (show (O ++ [((t1, t2, t3), (2 : Int))]).length = m + 1 by rw [List.length_append, HLN.out]; rfl)
            go_wp2_with (first | (at_builtin; refine wpList_app rfl _ _ 39 rfl 94 (.agg #[.int .u8 0, .int .u32 0, .int .u32 0, .int .i64 0]) 4 24 Try.underlying39 infoTk rfl (by decide) _ m _ rfl (by exact HO.out.alloc _) _ rfl 1 _ (tk_src _ t1 t2 t3 2 (by simp)) (by unfold maxLen; omega) (by omega) ?_; intro a1 c1 w5 ho6 hk6 hf6 _; have k5 : Kept (fun _ => False) w2 w5 := (KR.out.alloc _).trans' hk6 (fun i hi => .inr (HBL.out i hi)); have f5 : ∀ g, (Value.slice a1 (m + 1) c1).ownBlock = some g → w2.heap.size ≤ g := (fun g hg => (hf6 g hg).elim (fun h => HBL.out g h) (fun h => by have h1 := KR.out.size; simp at h; omega)); have HO5 := hid (show Own w5 94 4 (.slice a1 (m + 1) c1) (m + 1) ((O ++ [((t1, t2, t3), (2 : Int))]).flatMap takC) from by rw [List.flatMap_append]; simpa using ho6); have K5 := hid k5; have F5 := hid f5; have c1' := (HB2.out.same k5).cells.2; have cf' := row_free (HB2.out.same k5).obj 1; clear ho6 hk6 hf6 k5 f5))
            obtain ⟨hb6, hk6⟩ := (HB2.out.same K5.out).newT HO5.out HLN2.out (fun g hg => HB2.out.new g (F5.out g hg))
            go_ret
            rw [HS.out, hin.out]
            have HB6 := hid hb6; have HK6 := hid hk6
            have ks := (K2.out.trans K5.out).size
            have k6 : Kept P w _ := ((K2.out.trans K5.out).mono (fun _ _ h => h.elim)).trans' HK6.out (fun i e => .inl (by rw [e]; exact HP.out _ (.inl rfl)))
            refine ⟨rfl, ⟨Gr.lt HD0.out.lt k6.size, .inr ⟨rfl, own, xb, ra, _, rc, _, Z, rfl, HB6.out, ?_⟩⟩, k6⟩
            rintro i (h | h | h | h)
            · exact .inl (HP.out i (.inl h))
            · exact .inl (HP.out i (.inr (.inl h)))
            · exact .inr ⟨Nat.le_trans K2.out.size (F5.out i ((ob_eq _ _ _ _).trans h)), Nat.lt_of_lt_of_le ((HO5.out).lt (g := i) ((ob_eq _ _ _ _).trans h)) HK6.out.size⟩
            · exact .inl (HP.out i (.inr (.inr (.inr h))))
    · have HS := hid (show takeD false T (t1, t2, t3) = (7, T) by unfold takeD; rw [HV.out, if_neg hv0]; rfl)
      have q1 : (v != 0) = true := by simpa using hv0
      clear hv0
      go_wp2
      go_ret
      rw [HS.out]
      exact ⟨rfl, HD0.out.gr K2.out, K2.out.mono (fun _ _ h => h.elim)⟩
end Go.Proofs.Ytaobioleodfafaa
/- The document: DocBegin, plain; a run is added. -/
namespace Go.Proofs.Ytaobioleodfafaa
open Go.RowKit
def rise (ns : List Int) (j : Nat) : List Int := (([0, 1, 2, 3] : List Int).take j).filter (fun v => decide (v ∈ ns))
theorem rise_len (ns : List Int) (j : Nat) (hj : j ≤ 4) : (rise ns j).length ≤ j := by
  unfold rise
  refine Nat.le_trans (List.length_filter_le _ _) ?_
  rw [List.length_take]; exact Nat.min_le_left _ _
theorem rise_succ (ns : List Int) (j : Nat) (hj : j < 4) : rise ns (j + 1) = rise ns j ++ if (j : Int) ∈ ns then [(j : Int)] else [] := by
  unfold rise
  have h : ([0, 1, 2, 3] : List Int)[j]? = some (j : Int) := by
    match j, hj with
    | 0, _ => rfl
    | 1, _ => rfl
    | 2, _ => rfl
    | 3, _ => rfl
  rw [List.take_add_one, h, List.filter_append]
  congr 1
  by_cases e : (j : Int) ∈ ns <;> simp [e]
theorem rise_mem {ns : List Int} (hr : ∀ v ∈ ns, 0 ≤ v ∧ v ≤ 255) (hb : ∀ v ∈ ns, ¬ 4 ≤ v) (v : Int) : v ∈ rise ns 4 ↔ v ∈ ns := by
  unfold rise
  simp only [List.mem_filter, decide_eq_true_eq]
  refine ⟨fun h => h.2, fun h => ⟨?_, h⟩⟩
  have h1 := hr v h; have h2 := hb v h
  obtain rfl | rfl | rfl | rfl : v = 0 ∨ v = 1 ∨ v = 2 ∨ v = 3 := by omega
  all_goals decide
theorem rise_nodup (ns : List Int) (j : Nat) : (rise ns j).Nodup := by
  unfold rise
  exact List.Nodup.sublist (List.filter_sublist.trans (List.take_sublist _ _)) (by decide)
theorem rise_sorted (ns : List Int) (j : Nat) : (rise ns j).Pairwise (fun x y => x ≤ y) := by
  unfold rise
  exact List.Pairwise.sublist (List.filter_sublist.trans (List.take_sublist _ _)) (by decide)
theorem ded_all (ns : List Int) : (ded ns).Nodup ∧ (ded ns).length ≤ ns.length ∧ (∀ x, x ∈ ded ns ↔ x ∈ ns) ∧ ((ded ns).length = ns.length → ded ns = ns) := by
  have h := ded_facts ns ns.length (Nat.le_refl _)
  rwa [List.take_length] at h
theorem rise_ded {ns : List Int} (hr : ∀ v ∈ ns, 0 ≤ v ∧ v ≤ 255) (hb : ∀ v ∈ ns, ¬ 4 ≤ v) : (rise ns 4).length = (ded ns).length := by
  obtain ⟨h1, -, h3, -⟩ := ded_all ns
  exact ((List.perm_ext_iff_of_nodup (rise_nodup ns 4) h1).2 (fun v => by rw [rise_mem hr hb, h3])).length_eq
theorem rise_ordered {ns : List Int} (hr : ∀ v ∈ ns, 0 ≤ v ∧ v ≤ 255) (hb : ∀ v ∈ ns, ¬ 4 ≤ v) (hn : ns.Nodup) : rise ns 4 = ordered ns := by
  have hp : (rise ns 4).Perm ns := (List.perm_ext_iff_of_nodup (rise_nodup ns 4) hn).2 (fun v => by rw [rise_mem hr hb])
  rw [← ordered_perm hp]
  unfold ordered
  exact (List.mergeSort_of_pairwise ((rise_sorted ns 4).imp (fun h => by simpa using h))).symm
theorem boolL_rn0 (ns : List Int) {Y : Int → Bool} (hY : ∀ v, Y v = false) : boolL (rn0 ns) Y = List.replicate ns.length (.bool false) := by
  unfold boolL
  rw [List.eq_replicate_iff]
  refine ⟨by rw [List.length_map, ordered_len]; rfl, fun x hx => ?_⟩
  obtain ⟨v, -, rfl⟩ := List.mem_map.1 hx
  rw [hY]
/-- a run is added -/
theorem DBook.addR {own : Nat → Option Tx} {w w' : World} {xb : Nat} {ra ta : Option Addr} {rc tc : Nat} {G : List (Tx × Rn)} {Z : Tx → Dx} {T : List (Tx × Int)} (h : DBook own w xb ra ta rc tc G Z T) {ra' : Option Addr} {rc' : Nat} {d : Dx} {t : Tx} {r0 : Rn}
    (k : Kept (fun i => i = xb ∨ (Value.slice ra G.length rc).ownBlock = some i) w w') (hobj : w'.heap[xb]? = some (.cells #[.slice ra' (G.length + 1) rc', .slice ta T.length tc] 41 (0, 0)))
    (hruns : Own w' 89 7 (.slice ra' (G.length + 1) rc') (G.length + 1) ((G.flatMap fun p => runC (Z p.1) p.1 p.2) ++ runC d t r0))
    (hra : ∀ g, (Value.slice ra' (G.length + 1) rc').ownBlock = some g → (Value.slice ra G.length rc).ownBlock = some g ∨ w.heap.size ≤ g)
    (hrun : DRun (fun i => i = d.nb ∨ i = d.yb ∨ i = d.db) w' d r0) (hnew : w.heap.size ≤ d.nb ∧ w.heap.size ≤ d.yb ∧ w.heap.size ≤ d.db) (hl : lookG G t = none) :
    ∃ own' Z', DBook own' w' xb ra' ta rc' tc (G ++ [(t, r0)]) Z' T ∧ ∀ i, own' i ≠ none → own i ≠ none ∨ (w.heap.size ≤ i ∧ i < w'.heap.size) := by
  have hno := lookG_none hl
  have hlt := k.size
  have hnb := hrun.nodes.lt (g := d.nb) rfl
  have hyb := row_lt hrun.yes
  have hdb := row_lt hrun.did
  have hxl := row_lt h.obj
  let own' : Nat → Option Tx := fun i => if i = d.nb ∨ i = d.yb ∨ i = d.db then some t else own i
  let Z' : Tx → Dx := fun t' => if t' = t then d else Z t'
  have hZ : ∀ p ∈ G, Z' p.1 = Z p.1 := fun p hp => if_neg (hno p hp)
  have hZt : Z' t = d := if_pos rfl
  have hold : ∀ i, i < w.heap.size → own' i = own i := fun i hi => if_neg (by omega)
  have hown : ∀ i t', own i = some t' → i < w.heap.size := fun i t' hi => by
    rcases Nat.lt_or_ge i w.heap.size with h1 | h1
    · exact h1
    · rw [h.new i h1] at hi; cases hi
  refine ⟨own', Z', ⟨?_, ?_, ?_, ?_, ⟨?_, ?_, ?_⟩, ?_⟩, ?_⟩
  · rw [List.length_append]; exact hobj
  · rw [List.length_append, List.flatMap_append]
    have e1 : G.flatMap (fun p => runC (Z' p.1) p.1 p.2) = G.flatMap (fun p => runC (Z p.1) p.1 p.2) := by
      rw [List.flatMap_def, List.flatMap_def]
      congr 1
      exact List.map_congr_left fun p hp => by rw [hZ p hp]
    rw [e1]
    have e2 : [(t, r0)].flatMap (fun p => runC (Z' p.1) p.1 p.2) = runC d t r0 := by simp [hZt]
    rw [e2]
    exact hruns
  · exact h.takes.kept k (fun g hg e => e.elim (fun e => h.takes.ne_block h.obj (by decide) (e ▸ hg)) (fun e => h.takes.ne h.runs (by decide) hg e))
  · intro p hp
    rcases List.mem_append.1 hp with hp | hp
    · rw [hZ p hp]
      have h1 := (h.run p hp).kept k (fun i hi e => e.elim (fun e => by rw [e, h.top.1] at hi; cases hi) (fun e => by rw [h.top.2.1 i e] at hi; cases hi))
      exact ⟨h1.nodes, h1.yes, h1.did, ⟨by show own' _ = _; rw [hold _ (hown _ _ h1.own.1)]; exact h1.own.1, by show own' _ = _; rw [hold _ (hown _ _ h1.own.2.1)]; exact h1.own.2.1, by show own' _ = _; rw [hold _ (hown _ _ h1.own.2.2)]; exact h1.own.2.2⟩, h1.ne⟩
    · have e : p = (t, r0) := by simpa using hp
      subst e
      show DRun _ _ (Z' t) r0
      rw [hZt]
      exact ⟨hrun.nodes, hrun.yes, hrun.did, ⟨if_pos (.inl rfl), if_pos (.inr (.inl rfl)), if_pos (.inr (.inr rfl))⟩, hrun.ne⟩
  · rw [hold _ hxl]; exact h.top.1
  · intro g hg
    rw [List.length_append] at hg
    have h1 := hra g hg
    have n1 : g ≠ d.nb := fun e => hruns.ne hrun.nodes (by decide) hg (by rw [e]; rfl)
    have n2 : g ≠ d.yb := fun e => hruns.ne_block hrun.yes (by decide) (e ▸ hg)
    have n3 : g ≠ d.db := fun e => hruns.ne_block hrun.did (by decide) (e ▸ hg)
    show (if _ then _ else own g) = none
    rw [if_neg (by simp [n1, n2, n3])]
    exact h1.elim (fun h1 => h.top.2.1 g h1) (fun h1 => h.new g h1)
  · intro g hg
    rw [hold _ (h.takes.lt hg)]
    exact h.top.2.2 g hg
  · intro i hi
    show (if _ then _ else own i) = none
    rw [if_neg (by omega)]
    exact h.new i (by omega)
  · intro i hi
    by_cases e : i = d.nb ∨ i = d.yb ∨ i = d.db
    · right; omega
    · left
      have : own' i = own i := if_neg e
      rwa [this] at hi
end Go.Proofs.Ytaobioleodfafaa
/- A region that draws its order, walked under Till: two operations that are ready at once. -/
namespace Go.Proofs.Ytaobioleodfafaa
open Go.RowKit
theorem till_call2 {P : Program} {ops : Array Oper} {Q : Exit → Act → World → Prop} {md : Region.Mode} {S : World → Prop} {X : Nat} (i j : Nat) {oi oj : Oper} {fuel : Nat} {listed : Array Bool} {a : Act} {w : World} (hr : Region.ready md ops listed = [i, j]) (hoi : ops[i]? = some oi) (hoj : ops[j]? = some oj)
    (hi : ∀ K' : Act → World → Prop, Shut (∀ a w, S w → (S w → wpAnyT P md ops Q S X fuel (listed.setIfInBounds i true) a w) → K' a w) → if Region.wanted oi (yielded ops a.tmps) = true then Oper.wp P oi a w K' Q else K' (a.put oi.dst undef) w)
    (hj : ∀ K' : Act → World → Prop, Shut (∀ a w, S w → (S w → wpAnyT P md ops Q S X fuel (listed.setIfInBounds j true) a w) → K' a w) → if Region.wanted oj (yielded ops a.tmps) = true then Oper.wp P oj a w K' Q else K' (a.put oj.dst undef) w) :
    wpAnyT P md ops Q S X (fuel + 1) listed a w := by
  refine ⟨fun h0 => (by rw [hr] at h0; cases h0), fun k hk => ?_⟩
  rw [hr] at hk
  rcases List.mem_cons.1 hk with rfl | hk
  · exact wpOp_step hoi (fun K' hK => hi K' (fun a w hS hW => hK a w ⟨fun _ => hS, hW hS⟩))
  · have : k = j := by simpa using hk
    subst this
    exact wpOp_step hoj (fun K' hK => hj K' (fun a w hS hW => hK a w ⟨fun _ => hS, hW hS⟩))
end Go.Proofs.Ytaobioleodfafaa
