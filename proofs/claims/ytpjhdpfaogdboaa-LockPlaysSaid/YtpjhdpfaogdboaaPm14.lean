/- Texts of this claim, merged: M, Np, Nq, N, Seg. -/
import Derived.StillTailTactics
import Derived.Test.YtpjhdpfaogdboaaPm1
import Derived.Test.YtpjhdpfaogdboaaPm2
import Derived.Test.YtpjhdpfaogdboaaPm3
import Derived.Test.YtpjhdpfaogdboaaPm4
import Derived.Test.YtpjhdpfaogdboaaPm5
import Derived.Test.YtpjhdpfaogdboaaPm6
import Derived.Test.YtpjhdpfaogdboaaPm7
import Derived.Test.YtpjhdpfaogdboaaPm8
import Derived.Test.YtpjhdpfaogdboaaPm9
import Derived.Test.YtpjhdpfaogdboaaPm10
import Derived.Test.YtpjhdpfaogdboaaPm11
import Derived.Test.YtpjhdpfaogdboaaPm12
import Derived.Test.YtpjhdpfaogdboaaPm13
/- settle's walk. -/
namespace Go.Proofs.Ytpjhdpfaogdboaa
set_option linter.unusedSimpArgs false
set_option linter.unusedVariables false
open Go.RowKit
theorem goS_no {L : List Ow} {k : Nat} {o : Ow} (h : ¬ 0 < o.ws.length) : goS L k o = false := by unfold goS; simp [h]
theorem goS_b1 {L : List Ow} {k : Nat} {o : Ow} (h : (L.any fun x => decide (x.tx ≠ o.tx) && clash x.lk o.ws) = true) : goS L k o = false := by unfold goS; rw [h]; simp
theorem goS_b2 {L : List Ow} {k : Nat} {o : Ow} (h : ((L.take k).any fun x => clash x.ws o.ws) = true) : goS L k o = false := by unfold goS; rw [h]; simp
theorem goS_yes {L : List Ow} {k : Nat} {o : Ow} (h0 : 0 < o.ws.length) (h1 : (L.any fun x => decide (x.tx ≠ o.tx) && clash x.lk o.ws) = false) (h2 : ((L.take k).any fun x => clash x.ws o.ws) = false) : goS L k o = true := by unfold goS; rw [h1, h2]; simp [h0]
theorem stepS_no {S : List Ow × List Tx} {k : Nat} {o : Ow} (h : S.1[k]? = some o) (hg : goS S.1 k o = false) : stepS S k = S := by
  unfold stepS
  rw [h]
  simp [hg]
theorem stepS_yes {S : List Ow × List Tx} {k : Nat} {o : Ow} (h : S.1[k]? = some o) (hg : goS S.1 k o = true) : stepS S k = (S.1.set k (grant o), S.2 ++ [o.tx]) := by
  unfold stepS
  rw [h]
  simp [hg]
/-- what a round of settle keeps -/
structure Stl (own : Nat → Option Tx) (B : Nat) (w w1 : World) (tb mb : Nat) (L : List Ow) (A : Tx → Ad) (S : List Ow × List Tx) (a : Option Addr) (N c : Nat) (ga : Option Addr) (gc : Nat) (A' : Tx → Ad) (wr : World) : Prop where
  t : Tab own B wr tb mb S.1 A'
  e : S.1.map (·.key) = L.map (·.key)
  o : ∀ t, (A' t).ob = (A t).ob
  g : Own wr 32 3 (.slice ga S.2.length gc) S.2.length (S.2.flatMap encT)
  n : ∀ b, (Value.slice ga S.2.length gc).ownBlock = some b → w1.heap.size ≤ b
  l : Lies (fun g => g < w.heap.size ∨ w1.heap.size ≤ g) wr 1 (.slice a N c) N (ptrs (obs A L))
  k : Kept (fun i => ∃ t, own i = some t) w1 wr
  z : S.2.length ≤ S.1.length
theorem Stl.same {own : Nat → Option Tx} {B : Nat} {w w1 : World} {tb mb : Nat} {L : List Ow} {A : Tx → Ad} {S : List Ow × List Tx} {a : Option Addr} {N c : Nat} {ga : Option Addr} {gc : Nat} {A' : Tx → Ad} {wr w' : World} (h : Stl own B w w1 tb mb L A S a N c ga gc A' wr) (k : Kept (fun _ => False) wr w') : Stl own B w w1 tb mb L A S a N c ga gc A' w' :=
  ⟨h.t.same k, h.e, h.o, h.g.kept k (fun _ _ => id), h.n, h.l.same k, h.k.trans (k.mono (fun _ _ h => h.elim)), h.z⟩
theorem rr_free {w : World} {b : Nat} {cs : Array Value} {T : TypeId} (h : w.heap[b]? = some (.cells cs T (0, 0))) (j : Nat) : w.frozen? ⟨b, j, none⟩ = false := row_free h j
theorem set5 {w : World} {a : Ad} {o : Ow} (h : w.heap[a.ob]? = some (owRow a o)) : (w.setCell ⟨a.ob, 5, none⟩ (.slice none 0 0)).heap[a.ob]? = some (owRow ⟨a.ob, a.lb, none, 0⟩ { o with ws := [] }) := by
  rw [row_set h 5 (.slice none 0 0)]
  rfl
set_option maxRecDepth 100000 in
set_option maxHeartbeats 4000000 in
theorem settle_any {own : Nat → Option Tx} {B : Nat} {w : World} {tb mb : Nat} {L : List Ow} {A : Tx → Ad} (hb : Tab own B w tb mb L A) (hL : L.length ≤ 1000000) :
    Calls Try.prog 31 #[.pointer (some ⟨tb, 0, none⟩)] w fun e w' => ∃ A' ga gc, e = .returned (.slice ga (settled L).2.length gc) ∧ Tab own B w' tb mb (settled L).1 A' ∧ (∀ t, (A' t).ob = (A t).ob) ∧ Own w' 32 3 (.slice ga (settled L).2.length gc) (settled L).2.length ((settled L).2.flatMap encT) ∧ (∀ b, (Value.slice ga (settled L).2.length gc).ownBlock = some b → w.heap.size ≤ b) ∧ Kept (fun i => ∃ t, own i = some t) w w' := by
  have HB := hid hb; have HL := hid hL
  clear hb hL
  go_enter Try.func31, Try.ntmps31
  go_wp2_with fail
  refine (all_any HB.out HL.out).mono ?_
  rintro e w1 ⟨a, c, rfl, hl, hk1⟩
  obtain ⟨N, hN⟩ : ∃ N, L.length = N := ⟨_, rfl⟩
  rw [hN] at hl ⊢
  have HN := hid hN
  have hN6 : N ≤ 1000000 := by have := HL.out; omega
  have K1 := hid hk1
  have HS0 := hid (show Stl own B w w1 tb mb L A (setK L 0) a N c none 0 A w1 from ⟨HB.out.same hk1, rfl, fun _ => rfl, Own.nil _ _ _, fun b h => by simp [Value.ownBlock] at h, hl.mono (fun g hg h => h.elim id (fun h => by omega)), Kept.refl _ _, Nat.zero_le _⟩)
  clear hl hk1 hN
  go_wp2_with fail
  go_loopw [3, 14] (fun g i wr => ∃ (k : Nat) (S : List Ow × List Tx) (A' : Tx → Ad) (ga : Option Addr) (gc : Nat), g = .slice ga S.2.length gc ∧ i = .int .i64 k ∧ k ≤ N ∧ setK L k = S ∧ Stl own B w w1 tb mb L A S a N c ga gc A' wr) (fun _ i _ => N - (RowKit.intOf i).toNat)
  case atStart => exact ⟨0, _, A, none, 0, rfl, rfl, Nat.zero_le _, rfl, HS0.out⟩
  case round =>
    rename World => wr
    clear HS0
    obtain ⟨k, S, A', ga, gc, rfl, rfl, hk, hsk, hst⟩ := hrel
    have HST := hid hst; have HSK := hid hsk
    clear hst hsk
    have HLK := hid (show S.1.length = N from by rw [← HSK.out, setK_len]; exact HN.out)
    by_cases hlt : k < N
    · have hltI : (k : Int) < (N : Int) := by omega
      obtain ⟨o, ho⟩ : ∃ o, S.1[k]? = some o := ⟨_, List.getElem?_eq_getElem (by rw [HLK.out]; exact hlt)⟩
      have HO := hid ho
      have HOM := hid (List.mem_of_getElem? ho)
      have hoe : obs A' S.1 = obs A L := obs_eq HST.out.e HST.out.o
      have HOE := hid hoe
      have hl2 := HST.out.l
      have hob : (obs A L)[k]? = some (A' o.tx).ob := by rw [← hoe, obs, List.getElem?_map, ho]; rfl
      obtain ⟨_, hcap, hcm, gb, off, rfl, c0⟩ := lies_ptr hl2 hob
      unfold maxLen at hcm
      have HSS := hid (show setK L (k + 1) = stepS (setK L k) k from rfl)
      obtain ⟨ob, hobb⟩ : ∃ ob, (A' o.tx).ob = ob := ⟨_, rfl⟩
      have HOB := hid hobb
      rw [hobb] at c0
      unfold ptr at c0
      obtain ⟨W2, hW2⟩ : ∃ W2, wr.alloc (.cells #[.pointer (some ⟨ob, 0, none⟩)] 65) = W2 := ⟨_, rfl⟩
      obtain ⟨vb, hvb⟩ : ∃ vb, wr.heap.size = vb := ⟨_, rfl⟩
      have k2 : Kept (fun _ => False) wr W2 := by rw [← hW2]; exact (Kept.refl _ _).alloc _
      have v0 : W2.cell? ⟨vb, 0, none⟩ = some (.pointer (some ⟨ob, 0, none⟩)) := by rw [← hW2, ← hvb]; exact box_new wr _ _
      have HVB := hid (show vb < W2.heap.size by rw [← hW2, ← hvb]; simp)
      have HVW := hid (show wr.heap.size = vb from hvb)
      have ST2 := hid (HST.out.same k2)
      have V2 := hid v0
      clear ho hoe hl2 hob hobb k2
      go_wp2_with fail
      try rw [hW2]
      try rw [hvb]
      clear hW2 hvb c0
      have hwa := waits_any (ST2.out.t.ows o HOM.out)
      rw [HOB.out] at hwa
      refine hwa.mono ?_
      rintro e w' ⟨rfl, rfl⟩
      clear hwa
      by_cases hw0 : 0 < o.ws.length
      · have hd : decide (0 < o.ws.length) = true := by simp [hw0]
        rw [hd]
        have HW0 := hid hw0
        have h1 := ask1 ST2.out.t HOM.out (vb := vb) (by rw [HOB.out]; exact V2.out) (a := some ⟨gb, off, none⟩) (c := c) HLK.out (by rw [HOE.out]; exact ST2.out.l)
        obtain ⟨b1, hb1⟩ : ∃ b, (S.1.any fun x => decide (x.tx ≠ o.tx) && clash x.lk o.ws) = b := ⟨_, rfl⟩
        rw [hb1] at h1
        have H1 := hid h1; have HB1 := hid hb1
        clear hw0 hd h1 hb1
        go_wp2_with fail
        refine H1.out.mono ?_
        rintro e w3 ⟨rfl, hk3⟩
        have ST3 := hid (ST2.out.same hk3)
        have V3 := hid (hk3.cell V2.out id)
        have HVB3 := hid (Nat.lt_of_lt_of_le HVB.out hk3.size)
        clear hk3 H1 v0
        cases b1 with
        | true =>
          have HNO := hid (stepS_no HO.out (goS_b1 HB1.out))
          go_wp2
          go_roundw
          case rel => exact ⟨k + 1, S, A', ga, gc, rfl, by go_num, by omega, by rw [HSS.out]; show stepS (setK L k) k = S; rw [HSK.out]; exact HNO.out, ST3.out⟩
          case measure => (simp only [RowKit.intOf]; omega)
        | false =>
          have v0 := V3.out
          have h2 := ask2 ST3.out.t HOM.out (vb := vb) (by rw [HOB.out]; exact V3.out) (g := gb) (off := off) (c := c) (k := k) (by rw [HLK.out]; omega) HLK.out (by rw [HOE.out]; exact ST3.out.l)
          obtain ⟨b2, hb2⟩ : ∃ b, ((S.1.take k).any fun x => clash x.ws o.ws) = b := ⟨_, rfl⟩
          rw [hb2] at h2
          have H2 := hid h2; have HB2 := hid hb2
          clear h2 hb2
          go_wp2_with fail
          refine H2.out.mono ?_
          rintro e w4 ⟨rfl, hk4⟩
          have ST4 := hid (ST3.out.same hk4)
          have V4 := hid (hk4.cell V3.out id)
          have HVB4 := hid (Nat.lt_of_lt_of_le HVB3.out hk4.size)
          clear hk4 H2 v0 ST3 V3 ST2 V2
          cases b2 with
          | true =>
            have HNO := hid (stepS_no HO.out (goS_b2 HB2.out))
            go_wp2
            go_roundw
            case rel => exact ⟨k + 1, S, A', ga, gc, rfl, by go_num, by omega, by rw [HSS.out]; show stepS (setK L k) k = S; rw [HSK.out]; exact HNO.out, ST4.out⟩
            case measure => (simp only [RowKit.intOf]; omega)
          | false =>
            have hoi := ST4.out.t.ows o HOM.out
            obtain ⟨⟨ob', lb, wa, wc⟩, had⟩ : ∃ ad, A' o.tx = ad := ⟨_, rfl⟩
            obtain rfl : ob' = ob := by rw [← HOB.out, had]
            rw [had] at hoi
            have HAD := hid had
            have HOI := hid hoi
            obtain ⟨x0, x1, x2, _, c4, c5, _⟩ := cells7 hoi.obj
            have v0 := V4.out
            obtain ⟨n, hn⟩ : ∃ n, o.ws.length = n := ⟨_, rfl⟩
            have hwl := hoi.ws
            simp only at hwl c4 c5
            rw [hn] at hwl c5
            have HWL := hid hwl; have HNN := hid hn
            have hnb := lies_len hwl
            obtain ⟨E0, hm0, he0⟩ := hoi.map
            have HLB := hid (show ob' ≠ lb from fun e => by
              obtain ⟨es, c, hm, _⟩ := hm0
              have h1 := hoi.obj
              simp only at h1
              rw [e, hm] at h1
              cases h1)
            have HVL := hid (show vb ≠ lb from fun e => by
              have h1 := hoi.own.2
              simp only at h1
              rw [← e, HST.out.t.new vb (by have := HVW.out; omega)] at h1
              cases h1)
            have M0 := hid hm0; have E0' := hid he0
            have HGO := hid (goS_yes HW0.out HB1.out HB2.out)
            have HOK := hid (ST4.out.t.ok o HOM.out)
            clear had hoi hwl hn hm0 he0
            go_wp2_with fail
            go_loopw [39] (fun i2 wv => ∃ (j : Nat) (E : List (Int × Value)), j ≤ n ∧ i2 = .int .i64 j ∧ MapIs wv lb .u32 E ∧ LkE E ((o.ws.take j).foldl addW o.lk) ∧ Kept (fun g => g = lb) w4 wv) (fun i2 _ => n - (RowKit.intOf i2).toNat)
            case atStart => exact ⟨0, E0, Nat.zero_le _, rfl, M0.out, E0'.out, Kept.refl _ _⟩
            case round =>
              rename World => wv
              clear M0 E0'
              obtain ⟨j, E, hj, rfl, hme, hle, hkv⟩ := hrel
              have ME := hid hme; have LE := hid hle; have KV := hid hkv
              clear hme hle hkv
              by_cases hjt : j < n
              · have hjI : (j : Int) < (n : Int) := by omega
                obtain ⟨x, hx⟩ : ∃ x, o.ws[j]? = some x := ⟨_, List.getElem?_eq_getElem (by rw [HNN.out]; exact hjt)⟩
                have HX := hid hx
                obtain ⟨_, hcap2, hcm2, gb2, off2, rfl, z0, z1⟩ := lies_w (HWL.out.kept KV.out (fun g _ e => .inr (.inl e))) hx
                obtain ⟨v, m⟩ := x
                simp only at z0 z1
                obtain ⟨W5, hW5⟩ : ∃ W5, wv.alloc (.cells #[.int .u32 v, .int .u8 m] 36) = W5 := ⟨_, rfl⟩
                obtain ⟨xb, hxb⟩ : ∃ xb, wv.heap.size = xb := ⟨_, rfl⟩
                have k5 : Kept (fun _ => False) wv W5 := by rw [← hW5]; exact (Kept.refl _ _).alloc _
                obtain ⟨q0, q1⟩ := want_new wv v m
                rw [hW5, hxb] at q0 q1
                have y0 : W5.cell? ⟨vb, 0, none⟩ = some (.pointer (some ⟨ob', 0, none⟩)) := k5.cell (KV.out.cell v0 HVL.out) id
                have y4 : W5.cell? ⟨ob', 4, none⟩ = some (.map (some lb)) := k5.cell (KV.out.cell c4 HLB.out) id
                have hlk : ∀ W, Kept (fun _ => False) wv W → (Instr.lookup 66 (.map (some lb)) (.int .u32 v) false).run Try.prog W = .ok (.int .u8 (mdOf ((o.ws.take j).foldl addW o.lk) v)) W := fun W k => by
                  have hm := ME.out.of_block (k.block _ ME.out.lt id)
                  have he := LE.out.1 v
                  unfold mdOf
                  cases hl : lkw ((o.ws.take j).foldl addW o.lk) v with
                  | none =>
                    rw [hl] at he
                    exact hm.run_look_none Try.underlying66 Try.underlying26 (z := .int .u8 0) (by kernel_rfl) he false
                  | some y =>
                    rw [hl] at he
                    exact hm.run_look_some Try.underlying66 Try.underlying26 he false
                have lk5 := hlk W5.drew k5.drew
                obtain ⟨md, hmd⟩ : ∃ md, mdOf ((o.ws.take j).foldl addW o.lk) v = md := ⟨_, rfl⟩
                rw [hmd] at lk5
                have HMD := hid hmd
                have hlr := (grant_lk (o.ws.take j) o.lk HOK.out.r HOK.out.f (fun y hy => HOK.out.g y (List.mem_of_mem_take hy))).1
                have LE6 := hid (show LkE (lay E v (.int .u8 (max md m))) ((o.ws.take (j + 1)).foldl addW o.lk) from by
                  have e1 : o.ws.take (j + 1) = o.ws.take j ++ [(v, m)] := by rw [List.take_add_one, HX.out]; rfl
                  rw [e1, List.foldl_append, ← HMD.out]
                  have := (HOK.out.g (v, m) (List.mem_of_getElem? HX.out)).2.2
                  exact lke_lay LE.out hlr v m (by simp only at this; omega))
                have M5 := hid (ME.out.of_block (k5.drew.block _ ME.out.lt id))
                have K5 := hid (KV.out.trans (k5.drew.mono (fun _ _ h => h.elim)))
                have HXB := hid hxb
                clear hx hcm2 k5 hlk hmd hlr c4 c5
                go_wp2_with fail
                try rw [hW5]
                try rw [hxb]
                clear hW5 hxb
                refine wp_region_still_tail 16 (by kernel_rfl) (by kernel_rfl) ?_
                simp only [List.take_succ_cons, List.take_zero, List.drop_succ_cons, List.drop_zero, World.drew_eq]
                iterate 16 still_step
                refine wpStill_nil ?_
                change wpList _ _ _ _ _ (World.drew _)
                refine wpList_lay rfl 66 26 5 (.tmp 46) (.tmp 48) (.tmp 58) rfl lb .u32 v (.int .u8 (max md m)) (by rfl) (by rfl) (by rfl) Try.underlying66 Try.underlying26 E (by exact M5.out) ?_
                intro w6 hm6 hk6
                have M6 := hid hm6; have K6 := hid (K5.out.trans hk6)
                clear hm6 hk6
                go_wp2
                go_roundw
                case rel => exact ⟨j + 1, _, by omega, by go_num, M6.out, LE6.out, K6.out⟩
                case measure => (simp only [RowKit.intOf]; omega)
              · obtain rfl : j = n := by omega
                have v1 := KV.out.cell v0 HVL.out
                have hobj := (KV.out.block _ (row_lt HOI.out.obj) HLB.out).trans HOI.out.obj
                obtain ⟨y0, y1, y2, _, _, _, _⟩ := cells7 hobj
                have HOB5 := hid (set5 hobj)
                have hfr := rr_free hobj 5
                have hvo : vb ≠ ob' := fun e => by
                  have h1 := HOI.out.own.1
                  simp only at h1
                  rw [← e, HST.out.t.new vb (by have := HVW.out; omega)] at h1
                  cases h1
                have hin : OwIn (fun i => own i = some o.tx) (wv.setCell ⟨ob', 5, none⟩ (.slice none 0 0)) ⟨ob', lb, none, 0⟩ (grant o) := by
                  refine ⟨HOB5.out, ⟨E, ME.out.of_block (((Kept.refl (fun i => i = ob') wv).setCell (p := ⟨ob', 5, none⟩) (.inl rfl) _).block lb ME.out.lt (fun e => HLB.out e.symm)), ?_⟩, Lies.nil _ _ _, HOI.out.own⟩
                  have := LE.out
                  rw [← HNN.out, List.take_of_length_le (Nat.le_refl _)] at this
                  exact this
                have k47 : Kept (fun i => own i = some o.tx) w4 (wv.setCell ⟨ob', 5, none⟩ (.slice none 0 0)) := (KV.out.mono (fun g _ e => by rw [e]; exact HOI.out.own.2)).setCell (.inl HOI.out.own.1) _
                have T7 := hid (ST4.out.t.put HO.out (o' := grant o) rfl (a' := ⟨ob', lb, none, 0⟩) (by rw [HAD.out]) hin (grant_ok HOK.out) k47)
                have G7 := hid (ST4.out.g.kept k47 (fun b hb h => by
                  have := ST4.out.n b hb
                  rw [HB.out.new b (Nat.le_trans K1.out.size this)] at h
                  cases h))
                have L7 := hid (ST4.out.l.kept k47 (fun g hg h => by
                  rcases Nat.lt_or_ge g w.heap.size with h1 | h1
                  · exact .inl h1
                  · rw [HB.out.new g h1] at h; cases h))
                have K7 := hid (ST4.out.k.trans (k47.mono (fun i _ h => ⟨_, h⟩)))
                obtain ⟨W7, hW7⟩ : ∃ W7, wv.setCell ⟨ob', 5, none⟩ (.slice none 0 0) = W7 := ⟨_, rfl⟩
                rw [hW7] at T7 G7 L7 K7
                have v7 : W7.cell? ⟨vb, 0, none⟩ = some (.pointer (some ⟨ob', 0, none⟩)) := by rw [← hW7]; exact ((Kept.refl (fun i => i = ob') wv).setCell (p := ⟨ob', 5, none⟩) (.inl rfl) _).cell v1 hvo
                have r7 : W7.heap[ob']? = some (owRow ⟨ob', lb, none, 0⟩ { o with ws := [] }) := by rw [← hW7]; exact HOB5.out
                obtain ⟨x0, x1, x2, _, _, _, _⟩ := cells7 r7
                obtain ⟨m, hm⟩ : ∃ m, S.2.length = m := ⟨_, rfl⟩
                have hm6 : m ≤ 1000000 := by have := ST4.out.z; have := HLK.out; omega
                have HMM := hid hm
                rw [hm] at G7
                rw [hm]
                have HT := hid (show (S.2 ++ [o.tx]).flatMap encT = S.2.flatMap encT ++ encT o.tx by simp)
                clear hin k47 hm r7 hobj y0 y1 y2 hvo c4 c5 v0
                go_wp2_with (at_builtin; refine wpList_app rfl _ _ 27 rfl 32 (txv (0, 0, 0)) 3 12 Try.underlying27 infoT rfl (by decide) (.slice ga m gc) m _ rfl (by (try rw [hW7]); exact G7.out.alloc _) _ rfl 1 _ (tx_src _ o.tx.1 o.tx.2.1 o.tx.2.2 rfl) (by unfold maxLen; omega) (by omega) ?_; intro ga2 gc2 w8 ho3 hk3 hf3 _; (try rw [hW7] at ho3 hk3 hf3); have HA8 := hid ho3; have HK8 := hid hk3; have HF8 := hid hf3; clear ho3 hk3 hf3)
                have k78 : Kept (fun i => (Value.slice ga m gc).ownBlock = some i) W7 w8 := ((Kept.refl _ W7).alloc _).trans HK8.out
                have hgn : ∀ i, (Value.slice ga m gc).ownBlock = some i → w1.heap.size ≤ i := fun i h => ST4.out.n i (by rw [HMM.out]; exact h)
                have s01 := K1.out.size
                have HS8 := hid (show Stl own B w w1 tb mb L A (S.1.set k (grant o), S.2 ++ [o.tx]) (some ⟨gb, off, none⟩) N c ga2 gc2 (fun t => if t = o.tx then ⟨ob', lb, none, 0⟩ else A' t) w8 from by
                  have hln : (S.2 ++ [o.tx]).length = m + 1 := by rw [List.length_append, HMM.out]; rfl
                  refine ⟨T7.out.kept k78 (fun i hi h => ?_), ?_, fun t => ?_, ?_, fun b hb => ?_, L7.out.kept k78 (fun i _ h => .inr (hgn i h)), K7.out.trans' k78 (fun i h => .inr (hgn i h)), ?_⟩
                  · have h1 := hgn i h
                    exact ⟨HB.out.new i (by omega), fun e => by have := row_lt HB.out.obj; omega, fun e => by have := HB.out.mlt; omega⟩
                  · rw [← ST4.out.e]
                    have := stepS_txs S k
                    rw [stepS_yes HO.out HGO.out] at this
                    exact this
                  · show (if t = o.tx then (⟨ob', lb, none, 0⟩ : Ad) else A' t).ob = (A t).ob
                    split
                    · rename_i e
                      rw [← HST.out.o t, e]
                      exact HOB.out.symm
                    · exact HST.out.o t
                  · show Own w8 32 3 (.slice ga2 (S.2 ++ [o.tx]).length gc2) (S.2 ++ [o.tx]).length ((S.2 ++ [o.tx]).flatMap encT)
                    rw [hln, HT.out]
                    exact HA8.out
                  · have hb' : (Value.slice ga2 (m + 1) gc2).ownBlock = some b := by
                      have hb2 : (Value.slice ga2 (S.2 ++ [o.tx]).length gc2).ownBlock = some b := hb
                      rwa [hln] at hb2
                    rcases HF8.out b hb' with h | h
                    · exact hgn b h
                    · have := K7.out.size
                      simp at h
                      omega
                  · show (S.2 ++ [o.tx]).length ≤ (S.1.set k (grant o)).length
                    rw [hln, List.length_set, HLK.out]
                    have h9 := setK_cnt L k
                    rw [HSK.out, HMM.out] at h9
                    omega)
                go_roundw
                case rel => exact ⟨k + 1, _, _, ga2, gc2, by rw [List.length_append, HMM.out]; rfl, by go_num, by omega, by rw [HSS.out, HSK.out]; exact stepS_yes HO.out HGO.out, HS8.out⟩
                case measure => (simp only [RowKit.intOf]; omega)
      · have hd : decide (0 < o.ws.length) = false := by simp [hw0]
        rw [hd]
        have HNO := hid (stepS_no HO.out (goS_no hw0))
        clear hw0 hd v0
        go_wp2
        go_roundw
        case rel => exact ⟨k + 1, S, A', ga, gc, rfl, by go_num, by omega, by rw [HSS.out]; show stepS (setK L k) k = S; rw [HSK.out]; exact HNO.out, ST2.out⟩
        case measure => (simp only [RowKit.intOf]; omega)
    · obtain rfl : k = N := by omega
      have hse : settled L = S := by unfold settled; rw [HN.out]; exact HSK.out
      have HSE := hid hse
      clear hse
      go_wp2
      go_ret
      rw [HSE.out]
      exact ⟨A', ga, gc, rfl, HST.out.t, HST.out.o, HST.out.g, fun b hb => Nat.le_trans K1.out.size (HST.out.n b hb), (K1.out.mono (fun _ _ h => h.elim)).trans HST.out.k⟩
end Go.Proofs.Ytpjhdpfaogdboaa
/- Plain: ask, hold, release; what holds at every moment. -/
namespace Go.Proofs.Ytpjhdpfaogdboaa
set_option linter.unusedSimpArgs false
set_option linter.unusedVariables false
open Go.RowKit
def emptyO (t : Tx) (age : Int) : Ow := ⟨t, age, [], [], false⟩
def hurt (o : Ow) (ws : List Wt) (x : Ow) : Bool := decide (x.tx ≠ o.tx) && (!x.fast && (decide (ltO o.key x.key) && clash x.lk ws))
def insO (o : Ow) : List Ow → List Ow
  | [] => [o]
  | x :: l => if ltO o.key x.key then o :: x :: l else x :: insO o l
def dropO (L : List Ow) (t : Tx) : List Ow := L.filter fun x => decide (x.tx ≠ t)
def layO (L : List Ow) (o : Ow) : List Ow := insO o (dropO L o.tx)

def askL (L : List Ow) (o : Ow) (ws : List Wt) : List Ow := layO (L.filter fun x => !hurt o ws x) { o with ws := ws }
def whoO (L : List Ow) (t : Tx) (age : Int) : Ow := (findO L t).getD (emptyO t age)
/-- may it ask? -/
def stO (L : List Ow) (t : Tx) (age : Int) (ws : List Wt) : Int :=
  if chkW ws ≠ 0 then chkW ws else if 0 < (whoO L t age).ws.length ∨ (whoO L t age).fast = true ∨ (whoO L t age).age ≠ age then 9 else if 256 < cnt L + ws.length then 10 else 0
def askP (L : List Ow) (t : Tx) (age : Int) (ws : List Wt) : List Ow := if stO L t age ws = 0 then (settled (askL L (whoO L t age) ws)).1 else L
def askG (L : List Ow) (t : Tx) (age : Int) (ws : List Wt) : List Tx := if stO L t age ws = 0 then (settled (askL L (whoO L t age) ws)).2 else []
def askD (L : List Ow) (t : Tx) (age : Int) (ws : List Wt) : List Tx := if stO L t age ws = 0 then (L.filter (hurt (whoO L t age) ws)).map (·.tx) else []
def fastO (t : Tx) (o : Ow) : Ow := if o.tx = t then { o with fast := true } else o
def holdE (L : List Ow) (t : Tx) : Int := match findO L t with
  | none => 6
  | some o => if 0 < o.ws.length then 9 else 0
def holdP (L : List Ow) (t : Tx) : List Ow := if holdE L t = 0 then L.map (fastO t) else L
def relP (L : List Ow) (t : Tx) : List Ow := if (findO L t).isSome then (settled (dropO L t)).1 else L
def relG (L : List Ow) (t : Tx) : List Tx := if (findO L t).isSome then (settled (dropO L t)).2 else []
def locksP (L : List Ow) (t : Tx) : List Wt := ((findO L t).map (·.lk)).getD []
def waitP (L : List Ow) : List Tx := (L.filter fun o => decide (0 < o.ws.length)).map (·.tx)
/-! ### clash -/
theorem clash_iff {a b : List Wt} : clash a b = true ↔ ∃ x ∈ a, ∃ y ∈ b, x.1 = y.1 ∧ (x.2 = 2 ∨ y.2 = 2) := by
  unfold clash
  simp only [List.any_eq_true, Bool.and_eq_true, Bool.or_eq_true, decide_eq_true_eq]
theorem clash_comm (a b : List Wt) : clash a b = clash b a := by
  rw [Bool.eq_iff_iff, clash_iff, clash_iff]
  constructor
  · rintro ⟨x, hx, y, hy, e, h⟩; exact ⟨y, hy, x, hx, e.symm, h.symm⟩
  · rintro ⟨x, hx, y, hy, e, h⟩; exact ⟨y, hy, x, hx, e.symm, h.symm⟩
theorem clash_nil (a : List Wt) : clash a [] = false := by
  rw [← Bool.not_eq_true, clash_iff]
  rintro ⟨x, _, y, hy, _⟩
  cases hy
theorem clash_nil' (a : List Wt) : clash [] a = false := by rw [clash_comm, clash_nil]
/-- what a grant adds -/
theorem fold_mem (ws : List Wt) : ∀ (l : List Wt) (x : Wt), x ∈ ws.foldl addW l → (∃ y, (y ∈ l ∨ y ∈ ws) ∧ y.1 = x.1 ∧ y.2 = x.2) := by
  induction ws with
  | nil => exact fun l x h => ⟨x, .inl h, rfl, rfl⟩
  | cons w ws ih =>
    intro l x h
    obtain ⟨y, hy, e1, e2⟩ := ih (addW l w) x h
    rcases hy with hy | hy
    · rcases addW_mem w l y hy with h1 | h1 | ⟨z, hz, e, h1⟩
      · exact ⟨y, .inl h1, e1, e2⟩
      · exact ⟨y, .inr (by rw [h1]; exact List.mem_cons_self), e1, e2⟩
      · have hm : max z.2 w.2 = z.2 ∨ max z.2 w.2 = w.2 := by omega
        rw [h1] at e1 e2
        simp only at e1 e2
        rcases hm with hm | hm
        · exact ⟨z, .inl hz, by omega, by omega⟩
        · exact ⟨w, .inr List.mem_cons_self, by omega, by omega⟩
    · exact ⟨y, .inr (List.mem_cons_of_mem _ hy), e1, e2⟩
theorem add_keep (w : Wt) : ∀ (l : List Wt) (x : Wt), x ∈ l → ∃ y ∈ addW l w, y.1 = x.1 ∧ (y.2 = x.2 ∨ y.2 = max x.2 w.2)
  | [], _, h => by cases h
  | a :: l, x, h => by
    unfold addW
    by_cases e : a.1 = w.1
    · rw [if_pos e]
      rcases List.mem_cons.1 h with rfl | h
      · exact ⟨_, List.mem_cons_self, rfl, .inr rfl⟩
      · exact ⟨x, List.mem_cons_of_mem _ h, rfl, .inl rfl⟩
    · rw [if_neg e]
      by_cases e2 : w.1 < a.1
      · rw [if_pos e2]
        exact ⟨x, List.mem_cons_of_mem _ h, rfl, .inl rfl⟩
      · rw [if_neg e2]
        rcases List.mem_cons.1 h with rfl | h
        · exact ⟨x, List.mem_cons_self, rfl, .inl rfl⟩
        · obtain ⟨y, hy, e1⟩ := add_keep w l x h
          exact ⟨y, List.mem_cons_of_mem _ hy, e1⟩
theorem add_self (w : Wt) : ∀ (l : List Wt), ∃ y ∈ addW l w, y.1 = w.1 ∧ w.2 ≤ y.2
  | [] => ⟨w, by simp [addW], rfl, Int.le_refl _⟩
  | a :: l => by
    unfold addW
    by_cases e : a.1 = w.1
    · rw [if_pos e]
      exact ⟨_, List.mem_cons_self, e, by simp only; omega⟩
    · rw [if_neg e]
      by_cases e2 : w.1 < a.1
      · rw [if_pos e2]
        exact ⟨w, List.mem_cons_self, rfl, Int.le_refl _⟩
      · rw [if_neg e2]
        obtain ⟨y, hy, h⟩ := add_self w l
        exact ⟨y, List.mem_cons_of_mem _ hy, h⟩
theorem fold_keep (ws : List Wt) : ∀ (l : List Wt), Fm ws → ∀ x ∈ l, x.2 ≤ 2 → ∃ y ∈ ws.foldl addW l, y.1 = x.1 ∧ x.2 ≤ y.2 ∧ y.2 ≤ 2 := by
  induction ws with
  | nil => exact fun l _ x h hx => ⟨x, h, rfl, Int.le_refl _, hx⟩
  | cons w ws ih =>
    intro l hw x h hx
    obtain ⟨y, hy, e1, e2⟩ := add_keep w l x h
    have h2 := (hw w List.mem_cons_self).2.2
    obtain ⟨z, hz, e3, e4, e5⟩ := ih (addW l w) (fun a ha => hw a (List.mem_cons_of_mem _ ha)) y hy (by omega)
    exact ⟨z, hz, by omega, by omega, e5⟩
theorem clash_grant {o : Ow} {b : List Wt} (h : clash (grant o).lk b = true) : clash o.lk b = true ∨ clash o.ws b = true := by
  obtain ⟨x, hx, y, hy, e, hm⟩ := clash_iff.1 h
  obtain ⟨z, hz, e1, e2⟩ := fold_mem o.ws o.lk x hx
  rcases hz with hz | hz
  · exact .inl (clash_iff.2 ⟨z, hz, y, hy, e1.trans e, by omega⟩)
  · exact .inr (clash_iff.2 ⟨z, hz, y, hy, e1.trans e, by omega⟩)
theorem clash_keep {o : Ow} {b : List Wt} (hf : Fm o.lk) (hg : Fm o.ws) (h : clash o.lk b = true) : clash (grant o).lk b = true := by
  obtain ⟨x, hx, y, hy, e, hm⟩ := clash_iff.1 h
  have h2 := (hf x hx).2.2
  obtain ⟨z, hz, e1, e2, e3⟩ := fold_keep o.ws o.lk hg x hx (by omega)
  exact clash_iff.2 ⟨z, hz, y, hy, e1.trans e, by omega⟩
theorem grant_has {o : Ow} (h : 0 < o.ws.length) : 0 < (grant o).lk.length := by
  obtain ⟨tx, age, lk, ws, fast⟩ := o
  show 0 < (ws.foldl addW lk).length
  simp only at h
  have h1 : ∀ (ws : List Wt) (l : List Wt), 0 < l.length → 0 < (ws.foldl addW l).length := by
    intro ws
    induction ws with
    | nil => exact fun l h => h
    | cons w ws ih =>
      intro l _
      refine ih _ ?_
      obtain ⟨y, hy, _⟩ := add_self w l
      exact List.length_pos_of_mem hy
  cases ws with
  | nil => simp at h
  | cons w ws =>
    refine h1 ws _ ?_
    obtain ⟨y, hy, _⟩ := add_self w lk
    exact List.length_pos_of_mem hy
/-! ### what holds at every moment -/
structure Inv0 (L : List Ow) : Prop where
  srt : L.Pairwise fun x y => ltO x.key y.key
  nod : (L.map (·.tx)).Nodup
  ok : ∀ o ∈ L, OkO o
  apart : ∀ x ∈ L, ∀ y ∈ L, x.tx ≠ y.tx → clash x.lk y.lk = false
  fst : ∀ o ∈ L, o.fast = true → o.ws = []
  wait : ∀ a ∈ L, ∀ y ∈ L, ltO a.key y.key → y.fast = false → clash y.lk a.ws = false
def Done (L : List Ow) (k : Nat) : Prop := ∀ i o, i < k → L[i]? = some o → goS L i o = false
structure Inv (L : List Ow) : Prop extends Inv0 L where
  done : Done L L.length
theorem goS_iff {L : List Ow} {i : Nat} {o : Ow} : goS L i o = true ↔ 0 < o.ws.length ∧ (∀ x ∈ L, x.tx ≠ o.tx → clash x.lk o.ws = false) ∧ ∀ x ∈ L.take i, clash x.ws o.ws = false := by
  unfold goS
  simp only [Bool.and_eq_true, decide_eq_true_eq, Bool.not_eq_true', List.any_eq_false, Bool.and_eq_true, decide_eq_true_eq, not_and, Bool.not_eq_true]
theorem nodup_at {L : List Ow} (hn : (L.map (·.tx)).Nodup) {i j : Nat} {x y : Ow} (hi : L[i]? = some x) (hj : L[j]? = some y) (e : x.tx = y.tx) : i = j := by
  have h1 : (L.map (·.tx))[i]? = some x.tx := by rw [List.getElem?_map, hi]; rfl
  have h2 : (L.map (·.tx))[j]? = some x.tx := by rw [List.getElem?_map, hj, e]; rfl
  have hp := List.pairwise_iff_getElem.1 hn
  obtain ⟨l1, e1⟩ := List.getElem?_eq_some_iff.1 h1
  obtain ⟨l2, e2⟩ := List.getElem?_eq_some_iff.1 h2
  rcases Nat.lt_trichotomy i j with h3 | h3 | h3
  · exact absurd (e1.trans e2.symm) (hp i j l1 l2 h3)
  · exact h3
  · exact absurd (e2.trans e1.symm) (hp j i l2 l1 h3)
theorem mem_set {L : List Ow} {k : Nat} {o o' x : Ow} (hk : L[k]? = some o) (hn : (L.map (·.tx)).Nodup) (ht : o'.tx = o.tx) (h : x ∈ L.set k o') : (x = o' ∨ (x ∈ L ∧ x.tx ≠ o.tx)) := by
  obtain ⟨j, hj⟩ := List.getElem?_of_mem h
  rw [List.getElem?_set] at hj
  split at hj
  · rename_i e
    split at hj
    · exact .inl (Option.some.inj hj).symm
    · cases hj
  · rename_i e
    refine .inr ⟨List.mem_of_getElem? hj, fun he => e ?_⟩
    exact nodup_at hn hk hj he.symm
theorem keys_set {L : List Ow} {k : Nat} {o o' : Ow} (hk : L[k]? = some o) (h : o'.key = o.key) : (L.set k o').map (·.key) = L.map (·.key) := by
  rw [List.map_set]
  apply List.ext_getElem?
  intro j
  rw [List.getElem?_set]
  split
  · rename_i e; subst e
    have hl := (List.getElem?_eq_some_iff.1 hk).1
    rw [List.length_map, if_pos hl, List.getElem?_map, hk, h]
    rfl
  · rfl
theorem txs_key (L : List Ow) : L.map (·.tx) = (L.map (·.key)).map (·.2) := by rw [List.map_map]; rfl
theorem srt_key {L : List Ow} : (L.Pairwise fun x y => ltO x.key y.key) ↔ (L.map (·.key)).Pairwise ltO := by rw [List.pairwise_map]
theorem Inv0.step {L : List Ow} (h : Inv0 L) {k : Nat} {o : Ow} (hk : L[k]? = some o) (hg : goS L k o = true) : Inv0 (L.set k (grant o)) := by
  obtain ⟨g1, g2, g3⟩ := goS_iff.1 hg
  have hks := keys_set (o' := grant o) hk rfl
  have hom := List.mem_of_getElem? hk
  have hnf : o.fast = false := by
    cases hf : o.fast with
    | false => rfl
    | true => have := h.fst o hom hf; rw [this] at g1; simp at g1
  refine ⟨?_, ?_, ?_, ?_, ?_, ?_⟩
  · rw [srt_key, hks, ← srt_key]; exact h.srt
  · rw [txs_key, hks, ← txs_key]; exact h.nod
  · intro x hx
    rcases mem_set (o' := grant o) hk h.nod rfl hx with rfl | ⟨hx, _⟩
    · exact grant_ok (h.ok o hom)
    · exact h.ok x hx
  · have hA : ∀ x ∈ L, x.tx ≠ o.tx → clash (grant o).lk x.lk = false := fun x hx hne => by
      rw [← Bool.not_eq_true]
      intro hc
      rcases clash_grant hc with hc | hc
      · rw [h.apart o hom x hx (Ne.symm hne)] at hc; cases hc
      · rw [clash_comm, g2 x hx hne] at hc; cases hc
    intro x hx y hy hne
    rcases mem_set (o' := grant o) hk h.nod rfl hx with rfl | ⟨hx, hx2⟩
    · rcases mem_set (o' := grant o) hk h.nod rfl hy with rfl | ⟨hy, hy2⟩
      · exact absurd rfl hne
      · exact hA y hy hy2
    · rcases mem_set (o' := grant o) hk h.nod rfl hy with rfl | ⟨hy, hy2⟩
      · rw [clash_comm]; exact hA x hx hx2
      · exact h.apart x hx y hy hne
  · intro x hx hf
    rcases mem_set (o' := grant o) hk h.nod rfl hx with rfl | ⟨hx, hx2⟩
    · rfl
    · exact h.fst x hx hf
  · intro a ha y hy hlt hf
    rcases mem_set (o' := grant o) hk h.nod rfl ha with rfl | ⟨ha, ha2⟩
    · exact clash_nil _
    · rcases mem_set (o' := grant o) hk h.nod rfl hy with rfl | ⟨hy, hy2⟩
      · rw [← Bool.not_eq_true]
        intro hc
        have hlt' : ltO a.key o.key := hlt
        rcases clash_grant hc with hc | hc
        · rw [h.wait a ha o hom hlt' hnf] at hc; cases hc
        · obtain ⟨j, hj⟩ := List.getElem?_of_mem ha
          have hjk : j < k := by
            rcases Nat.lt_trichotomy j k with h1 | h1 | h1
            · exact h1
            · rw [h1, hk] at hj
              exact absurd (congrArg Ow.tx (Option.some.inj hj).symm) ha2
            · obtain ⟨l1, e1⟩ := List.getElem?_eq_some_iff.1 hj
              obtain ⟨l2, e2⟩ := List.getElem?_eq_some_iff.1 hk
              have := List.pairwise_iff_getElem.1 h.srt k j l2 l1 h1
              rw [e1, e2] at this
              exact absurd (ltO_trans this hlt') (ltO_irrefl _)
          have hat : a ∈ L.take k := by
            refine List.mem_of_getElem? (i := j) ?_
            rw [List.getElem?_take, if_pos hjk, hj]
          rw [clash_comm, g3 a hat] at hc
          cases hc
      · exact h.wait a ha y hy hlt hf
theorem Done.step {L : List Ow} (h0 : Inv0 L) {k : Nat} (h : Done L k) {o : Ow} (hk : L[k]? = some o) (hg : goS L k o = true) : Done (L.set k (grant o)) (k + 1) := by
  intro i x hi hx
  have hl := (List.getElem?_eq_some_iff.1 hk).1
  have hom := List.mem_of_getElem? hk
  rcases Nat.lt_succ_iff_lt_or_eq.1 hi with hi | rfl
  · rw [List.getElem?_set, if_neg (by omega)] at hx
    have h1 := h i x hi hx
    rw [← Bool.not_eq_true]
    intro h2
    obtain ⟨a1, a2, a3⟩ := goS_iff.1 h2
    have hxm := List.mem_of_getElem? hx
    have hne : x.tx ≠ o.tx := fun e => by have := nodup_at h0.nod hx hk e; omega
    have h3 : goS L i x = true := goS_iff.2 ⟨a1, fun y hy hyn => by
      by_cases he : y.tx = o.tx
      · obtain ⟨j, hj⟩ := List.getElem?_of_mem hy
        have hjk := nodup_at h0.nod hj hk he
        rw [hjk, hk] at hj
        obtain rfl := Option.some.inj hj
        have hm : grant o ∈ L.set k (grant o) := List.mem_of_getElem? (i := k) (by rw [List.getElem?_set, if_pos rfl, if_pos hl])
        have h4 := a2 _ hm (show o.tx ≠ x.tx from Ne.symm hne)
        rw [← Bool.not_eq_true]
        intro hc
        rw [clash_keep (h0.ok o hom).f (h0.ok o hom).g hc] at h4
        cases h4
      · obtain ⟨j, hj⟩ := List.getElem?_of_mem hy
        have hjk : k ≠ j := fun e => by rw [← e, hk] at hj; exact he (congrArg Ow.tx (Option.some.inj hj).symm)
        exact a2 y (List.mem_of_getElem? (i := j) (by rw [List.getElem?_set, if_neg hjk]; exact hj)) hyn, fun y hy => a3 y (by
          rw [List.take_set_of_le (by omega)]; exact hy)⟩
    rw [h3] at h1
    cases h1
  · rw [List.getElem?_set, if_pos rfl, if_pos hl] at hx
    obtain rfl := Option.some.inj hx
    rw [← Bool.not_eq_true]
    intro h2
    have := (goS_iff.1 h2).1
    exact absurd this (Nat.lt_irrefl _)
theorem setK_inv {L : List Ow} (h : Inv0 L) : ∀ k, k ≤ L.length → Inv0 (setK L k).1 ∧ Done (setK L k).1 k
  | 0, _ => ⟨h, fun i o hi => absurd hi (Nat.not_lt_zero _)⟩
  | k + 1, hk => by
    obtain ⟨h1, h2⟩ := setK_inv h k (by omega)
    show Inv0 (stepS (setK L k) k).1 ∧ Done (stepS (setK L k) k).1 (k + 1)
    have hlen := setK_len L k
    obtain ⟨o, ho⟩ : ∃ o, (setK L k).1[k]? = some o := ⟨_, List.getElem?_eq_getElem (by omega)⟩
    unfold stepS
    rw [ho]
    by_cases hg : goS (setK L k).1 k o = true
    · simp only [hg, if_true]
      exact ⟨h1.step ho hg, h2.step h1 ho hg⟩
    · simp only [hg, if_false, Bool.false_eq_true]
      refine ⟨h1, fun i x hi hx => ?_⟩
      rcases Nat.lt_succ_iff_lt_or_eq.1 hi with hi | rfl
      · exact h2 i x hi hx
      · rw [ho] at hx
        obtain rfl := Option.some.inj hx
        simpa using hg
theorem settled_inv {L : List Ow} (h : Inv0 L) : Inv (settled L).1 := by
  obtain ⟨h1, h2⟩ := setK_inv h L.length (Nat.le_refl _)
  exact ⟨h1, by rw [show (settled L).1.length = L.length from setK_len L _]; exact h2⟩
end Go.Proofs.Ytpjhdpfaogdboaa
/- Plain: the moments stay in form. -/
namespace Go.Proofs.Ytpjhdpfaogdboaa
set_option linter.unusedSimpArgs false
set_option linter.unusedVariables false
open Go.RowKit
theorem insO_perm (o : Ow) : ∀ L : List Ow, (insO o L).Perm (o :: L)
  | [] => List.Perm.refl _
  | x :: l => by
    unfold insO
    split
    · exact List.Perm.refl _
    · exact ((insO_perm o l).cons x).trans (List.Perm.swap _ _ _)
theorem mem_insO {o x : Ow} {L : List Ow} : x ∈ insO o L ↔ x = o ∨ x ∈ L := by rw [(insO_perm o L).mem_iff, List.mem_cons]
theorem mem_dropO {L : List Ow} {t : Tx} {x : Ow} : x ∈ dropO L t ↔ x ∈ L ∧ x.tx ≠ t := by
  unfold dropO
  rw [List.mem_filter, decide_eq_true_eq]
theorem insO_srt {o : Ow} : ∀ {L : List Ow}, L.Pairwise (fun x y => ltO x.key y.key) → (∀ x ∈ L, x.tx ≠ o.tx) → (insO o L).Pairwise fun x y => ltO x.key y.key
  | [], _, _ => by simp [insO]
  | x :: l, h, hn => by
    rw [List.pairwise_cons] at h
    unfold insO
    by_cases hlt : ltO o.key x.key
    · rw [if_pos hlt]
      refine List.pairwise_cons.2 ⟨fun y hy => ?_, List.pairwise_cons.2 h⟩
      rcases List.mem_cons.1 hy with rfl | hy
      · exact hlt
      · exact ltO_trans hlt (h.1 y hy)
    · rw [if_neg hlt]
      refine List.pairwise_cons.2 ⟨fun y hy => ?_, insO_srt h.2 (fun z hz => hn z (List.mem_cons_of_mem _ hz))⟩
      rcases mem_insO.1 hy with rfl | hy
      · by_cases h2 : ltO x.key y.key
        · exact h2
        · have := congrArg Prod.snd (ltO_total hlt h2)
          exact absurd this.symm (hn x List.mem_cons_self)
      · exact h.1 y hy
theorem nodup_insO {o : Ow} {L : List Ow} (h : (L.map (·.tx)).Nodup) (hn : ∀ x ∈ L, x.tx ≠ o.tx) : ((insO o L).map (·.tx)).Nodup := by
  rw [((insO_perm o L).map (·.tx)).nodup_iff, List.map_cons, List.nodup_cons]
  refine ⟨fun hm => ?_, h⟩
  obtain ⟨x, hx, e⟩ := List.mem_map.1 hm
  exact hn x hx e
/-- fewer -/
theorem Inv0.filter {L : List Ow} (h : Inv0 L) (p : Ow → Bool) : Inv0 (L.filter p) where
  srt := h.srt.filter p
  nod := (List.filter_sublist (l := L) (p := p)).map (·.tx) |>.nodup h.nod
  ok := fun o ho => h.ok o (List.mem_filter.1 ho).1
  apart := fun x hx y hy => h.apart x (List.mem_filter.1 hx).1 y (List.mem_filter.1 hy).1
  fst := fun o ho => h.fst o (List.mem_filter.1 ho).1
  wait := fun a ha y hy => h.wait a (List.mem_filter.1 ha).1 y (List.mem_filter.1 hy).1
theorem whoO_mem {L : List Ow} {t : Tx} {age : Int} : (whoO L t age ∈ L ∧ findO L t = some (whoO L t age)) ∨ (findO L t = none ∧ whoO L t age = emptyO t age) := by
  unfold whoO
  cases h : findO L t with
  | none => exact .inr ⟨rfl, rfl⟩
  | some o => exact .inl ⟨(findO_mem h).1, rfl⟩
theorem whoO_tx {L : List Ow} {t : Tx} {age : Int} : (whoO L t age).tx = t := by
  rcases whoO_mem (L := L) (t := t) (age := age) with ⟨h1, h2⟩ | ⟨h1, h2⟩
  · exact (findO_mem h2).2
  · rw [h2]; rfl
structure StOk (L : List Ow) (t : Tx) (age : Int) (ws : List Wt) : Prop where
  c : chkW ws = 0
  w : (whoO L t age).ws = []
  f : (whoO L t age).fast = false
  a : (whoO L t age).age = age
  n : cnt L + ws.length ≤ 256
theorem chkW_cases (ws : List Wt) : chkW ws = 0 ∨ chkW ws = 1 ∨ chkW ws = 2 ∨ chkW ws = 3 := by
  unfold chkW
  split
  · omega
  · split
    · omega
    · split <;> omega
theorem stO_ok {L : List Ow} {t : Tx} {age : Int} {ws : List Wt} (h : stO L t age ws = 0) : StOk L t age ws := by
  unfold stO at h
  by_cases h1 : chkW ws ≠ 0
  · rw [if_pos h1] at h; exact absurd h h1
  · rw [if_neg h1] at h
    by_cases h2 : 0 < (whoO L t age).ws.length ∨ (whoO L t age).fast = true ∨ (whoO L t age).age ≠ age
    · rw [if_pos h2] at h; omega
    · rw [if_neg h2] at h
      by_cases h3 : 256 < cnt L + ws.length
      · rw [if_pos h3] at h; omega
      · simp only [not_or] at h2
        refine ⟨by omega, List.eq_nil_of_length_eq_zero (by omega), by simpa using h2.2.1, by simpa using h2.2.2, by omega⟩
theorem hurt_iff {o x : Ow} {ws : List Wt} : hurt o ws x = true ↔ x.tx ≠ o.tx ∧ x.fast = false ∧ ltO o.key x.key ∧ clash x.lk ws = true := by
  unfold hurt
  simp only [Bool.and_eq_true, decide_eq_true_eq, Bool.not_eq_true']
theorem not_hurt {o x : Ow} {ws : List Wt} (h : (!hurt o ws x) = true) (h1 : x.tx ≠ o.tx) (h2 : x.fast = false) (h3 : ltO o.key x.key) : clash x.lk ws = false := by
  rw [← Bool.not_eq_true]
  intro hc
  rw [hurt_iff.2 ⟨h1, h2, h3, hc⟩] at h
  cases h
theorem mem_askL {L : List Ow} {o x : Ow} {ws : List Wt} : x ∈ askL L o ws ↔ x = { o with ws := ws } ∨ (x ∈ L ∧ (!hurt o ws x) = true ∧ x.tx ≠ o.tx) := by
  unfold askL layO
  rw [mem_insO, mem_dropO, List.mem_filter, and_assoc]
theorem askL_inv {L : List Ow} (h : Inv0 L) {t : Tx} {age : Int} {ws : List Wt} (hs : StOk L t age ws) : Inv0 (askL L (whoO L t age) ws) := by
  obtain ⟨c1, c2, c3, c4⟩ := chkW_ok hs.c
  have hF := h.filter fun x => !hurt (whoO L t age) ws x
  have hD := hF.filter fun x => decide (x.tx ≠ (whoO L t age).tx)
  have hn : ∀ x ∈ dropO (L.filter fun x => !hurt (whoO L t age) ws x) (whoO L t age).tx, x.tx ≠ (whoO L t age).tx := fun x hx => (mem_dropO.1 hx).2
  obtain ⟨lk, e0, e1, e2, e3⟩ : ∃ lk, (whoO L t age).lk = lk ∧ Ris lk ∧ Fm lk ∧ ∀ y ∈ L, y.tx ≠ t → clash lk y.lk = false := by
    rcases whoO_mem (L := L) (t := t) (age := age) with ⟨h1, h2⟩ | ⟨h1, h2⟩
    · refine ⟨_, rfl, (h.ok _ h1).r, (h.ok _ h1).f, fun y hy hne => h.apart _ h1 y hy (by rw [whoO_tx]; exact Ne.symm hne)⟩
    · rw [h2]
      exact ⟨[], rfl, List.Pairwise.nil, (fun x hx => nomatch hx), fun y _ _ => clash_nil' _⟩
  have ew : ∀ a ∈ L, ltO a.key (whoO L t age).key → clash lk a.ws = false := by
    rcases whoO_mem (L := L) (t := t) (age := age) with ⟨h1, h2⟩ | ⟨h1, h2⟩
    · exact fun a ha hlt => by rw [← e0]; exact h.wait a ha _ h1 hlt hs.f
    · intro a ha _
      rw [← e0, h2]
      exact clash_nil' _
  refine ⟨insO_srt hD.srt hn, nodup_insO hD.nod hn, fun x hx => ?_, fun x hx y hy hne => ?_, fun x hx hf => ?_, fun a ha y hy hlt hf => ?_⟩
  · rcases mem_askL.1 hx with rfl | ⟨hx, _⟩
    · exact ⟨by rw [e0]; exact e1, by rw [e0]; exact e2, c1, c4⟩
    · exact h.ok x hx
  · rcases mem_askL.1 hx with rfl | ⟨hx, _, hx2⟩
    · rcases mem_askL.1 hy with rfl | ⟨hy, _, hy2⟩
      · exact absurd rfl hne
      · show clash (whoO L t age).lk y.lk = false
        rw [e0]; exact e3 y hy (by rw [whoO_tx] at hy2; exact hy2)
    · rcases mem_askL.1 hy with rfl | ⟨hy, _, hy2⟩
      · show clash x.lk (whoO L t age).lk = false
        rw [e0, clash_comm]; exact e3 x hx (by rw [whoO_tx] at hx2; exact hx2)
      · exact h.apart x hx y hy hne
  · rcases mem_askL.1 hx with rfl | ⟨hx, _, hx2⟩
    · have := hs.f
      simp only at hf
      rw [this] at hf
      cases hf
    · exact h.fst x hx hf
  · rcases mem_askL.1 ha with rfl | ⟨ha, _, ha2⟩
    · rcases mem_askL.1 hy with rfl | ⟨hy, hy1, hy2⟩
      · exact absurd hlt (ltO_irrefl _)
      · exact not_hurt hy1 hy2 hf hlt
    · rcases mem_askL.1 hy with rfl | ⟨hy, hy1, hy2⟩
      · show clash (whoO L t age).lk a.ws = false
        rw [e0]
        exact ew a ha hlt
      · exact h.wait a ha y hy hlt hf
theorem askP_inv {L : List Ow} (h : Inv L) (t : Tx) (age : Int) (ws : List Wt) : Inv (askP L t age ws) := by
  unfold askP
  split
  · rename_i hs
    exact settled_inv (askL_inv h.toInv0 (stO_ok hs))
  · exact h
theorem relP_inv {L : List Ow} (h : Inv L) (t : Tx) : Inv (relP L t) := by
  unfold relP
  split
  · exact settled_inv (h.toInv0.filter _)
  · exact h
theorem fastO_key (t : Tx) (o : Ow) : (fastO t o).key = o.key := by unfold fastO; split <;> rfl
theorem fastO_lk (t : Tx) (o : Ow) : (fastO t o).lk = o.lk := by unfold fastO; split <;> rfl
theorem fastO_ws (t : Tx) (o : Ow) : (fastO t o).ws = o.ws := by unfold fastO; split <;> rfl
theorem fastO_tx (t : Tx) (o : Ow) : (fastO t o).tx = o.tx := by unfold fastO; split <;> rfl
theorem holdP_inv {L : List Ow} (h : Inv L) (t : Tx) : Inv (holdP L t) := by
  unfold holdP
  split
  · rename_i he
    have hw : ∀ x ∈ L, x.tx = t → x.ws = [] := fun x hx e => by
      have hf := findO_of h.nod hx
      rw [e] at hf
      unfold holdE at he
      rw [hf] at he
      simp only at he
      split at he
      · cases he
      · exact List.eq_nil_of_length_eq_zero (by omega)
    refine ⟨⟨?_, ?_, ?_, ?_, ?_, ?_⟩, ?_⟩
    · rw [List.pairwise_map]; simp only [fastO_key]; exact h.srt
    · rw [List.map_map, show (fun o : Ow => o.tx) ∘ fastO t = fun o => o.tx from funext fun o => fastO_tx t o]; exact h.nod
    · intro o ho
      obtain ⟨x, hx, rfl⟩ := List.mem_map.1 ho
      have := h.ok x hx
      exact ⟨by rw [fastO_lk]; exact this.r, by rw [fastO_lk]; exact this.f, by rw [fastO_ws]; exact this.g, by rw [fastO_ws]; exact this.n⟩
    · intro x hx y hy hne
      obtain ⟨x, hx', rfl⟩ := List.mem_map.1 hx
      obtain ⟨y, hy', rfl⟩ := List.mem_map.1 hy
      rw [fastO_tx, fastO_tx] at hne
      rw [fastO_lk, fastO_lk]
      exact h.apart x hx' y hy' hne
    · intro o ho hf
      obtain ⟨x, hx, rfl⟩ := List.mem_map.1 ho
      rw [fastO_ws]
      by_cases e : x.tx = t
      · exact hw x hx e
      · unfold fastO at hf
        rw [if_neg e] at hf
        exact h.fst x hx hf
    · intro a ha y hy hlt hf
      obtain ⟨a, ha', rfl⟩ := List.mem_map.1 ha
      obtain ⟨y, hy', rfl⟩ := List.mem_map.1 hy
      rw [fastO_key, fastO_key] at hlt
      rw [fastO_lk, fastO_ws]
      have hf2 : y.fast = false := by
        unfold fastO at hf
        split at hf
        · cases hf
        · exact hf
      exact h.wait a ha' y hy' hlt hf2
    · intro i o hi ho
      rw [List.length_map] at hi
      rw [List.getElem?_map] at ho
      obtain ⟨x, hx, rfl⟩ := Option.map_eq_some_iff.1 ho
      have h1 := h.done i x hi hx
      unfold goS at h1 ⊢
      rw [← List.map_take, List.any_map, List.any_map, fastO_ws]
      simp only [Function.comp_def, fastO_lk, fastO_ws, fastO_tx]
      exact h1
  · exact h
theorem inv_nil : Inv [] := ⟨⟨List.Pairwise.nil, List.nodup_nil, (fun o h => nomatch h), (fun x h => nomatch h), (fun o h => nomatch h), (fun x h => nomatch h)⟩, fun i o h => absurd h (Nat.not_lt_zero _)⟩
/-! ### lengths -/
theorem settled_len (L : List Ow) : (settled L).1.length = L.length := setK_len L _
theorem settled_txs (L : List Ow) : (settled L).1.map (·.tx) = L.map (·.tx) := by
  rw [txs_key, txs_key]
  exact congrArg (List.map (·.2)) (setK_txs L _)
theorem askL_len (L : List Ow) (o : Ow) (ws : List Wt) : (askL L o ws).length ≤ L.length + 1 := by
  unfold askL layO dropO
  rw [(insO_perm _ _).length_eq, List.length_cons]
  have h1 := List.length_filter_le (fun x : Ow => !hurt o ws x) L
  have h2 := List.length_filter_le (fun x : Ow => decide (x.tx ≠ o.tx)) (L.filter fun x => !hurt o ws x)
  have h3 : ({ o with ws := ws } : Ow).tx = o.tx := rfl
  rw [h3]
  omega
theorem askP_len (L : List Ow) (t : Tx) (age : Int) (ws : List Wt) : (askP L t age ws).length ≤ L.length + 1 := by
  unfold askP
  split
  · rw [settled_len]; exact askL_len _ _ _
  · omega
theorem relP_len (L : List Ow) (t : Tx) : (relP L t).length ≤ L.length := by
  unfold relP
  split
  · rw [settled_len]; exact List.length_filter_le _ _
  · omega
theorem holdP_len (L : List Ow) (t : Tx) : (holdP L t).length = L.length := by
  unfold holdP
  split
  · simp
  · rfl
theorem ris_len {l : List Wt} (hr : Ris l) (hf : Fm l) : l.length ≤ 40 := by
  have h1 : ∀ (l : List Wt) (b : Int), Ris l → (∀ x ∈ l, b < x.1 ∧ x.1 ≤ 40) → (b : Int) ≤ 40 → (l.length : Int) ≤ 40 - b := by
    intro l
    induction l with
    | nil => intro b _ _ hb; simp; omega
    | cons x l ih =>
      intro b hr hx hb
      have hr2 := List.pairwise_cons.1 hr
      have := ih x.1 hr2.2 (fun y hy => ⟨hr2.1 y hy, (hx y (List.mem_cons_of_mem _ hy)).2⟩) (hx x List.mem_cons_self).2
      have := (hx x List.mem_cons_self).1
      simp only [List.length_cons]
      omega
  have := h1 l 0 hr (fun x hx => by have := hf x hx; omega) (by omega)
  omega
theorem cnt_bound {L : List Ow} (h : ∀ o ∈ L, OkO o) : cnt L ≤ 40 * L.length := by
  induction L with
  | nil => simp [cnt]
  | cons o L ih =>
    rw [cnt_cons, List.length_cons]
    have h1 := ris_len (h o List.mem_cons_self).r (h o List.mem_cons_self).f
    have h2 := ih fun x hx => h x (List.mem_cons_of_mem _ hx)
    omega
end Go.Proofs.Ytpjhdpfaogdboaa
/- An owner is dropped, or laid; Release. -/
namespace Go.Proofs.Ytpjhdpfaogdboaa
set_option linter.unusedSimpArgs false
set_option linter.unusedVariables false
open Go.RowKit
section
variable {w : World} {ops : Array Oper} {rest : List Oper} {o : Oper} {a : Act} {Q : Exit → Act → World → Prop}
/-- m[k] = v, keyed by TxIDs -/
theorem wpList_layT (hgd : o.guard = none) (t et : TypeId) (xm xk xv : Operand) (ho : o.op = .mapUpdate t xm xk xv) (b : Nat) (k : Tx) (v : Value) (hm : a.eval xm = .map (some b)) (hk : a.eval xk = txv k) (hv : a.eval xv = v)
    (ht : Try.prog.underlying t = some (.map 32 et)) (L : List (Tx × Value)) (hL : MapT w b L)
    (h : ∀ w', MapT w' b (layT L k v) → Kept (fun g => g = b) w w' → wpList Try.prog ops Q rest (a.put o.dst undef) w') : wpList Try.prog ops Q (o :: rest) a w := by
  obtain ⟨es, clock, hr, hM⟩ := hL.run_lay ht k v
  refine wpList_skipK hgd ?_ (h _ hM ((Kept.refl _ _).setBlock _ (.inl rfl)))
  simp [execOp, ho, hm, hk, hv, hr, Result.andThen]
/-- delete(m, k), keyed by TxIDs -/
theorem wpList_wipeT (hgd : o.guard = none) (t et : TypeId) (ts : Array TypeId) (xm xk : Operand) (ho : o.op = .call { callee := .builtin .delete, args := #[xm, xk], argTypes := ts }) (hts : ts[0]? = some t) (b : Nat) (k : Tx) (hm : a.eval xm = .map (some b)) (hk : a.eval xk = txv k)
    (ht : Try.prog.underlying t = some (.map 32 et)) (L : List (Tx × Value)) (hL : MapT w b L)
    (h : ∀ w', MapT w' b (wipeT L k) → Kept (fun g => g = b) w w' → wpList Try.prog ops Q rest (a.put o.dst (.tuple #[])) w') : wpList Try.prog ops Q (o :: rest) a w := by
  obtain ⟨es, clock, hr, hM⟩ := hL.run_wipe ht k ts o.type hts
  refine wpList_run hgd ?_ (h _ hM ((Kept.refl _ _).setBlock _ (.inl rfl)))
  simp [execOp, ho, resolve, invoke, builtin, hm, hk, hr, Result.andThen]
end
section
variable {own : Nat → Option Tx} {B : Nat} {w w' : World} {tb mb : Nat} {L : List Ow} {A : Tx → Ad}
theorem Tab.wiped (h : Tab own B w tb mb L A) {M : List Ow} (hp : M.Perm L) {t : Tx} (hm : MapT w' mb (wipeT (M.map fun o => (o.tx, ptr (A o.tx).ob)) t)) (k : Kept (fun g => g = mb) w w') : Tab own B w' tb mb (dropO L t) A where
  obj := (k.block _ (row_lt h.obj) h.ne).trans h.obj
  map := by
    refine ⟨dropO M t, ?_, hp.filter _⟩
    have e : wipeT (M.map fun o => (o.tx, ptr (A o.tx).ob)) t = (dropO M t).map fun o => (o.tx, ptr (A o.tx).ob) := by
      unfold wipeT dropO
      rw [List.filter_map]
      rfl
    rw [← e]
    exact hm
  ows := fun o ho => (h.ows o (mem_dropO.1 ho).1).kept k (fun i _ h1 h2 => by rw [h2, h.top.2] at h1; cases h1)
  top := h.top
  new := fun i hi => h.new i (Nat.le_trans k.size hi)
  low := h.low
  srt := h.srt.filter _
  ok := fun o ho => h.ok o (mem_dropO.1 ho).1
/-- in its place, or behind all -/
def layM : List Ow → Ow → List Ow
  | [], o => [o]
  | x :: r, o => if o.tx = x.tx then o :: r else x :: layM r o
theorem layM_perm (o : Ow) : ∀ M : List Ow, (M.map (·.tx)).Nodup → (layM M o).Perm (o :: dropO M o.tx)
  | [], _ => List.Perm.refl _
  | x :: r, hn => by
    simp only [List.map_cons, List.nodup_cons] at hn
    unfold layM dropO
    by_cases e : o.tx = x.tx
    · rw [if_pos e, List.filter_cons_of_neg (by simp [e])]
      refine List.Perm.cons _ (List.Perm.of_eq ?_)
      rw [eq_comm, List.filter_eq_self]
      intro y hy
      simp only [decide_eq_true_eq]
      intro e2
      exact hn.1 (by rw [← e, ← e2]; exact List.mem_map.2 ⟨y, hy, rfl⟩)
    · rw [if_neg e, List.filter_cons_of_pos (by simp [Ne.symm e])]
      exact ((layM_perm o r hn.2).cons x).trans (List.Perm.swap _ _ _)
theorem layT_map (o : Ow) (a' : Ad) : ∀ M : List Ow, (M.map (·.tx)).Nodup → layT (M.map fun x => (x.tx, ptr (A x.tx).ob)) o.tx (ptr a'.ob) = (layM M o).map fun x => (x.tx, ptr (if x.tx = o.tx then a' else A x.tx).ob)
  | [], _ => by simp [layT, layM]
  | x :: r, hn => by
    simp only [List.map_cons, List.nodup_cons] at hn
    simp only [List.map_cons, layT, layM]
    by_cases e : o.tx = x.tx
    · rw [if_pos e, if_pos e, List.map_cons, if_pos rfl, e]
      congr 1
      refine List.map_congr_left fun y hy => ?_
      have : ¬ y.tx = x.tx := fun e2 => hn.1 (by rw [← e2]; exact List.mem_map.2 ⟨y, hy, rfl⟩)
      rw [if_neg this]
    · rw [if_neg e, if_neg e, List.map_cons, if_neg (Ne.symm e), layT_map o a' r hn.2]
theorem Tab.laid (h : Tab own B w tb mb L A) {M : List Ow} (hp : M.Perm L) {o : Ow} {a' : Ad} (hm : MapT w' mb (layT (M.map fun x => (x.tx, ptr (A x.tx).ob)) o.tx (ptr a'.ob))) (hin : OwIn (fun i => own i = some o.tx) w' a' o) (hok : OkO o)
    (k : Kept (fun i => own i = some o.tx ∨ i = mb) w w') : Tab own B w' tb mb (layO L o) (fun t => if t = o.tx then a' else A t) where
  obj := (k.block _ (row_lt h.obj) (fun h1 => h1.elim (fun h2 => by rw [h.top.1] at h2; cases h2) h.ne)).trans h.obj
  map := by
    have hn : (M.map (·.tx)).Nodup := (hp.map (·.tx)).nodup_iff.2 h.nodup
    refine ⟨layM M o, ?_, (layM_perm o M hn).trans (((hp.filter _).cons o).trans (insO_perm _ _).symm)⟩
    have := layT_map (A := A) o a' M hn
    rw [← this]
    exact hm
  ows := fun x hx => by
    rcases mem_insO.1 hx with rfl | hx
    · rw [if_pos rfl]; exact hin
    · obtain ⟨h1, h2⟩ := mem_dropO.1 hx
      rw [if_neg h2]
      exact (h.ows x h1).kept k (fun i _ h3 h4 => h4.elim (fun h5 => h2 (Option.some.inj (h3.symm.trans h5))) (fun h5 => by rw [h5, h.top.2] at h3; cases h3))
  top := h.top
  new := fun i hi => h.new i (Nat.le_trans k.size hi)
  low := h.low
  srt := insO_srt (h.srt.filter _) (fun x hx => (mem_dropO.1 hx).2)
  ok := fun x hx => by
    rcases mem_insO.1 hx with rfl | hx
    · exact hok
    · exact h.ok x (mem_dropO.1 hx).1
/-- what it wrote -/
theorem Tab.news (_h : Tab own B w tb mb L A) : True := trivial
set_option maxRecDepth 100000 in
set_option maxHeartbeats 1000000 in
theorem rel_no {t1 t2 t3 : Int} (hb : Tab own B w tb mb L A) (hl : findO L (t1, t2, t3) = none) :
    Calls Try.prog 16 #[.pointer (some ⟨tb, 0, none⟩), .agg #[.int .u8 t1, .int .u32 t2, .int .u32 t3]] w fun e w' => e = .returned (.tuple #[.slice none 0 0, .int .i64 0]) ∧ Kept (fun _ => False) w w' := by
  have hk1 := (Kept.refl (fun _ => False) w).alloc (.cells #[.int .u8 t1, .int .u32 t2, .int .u32 t3] 32)
  have hkb := row_new w (.cells #[.int .u8 t1, .int .u32 t2, .int .u32 t3] 32)
  obtain ⟨w1, hw1⟩ : ∃ w1, w.alloc (.cells #[.int .u8 t1, .int .u32 t2, .int .u32 t3] 32) = w1 := ⟨_, rfl⟩
  obtain ⟨kb, hkb'⟩ : ∃ kb, w.heap.size = kb := ⟨_, rfl⟩
  rw [hw1] at hk1 hkb
  rw [hkb'] at hkb
  have HB := hid (hb.same hk1); have HK := hid hkb; have K1 := hid hk1
  have c0 := HB.out.cell
  obtain ⟨d0, d1, d2⟩ := cells3 HK.out
  have HL := hid hl
  have HKB := hid (Nat.le_of_eq hkb')
  clear hb hk1 hkb hl
  have l0 := HB.out.look0 HL.out
  go_enter Try.func16, Try.ntmps16
  go_wp2_with fail
  try rw [hw1, hkb']
  clear hw1 hkb'
  go_quiet (fail)
  have K2 := hid (K1.out.trans (kept_drewN (F := fun _ => False) w1 nq))
  go_wp2
  go_ret2
  exact ⟨rfl, K2.out⟩
set_option maxRecDepth 100000 in
set_option maxHeartbeats 1000000 in
theorem rel_yes {t1 t2 t3 : Int} {o : Ow} (hb : Tab own B w tb mb L A) (hl : findO L (t1, t2, t3) = some o) (hL : L.length ≤ 1000000) :
    Calls Try.prog 16 #[.pointer (some ⟨tb, 0, none⟩), .agg #[.int .u8 t1, .int .u32 t2, .int .u32 t3]] w fun e w' => ∃ A' ga gc, e = .returned (.tuple #[.slice ga (settled (dropO L (t1, t2, t3))).2.length gc, .int .i64 0]) ∧ Tab own B w' tb mb (settled (dropO L (t1, t2, t3))).1 A' ∧ Own w' 32 3 (.slice ga (settled (dropO L (t1, t2, t3))).2.length gc) (settled (dropO L (t1, t2, t3))).2.length ((settled (dropO L (t1, t2, t3))).2.flatMap encT) ∧ (∀ b, (Value.slice ga (settled (dropO L (t1, t2, t3))).2.length gc).ownBlock = some b → w.heap.size ≤ b) ∧ Kept (fun i => i = mb ∨ ∃ t, own i = some t) w w' := by
  have hk1 := (Kept.refl (fun _ => False) w).alloc (.cells #[.int .u8 t1, .int .u32 t2, .int .u32 t3] 32)
  have hkb := row_new w (.cells #[.int .u8 t1, .int .u32 t2, .int .u32 t3] 32)
  obtain ⟨w1, hw1⟩ : ∃ w1, w.alloc (.cells #[.int .u8 t1, .int .u32 t2, .int .u32 t3] 32) = w1 := ⟨_, rfl⟩
  obtain ⟨kb, hkb'⟩ : ∃ kb, w.heap.size = kb := ⟨_, rfl⟩
  rw [hw1] at hk1 hkb
  rw [hkb'] at hkb
  have HB := hid (hb.same hk1); have HK := hid hkb; have K1 := hid hk1
  have c0 := HB.out.cell
  obtain ⟨d0, d1, d2⟩ := cells3 HK.out
  have HL := hid hl
  have HKB := hid (Nat.le_of_eq hkb')
  clear hb hk1 hkb hl
  have HLN := hid hL
  clear hL
  have l0 := HB.out.look1 HL.out
  go_enter Try.func16, Try.ntmps16
  go_wp2_with fail
  try rw [hw1, hkb']
  clear hw1 hkb'
  go_quiet (fail)
  have K2 := hid (K1.out.trans (kept_drewN (F := fun _ => False) w1 nq))
  have HB2 := hid (HB.out.same (kept_drewN w1 nq))
  have HK2 := hid (((kept_drewN (F := fun _ => False) w1 nq).block _ (row_lt HK.out) id).trans HK.out)
  obtain ⟨w2, hw2⟩ : ∃ w2, w1.drewN nq = w2 := ⟨_, rfl⟩
  rw [hw2] at K2 HB2 HK2
  clear l0
  have c0 := HB2.out.cell
  obtain ⟨d0, d1, d2⟩ := cells3 HK2.out
  go_wp2_with fail
  try rw [hw2]
  clear hw2
  refine wp_region_still_tail 5 (by kernel_rfl) (by kernel_rfl) ?_
  simp only [List.take_succ_cons, List.take_zero, List.drop_succ_cons, List.drop_zero, World.drew_eq]
  iterate 5 still_step
  refine wpStill_nil ?_
  change wpList _ _ _ _ _ (World.drew _)
  obtain ⟨M, hm, hp⟩ := (HB2.out.same (Kept.refl (fun _ => False) w2).drew).map
  have HP := hid hp
  clear hp
  refine wpList_wipeT rfl 61 65 _ (.tmp 18) (.tmp 19) rfl rfl mb (t1, t2, t3) (by rfl) (by rfl) Try.underlying61 _ hm ?_
  intro w3 hm3 hk3
  have HT3 := hid ((HB2.out.same (Kept.refl (fun _ => False) w2).drew).wiped HP.out hm3 hk3)
  have K3 := hid ((K2.out.drew.mono (fun _ _ h => h.elim) : Kept (fun i => i = mb ∨ ∃ t, own i = some t) w w2.drew).trans (hk3.mono (fun _ _ h => .inl h)))
  have HLD := hid (show (dropO L (t1, t2, t3)).length ≤ 1000000 from Nat.le_trans (List.length_filter_le _ _) HLN.out)
  clear hm hm3 hk3 c0 d0 d1 d2
  go_wp2_with fail
  refine (settle_any HT3.out HLD.out).mono ?_
  rintro e w4 ⟨A', ga, gc, rfl, ht4, _, ho4, hn4, hk4⟩
  have HT4 := hid ht4; have HO4 := hid ho4; have HN4 := hid (fun b h => Nat.le_trans K3.out.size (hn4 b h)); have K4 := hid (K3.out.trans (hk4.mono (fun _ _ h => .inr h)))
  clear ht4 ho4 hn4 hk4
  go_wp2
  go_ret2
  exact ⟨A', ga, gc, rfl, HT4.out, HO4.out, HN4.out, K4.out⟩
end
end Go.Proofs.Ytpjhdpfaogdboaa
/- Slices at the head of a block that may be longer than their capacity (s[:i:i]): append, what they hold. -/
namespace Go.Proofs.Ytpjhdpfaogdboaa
set_option linter.unusedSimpArgs false
set_option linter.unusedVariables false
open Go.RowKit

def Seg (w : World) (E size : Nat) (v : Value) (n : Nat) (xs : List Value) : Prop :=
  xs.length = n * size ∧ ((v = .slice none 0 0 ∧ n = 0) ∨ ∃ g cap cur, v = .slice (some ⟨g, 0, none⟩) n cap ∧ w.heap[g]? = some (.cells cur E (0, 0)) ∧ n ≤ cap ∧ cap ≤ maxLen ∧ cap * size ≤ cur.size ∧ cur.toList.take (n * size) = xs)
section
variable {w w' : World} {E size : Nat} {v : Value} {n : Nat} {xs : List Value}
theorem Own.seg (h : Own w E size v n xs) : Seg w E size v n xs := by
  refine ⟨h.len, ?_⟩
  rcases h.shape with ⟨h1, h2, _⟩ | ⟨g, cap, cur, h1, h2, h3, h4, h5, h6⟩
  · exact .inl ⟨h1, h2⟩
  · exact .inr ⟨g, cap, cur, h1, h2, h3, h4, by omega, h6⟩
theorem Seg.nil (w : World) (E size : Nat) : Seg w E size (.slice none 0 0) 0 [] := (Own.nil w E size).seg
theorem Seg.len (h : Seg w E size v n xs) : xs.length = n * size := h.1
theorem Seg.shape (h : Seg w E size v n xs) : (v = .slice none 0 0 ∧ n = 0 ∧ xs = []) ∨
    ∃ g cap cur, v = .slice (some ⟨g, 0, none⟩) n cap ∧ w.heap[g]? = some (.cells cur E (0, 0)) ∧ n ≤ cap ∧ cap ≤ maxLen ∧ cap * size ≤ cur.size ∧ cur.toList.take (n * size) = xs := by
  rcases h.2 with ⟨rfl, rfl⟩ | h2
  · refine .inl ⟨rfl, rfl, ?_⟩
    have := h.1
    simpa using this
  · exact .inr h2
theorem Seg.mk {g cap : Nat} {cur : Array Value} (h1 : w.heap[g]? = some (.cells cur E (0, 0))) (h2 : n ≤ cap) (h3 : cap ≤ maxLen) (h4 : cap * size ≤ cur.size) :
    Seg w E size (.slice (some ⟨g, 0, none⟩) n cap) n (cur.toList.take (n * size)) := by
  refine ⟨?_, .inr ⟨g, cap, cur, rfl, h1, h2, h3, h4, rfl⟩⟩
  rw [List.length_take, Array.length_toList]
  exact Nat.min_eq_left (Nat.le_trans (Nat.mul_le_mul_right _ h2) h4)
theorem Seg.lt (h : Seg w E size v n xs) {g : Nat} (hg : v.ownBlock = some g) : g < w.heap.size := by
  rcases h.shape with ⟨rfl, _⟩ | ⟨g', cap, cur, rfl, h4, _⟩
  · simp [Value.ownBlock] at hg
  · simp [Value.ownBlock] at hg; subst hg; exact row_lt h4
theorem Seg.of_block (h : Seg w E size v n xs) (hb : ∀ g, v.ownBlock = some g → w'.heap[g]? = w.heap[g]?) : Seg w' E size v n xs := by
  refine ⟨h.1, ?_⟩
  rcases h.2 with h2 | ⟨g, cap, cur, rfl, h4, h5⟩
  · exact .inl h2
  · exact .inr ⟨g, cap, cur, rfl, (hb g rfl).trans h4, h5⟩
theorem Seg.kept {F : Nat → Prop} (h : Seg w E size v n xs) (k : Kept F w w') (hF : ∀ g, v.ownBlock = some g → ¬ F g) : Seg w' E size v n xs :=
  h.of_block fun g hg => k.block g (h.lt hg) (hF g hg)
theorem Seg.same (h : Seg w E size v n xs) (k : Kept (fun _ => False) w w') : Seg w' E size v n xs := h.kept k (fun _ _ h => h)
theorem Seg.alloc (h : Seg w E size v n xs) (o : Obj) : Seg (w.alloc o) E size v n xs := h.of_block fun _ hg => Below.heap_alloc _ _ _ (h.lt hg)
theorem Seg.cells (h : Seg w E size v n xs) {g : Nat} (hg : v.ownBlock = some g) (j : Nat) (hj : j < xs.length) : w.cell? ⟨g, j, none⟩ = some xs[j] := by
  rcases h.shape with ⟨rfl, _⟩ | ⟨g', cap, cur, rfl, h4, h5, h6, h7, h8⟩
  · simp [Value.ownBlock] at hg
  · simp [Value.ownBlock] at hg
    subst hg
    rw [row_cell h4]
    have e : xs[j]? = some xs[j] := by simp
    rw [← e]
    conv => rhs; rw [← h8]
    rw [List.getElem?_take, if_pos (by have := h.len; omega)]
    simp
theorem Seg.isSlice (h : Seg w E size v n xs) : ∃ ao cap, v = .slice ao n cap := by
  rcases h.shape with ⟨rfl, rfl, _⟩ | ⟨g, cap, cur, rfl, _⟩
  · exact ⟨_, _, rfl⟩
  · exact ⟨_, _, rfl⟩
theorem Seg.caps {ao : Option Addr} {cap : Nat} (h : Seg w E size (.slice ao n cap) n xs) : n ≤ cap ∧ cap ≤ maxLen := by
  rcases h.shape with ⟨e, rfl, _⟩ | ⟨g, cap', cur, e, _, h5, h6, _⟩
  · simp only [Value.slice.injEq] at e; obtain ⟨_, _, rfl⟩ := e; exact ⟨Nat.le_refl _, Nat.zero_le _⟩
  · simp only [Value.slice.injEq] at e; obtain ⟨_, _, rfl⟩ := e; exact ⟨h5, h6⟩
theorem Seg.one (h : Seg w E size v n xs) : v.oneCell' = true := by
  obtain ⟨_, _, rfl⟩ := h.isSlice
  rfl
theorem Seg.some_of_pos (h : Seg w E size v n xs) (hn : 0 < n) : ∃ g cap, v = .slice (some ⟨g, 0, none⟩) n cap ∧ n ≤ cap ∧ cap ≤ maxLen := by
  rcases h.shape with ⟨_, h0, _⟩ | ⟨g, cap, cur, rfl, _, h5, h6, _⟩
  · omega
  · exact ⟨g, cap, rfl, h5, h6⟩
theorem Seg.block (h : Seg w E size v n xs) {g : Nat} (hg : v.ownBlock = some g) : ∃ cur, w.heap[g]? = some (.cells cur E (0, 0)) := by
  rcases h.shape with ⟨rfl, _⟩ | ⟨g', cap, cur, rfl, h4, _⟩
  · simp [Value.ownBlock] at hg
  · simp [Value.ownBlock] at hg; subst hg; exact ⟨cur, h4⟩
theorem Seg.free (h : Seg w E size v n xs) {g : Nat} (hg : v.ownBlock = some g) (j : Nat) : w.frozen? ⟨g, j, none⟩ = false := by
  obtain ⟨cur, hb⟩ := h.block hg
  exact row_free hb j
theorem Seg.ne_block {T b : Nat} {cs : Array Value} (h : Seg w E size v n xs) (hb : w.heap[b]? = some (.cells cs T (0, 0))) (hE : E ≠ T) : v.ownBlock ≠ some b := by
  intro hg
  obtain ⟨c, e⟩ := h.block hg
  rw [e] at hb
  simp at hb
  exact hE hb.2
theorem Seg.ne {E' size' : Nat} {v' : Value} {n' : Nat} {xs' : List Value} (h : Seg w E size v n xs) (h' : Seg w E' size' v' n' xs') (hE : E ≠ E') {g : Nat} (hg : v.ownBlock = some g) : v'.ownBlock ≠ some g := by
  intro hg'
  obtain ⟨c, e⟩ := h.block hg
  obtain ⟨c', e'⟩ := h'.block hg'
  rw [e] at e'
  simp at e'
  exact hE e'.2
theorem Seg.lies {F : Nat → Prop} (h : Seg w E size v n xs) (h1 : ∀ u ∈ xs, u.oneCell' = true) (hF : ∀ g, v.ownBlock = some g → ¬ F g) : Lies F w size v n xs := by
  rcases h.shape with ⟨rfl, rfl, rfl⟩ | ⟨g, cap, cur, rfl, hg, hnc, hcm, _⟩
  · exact Lies.nil _ _ _
  · refine ⟨_, cap, rfl, hnc, hcm, h.len, (fun h => nomatch h), fun _ => ⟨g, 0, rfl, hF g rfl, row_lt hg, fun j u hu => ?_⟩, h1⟩
    obtain ⟨hj, e⟩ := List.getElem?_eq_some_iff.1 hu
    rw [Nat.zero_add, ← e]
    exact h.cells rfl j hj
theorem Seg.src (h : Seg w E size v n xs) (h1 : ∀ u ∈ xs, u.oneCell' = true) : Src w size v n xs := (h.lies (F := fun _ => False) h1 (fun _ _ h => h)).src
/-- the first m of them: s[:m:m] -/
theorem Seg.cut {g cap : Nat} (h : Seg w E size (.slice (some ⟨g, 0, none⟩) n cap) n xs) {m : Nat} (hm : m ≤ n) : Seg w E size (.slice (some ⟨g, 0, none⟩) m m) m (xs.take (m * size)) := by
  rcases h.shape with ⟨e, _⟩ | ⟨g', cap', cur, e, h4, h5, h6, h7, h8⟩
  · simp at e
  · simp only [Value.slice.injEq, Option.some.injEq, Addr.mk.injEq] at e
    obtain ⟨⟨rfl, _, _⟩, _, rfl⟩ := e
    have := Seg.mk (n := m) (cap := m) (size := size) h4 (Nat.le_refl _) (by omega) (Nat.le_trans (Nat.mul_le_mul_right _ (by omega : m ≤ cap)) h7)
    rw [← h8, List.take_take, Nat.min_eq_left (Nat.mul_le_mul_right _ hm)]
    exact this
/-- one cell is written -/
theorem Seg.set {g : Nat} (h : Seg w E size v n xs) (hg : v.ownBlock = some g) (j : Nat) (u : Value) : Seg (w.setCell ⟨g, j, none⟩ u) E size v n (xs.set j u) := by
  rcases h.shape with ⟨rfl, _⟩ | ⟨g', cap, cur, rfl, h4, h5, h6, h7, h8⟩
  · simp [Value.ownBlock] at hg
  · simp [Value.ownBlock] at hg
    subst hg
    have hr := row_set h4 j u
    have e : xs.set j u = (cur.setIfInBounds j u).toList.take (n * size) := by
      rw [Array.toList_setIfInBounds, List.take_set, h8]
    rw [e]
    exact Seg.mk hr h5 h6 (by simpa using h7)
end

theorem run_append_seg {P : Program} (w : World) (t ty e : TypeId) (i : TypeInfo) (z : Value) (size bytes : Nat) (ht : P.underlying t = some (.slice e)) (hi : P.info? e = some i) (hz : i.zero = some z)
    (hsize : i.size = size) (hby : i.bytes = bytes) (hzs : z.cells.size = size) (hsz : 0 < size)
    (v : Value) (n : Nat) (xs : List Value) (hown : Seg w e size v n xs) (x : Value) (m : Nat) (news : List Value) (hx : Src w size x m news)
    (h63 : n + m ≤ maxLen) (hbytes : (n + m) * bytes ≤ 140737488355328) :
    ∃ v' w', (Builtin.append_ #[t, t] ty #[v, x]).run P w = .ok v' w' ∧ Seg w' e size v' (n + m) (xs ++ news) ∧ Kept (fun k => v.ownBlock = some k) w w' ∧ (∀ g, v'.ownBlock = some g → v.ownBlock = some g ∨ w.heap.size ≤ g) := by
  rcases hown.shape with ⟨rfl, rfl, rfl⟩ | ⟨g, cap, cur, rfl, hg, hnc, hcm, hcs, htk⟩
  · obtain ⟨v', w', h1, h2, h3, h4, _⟩ := run_append_grows (P := P) w t ty e i z size bytes ht hi hz hsize hby hzs hsz _ 0 [] (Own.nil w e size) x m news hx h63 hbytes
    exact ⟨v', w', h1, h2.seg, h3, h4⟩
  · subst hsize
    subst hby
    obtain ⟨ao, c, rfl, hl, hn0, hnews, h1⟩ := hx
    by_cases hroom : n + m ≤ cap
    · cases ao with
      | none =>
        obtain ⟨rfl, rfl⟩ := hn0 rfl
        obtain rfl : news = [] := List.eq_nil_of_length_eq_zero (by simpa using hl)
        refine ⟨_, w, ?_, by simpa using hown, Kept.refl _ _, fun g hg => .inl hg⟩
        simp [Builtin.append_, run_underlying ht, sizeOf, typeInfo, hi, Builtin.lenOf, hnc, Builtin.firstCells, loadCells, loadCellsFrom, storeCells]
      | some a =>
        have hfit : n * i.size + news.length ≤ cur.size := by
          rw [hl, ← Nat.add_mul]
          exact Nat.le_trans (Nat.mul_le_mul_right _ hroom) hcs
        have hr := run_append_room (P := P) w t ty e i ht hi g n cap cur hg a m c news hl (hnews a rfl) h1 hroom hfit
        refine ⟨_, _, hr, ?_, (Kept.refl _ _).setRow _ (.inl (by simp [Value.ownBlock])), fun g' hg' => .inl (by simpa [Value.ownBlock] using hg')⟩
        have h2 := Seg.mk (size := i.size) (n := n + m) (cap := cap) (setRow_heap w g cur (cur.toList.take (n * i.size) ++ news ++ cur.toList.drop (n * i.size + news.length)).toArray e _ hg) hroom hcm (by simp; omega)
        have e1 : (cur.toList.take (n * i.size) ++ news ++ cur.toList.drop (n * i.size + news.length)).toArray.toList.take ((n + m) * i.size) = xs ++ news := by
          rw [List.toList_toArray, ← htk]
          exact List.take_left' (by simp [Nat.add_mul, hl]; omega)
        rw [e1] at h2
        exact h2
    · cases ao with
      | none => obtain ⟨rfl, _⟩ := hn0 rfl; omega
      | some a =>
        have holds : ∀ j u, xs[j]? = some u → w.cell? ((⟨g, 0, none⟩ : Addr).add j) = some u := fun j u hj => by
          obtain ⟨hj', e'⟩ := List.getElem?_eq_some_iff.1 hj
          have ea : (⟨g, 0, none⟩ : Addr).add j = ⟨g, j, none⟩ := by unfold Addr.add; split <;> simp_all
          rw [ea, ← e']
          exact hown.cells rfl j hj'
        have hmx := h63
        unfold maxLen at h63
        have hr2 := run_append_grow (P := P) w t ty e i z ht hi hz ⟨g, 0, none⟩ n cap xs hown.1 holds a m c news hl (hnews a rfl) (by omega) (by omega) (growslice_fits (by omega) hbytes)
        refine ⟨_, _, hr2, ?_, ((Kept.refl _ _).drew).alloc _, fun g' hg' => .inr (by simp [Value.ownBlock] at hg'; omega)⟩
        have hc := grownCap_ge w (n + m) cap e
        have h2 := Seg.mk (w := w.drew.alloc (.cells (xs.toArray ++ news.toArray ++ Builtin.zeroCells z.cells (grownCap w (n + m) cap e - (n + m))) e)) (size := i.size) (n := n + m) (cap := grownCap w (n + m) cap e) (row_new w.drew _) hc (grownCap_le_maxLen w _ _ _ hmx) (by
          simp [size_zeroCells, hzs, hown.1, hl]
          rw [← Nat.add_mul, ← Nat.add_mul]
          exact Nat.mul_le_mul_right _ (by omega))
        have e1 : (xs.toArray ++ news.toArray ++ Builtin.zeroCells z.cells (grownCap w (n + m) cap e - (n + m))).toList.take ((n + m) * i.size) = xs ++ news := by
          rw [Array.toList_append, Array.toList_append, List.toList_toArray, List.toList_toArray]
          exact List.take_left' (by simp [Nat.add_mul, hl, hown.1])
        rw [e1] at h2
        exact h2
/-- append at the operation -/
theorem wpList_app_seg {P : Program} {w : World} {ops : Array Oper} {rest : List Oper} {o : Oper} {a : Act} {Q : Exit → Act → World → Prop} (hgd : o.guard = none) (s x : Operand) (t : TypeId)
    (ho : o.op = .call { callee := .builtin .append, args := #[s, x], argTypes := #[t, t] })
    (e : TypeId) (z : Value) (size bytes : Nat) (ht : P.underlying t = some (.slice e)) (hi : (P.info? e).map (fun i => (i.zero, i.size, i.bytes)) = some (some z, size, bytes)) (hzs : z.cells.size = size) (hsz : 0 < size)
    (v : Value) (n : Nat) (xs : List Value) (hs : a.eval s = v) (hown : Seg w e size v n xs) (xv : Value) (hxv : a.eval x = xv) (m : Nat) (news : List Value) (hx : Src w size xv m news)
    (h63 : n + m ≤ maxLen) (hbytes : (n + m) * bytes ≤ 140737488355328)
    (h : ∀ a' c' w', Seg w' e size (.slice a' (n + m) c') (n + m) (xs ++ news) → Kept (fun k => v.ownBlock = some k) w w' → (∀ g, (Value.slice a' (n + m) c').ownBlock = some g → v.ownBlock = some g ∨ w.heap.size ≤ g) → wpList P ops Q rest (a.put o.dst (.slice a' (n + m) c')) w') :
    wpList P ops Q (o :: rest) a w := by
  obtain ⟨i, hi1, hi2, hi3, hi4⟩ := info_parts hi
  obtain ⟨v', w', hr, h1, h2, h3⟩ := run_append_seg (P := P) w t o.type e i z size bytes ht hi1 hi2 hi3 hi4 hzs hsz v n xs hown xv m news hx h63 hbytes
  obtain ⟨a', c', rfl⟩ := h1.isSlice
  refine wpList_run hgd ?_ (h a' c' w' h1 h2 h3)
  simp [execOp, ho, resolve, invoke, builtin, hs, hxv, hr, Result.andThen]
/-- .. as a step -/
theorem step_app_seg {P : Program} {ops : Array Oper} {o : Oper} {a : Act} {w : World} {K : Act → World → Prop} {Q : Exit → Act → World → Prop} {E : Prop} {tm : Array Value} (d : Option Tmp) (hd : o.dst = d) (hw : Region.wanted o (yielded ops tm) = true) (s x : Operand) (t : TypeId)
    (ho : o.op = .call { callee := .builtin .append, args := #[s, x], argTypes := #[t, t] })
    (e : TypeId) (z : Value) (size bytes : Nat) (ht : P.underlying t = some (.slice e)) (hi : (P.info? e).map (fun i => (i.zero, i.size, i.bytes)) = some (some z, size, bytes)) (hzs : z.cells.size = size) (hsz : 0 < size)
    (v : Value) (n : Nat) (xs : List Value) (hs : a.eval s = v) (hown : Seg w e size v n xs) (xv : Value) (hxv : a.eval x = xv) (m : Nat) (news : List Value) (hx : Src w size xv m news)
    (h63 : n + m ≤ maxLen) (hbytes : (n + m) * bytes ≤ 140737488355328)
    (h : ∀ a' c' w', Seg w' e size (.slice a' (n + m) c') (n + m) (xs ++ news) → Kept (fun k => v.ownBlock = some k) w w' → (∀ g, (Value.slice a' (n + m) c').ownBlock = some g → v.ownBlock = some g ∨ w.heap.size ≤ g) → K (a.put d (.slice a' (n + m) c')) w') :
    if Region.wanted o (yielded ops tm) = true then Oper.wp P o a w K Q else E := by
  subst hd
  rw [if_pos hw]
  obtain ⟨i, hi1, hi2, hi3, hi4⟩ := info_parts hi
  obtain ⟨v', w', hr, h1, h2, h3⟩ := run_append_seg (P := P) w t o.type e i z size bytes ht hi1 hi2 hi3 hi4 hzs hsz v n xs hown xv m news hx h63 hbytes
  obtain ⟨a', c', rfl⟩ := h1.isSlice
  unfold Oper.wp
  simp only [execOp, ho, resolve, invoke, builtin, Sem.run_bind, Sem.run_pure, Result.andThen_ok, List.map_toArray, List.map_cons, List.map_nil, hs, hxv, hr]
  exact h a' c' w' h1 h2 h3
/-- append to the head of a row, where there is room -/
theorem wpList_app_roomS {P : Program} {w : World} {ops : Array Oper} {rest : List Oper} {o : Oper} {a : Act} {Q : Exit → Act → World → Prop} (hgd : o.guard = none) (s x : Operand) (t : TypeId)
    (ho : o.op = .call { callee := .builtin .append, args := #[s, x], argTypes := #[t, t] })
    (e : TypeId) (z : Value) (size bytes : Nat) (ht : P.underlying t = some (.slice e)) (hi : (P.info? e).map (fun i => (i.zero, i.size, i.bytes)) = some (some z, size, bytes))
    (g n cap : Nat) (cur : Array Value) (hg : w.heap[g]? = some (.cells cur e (0, 0))) (hcs : cap * size ≤ cur.size)
    (hs : a.eval s = .slice (some ⟨g, 0, none⟩) n cap) (ad : Addr) (m c : Nat) (hxv : a.eval x = .slice (some ad) m c) (news : List Value) (hl : news.length = m * size) (hnews : ∀ j u, news[j]? = some u → w.cell? (ad.add j) = some u) (h1 : ∀ u ∈ news, u.oneCell' = true) (hroom : n + m ≤ cap)
    (h : ∀ w' cur', Hid (w'.heap[g]? = some (.cells cur' e (0, 0))) → Hid (cur'.toList = cur.toList.take (n * size) ++ news ++ cur.toList.drop (n * size + news.length)) → Hid (Kept (fun k => k = g) w w') → wpList P ops Q rest (a.put o.dst (.slice (some ⟨g, 0, none⟩) (n + m) cap)) w') :
    wpList P ops Q (o :: rest) a w := by
  obtain ⟨i, hi1, hi2, hi3, hi4⟩ := info_parts hi
  subst hi3
  have hr := run_append_room (P := P) w t o.type e i ht hi1 g n cap cur hg ad m c news hl hnews h1 hroom (by rw [hl, ← Nat.add_mul]; exact Nat.le_trans (Nat.mul_le_mul_right _ hroom) hcs)
  refine wpList_run hgd ?_ (h _ _ (hid (setRow_heap w g _ _ e _ hg)) (hid rfl) (hid ((Kept.refl _ _).setRow _ (.inl rfl))))
  simp [execOp, ho, resolve, invoke, builtin, hs, hxv, hr, Result.andThen]
end Go.Proofs.Ytpjhdpfaogdboaa
