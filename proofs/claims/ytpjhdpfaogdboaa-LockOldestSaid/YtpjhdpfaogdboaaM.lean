/- settle's walk. -/
import Derived.Test.YtpjhdpfaogdboaaL
import Derived.StillTailTactics
namespace Go.Proofs.Ytpjhdpfaogdboaa
set_option linter.unusedSimpArgs false
set_option linter.unusedVariables false
open Go.RowKit
theorem goS_no {L : List Ow} {k : Nat} {o : Ow} (h : ¬ 0 < o.ws.length) : goS L k o = false := by unfold goS; simp [h]
theorem goS_b1 {L : List Ow} {k : Nat} {o : Ow} (h : (L.any fun x => decide (x.tx ≠ o.tx) && clash x.lk o.ws) = true) : goS L k o = false := by unfold goS; rw [h]; simp
theorem goS_b2 {L : List Ow} {k : Nat} {o : Ow} (h : ((L.take k).any fun x => clash x.ws o.ws) = true) : goS L k o = false := by unfold goS; rw [h]; simp
theorem goS_yes {L : List Ow} {k : Nat} {o : Ow} (h0 : 0 < o.ws.length) (h1 : (L.any fun x => decide (x.tx ≠ o.tx) && clash x.lk o.ws) = false) (h2 : ((L.take k).any fun x => clash x.ws o.ws) = false) : goS L k o = true := by unfold goS; rw [h1, h2]; simp [h0]
theorem stepS_no {S : List Ow × List Tx} {k : Nat} {o : Ow} (h : S.1[k]? = some o) (hg : goS S.1 k o = false) : stepS S k = S := by
  unfold stepS
  rw [h]
  simp [hg]
theorem stepS_yes {S : List Ow × List Tx} {k : Nat} {o : Ow} (h : S.1[k]? = some o) (hg : goS S.1 k o = true) : stepS S k = (S.1.set k (grant o), S.2 ++ [o.tx]) := by
  unfold stepS
  rw [h]
  simp [hg]
/-- what a round of settle keeps -/
structure Stl (own : Nat → Option Tx) (B : Nat) (w w1 : World) (tb mb : Nat) (L : List Ow) (A : Tx → Ad) (S : List Ow × List Tx) (a : Option Addr) (N c : Nat) (ga : Option Addr) (gc : Nat) (A' : Tx → Ad) (wr : World) : Prop where
  t : Tab own B wr tb mb S.1 A'
  e : S.1.map (·.key) = L.map (·.key)
  o : ∀ t, (A' t).ob = (A t).ob
  g : Own wr 32 3 (.slice ga S.2.length gc) S.2.length (S.2.flatMap encT)
  n : ∀ b, (Value.slice ga S.2.length gc).ownBlock = some b → w1.heap.size ≤ b
  l : Lies (fun g => g < w.heap.size ∨ w1.heap.size ≤ g) wr 1 (.slice a N c) N (ptrs (obs A L))
  k : Kept (fun i => ∃ t, own i = some t) w1 wr
  z : S.2.length ≤ S.1.length
theorem Stl.same {own : Nat → Option Tx} {B : Nat} {w w1 : World} {tb mb : Nat} {L : List Ow} {A : Tx → Ad} {S : List Ow × List Tx} {a : Option Addr} {N c : Nat} {ga : Option Addr} {gc : Nat} {A' : Tx → Ad} {wr w' : World} (h : Stl own B w w1 tb mb L A S a N c ga gc A' wr) (k : Kept (fun _ => False) wr w') : Stl own B w w1 tb mb L A S a N c ga gc A' w' :=
  ⟨h.t.same k, h.e, h.o, h.g.kept k (fun _ _ => id), h.n, h.l.same k, h.k.trans (k.mono (fun _ _ h => h.elim)), h.z⟩
theorem rr_free {w : World} {b : Nat} {cs : Array Value} {T : TypeId} (h : w.heap[b]? = some (.cells cs T (0, 0))) (j : Nat) : w.frozen? ⟨b, j, none⟩ = false := row_free h j
theorem set5 {w : World} {a : Ad} {o : Ow} (h : w.heap[a.ob]? = some (owRow a o)) : (w.setCell ⟨a.ob, 5, none⟩ (.slice none 0 0)).heap[a.ob]? = some (owRow ⟨a.ob, a.lb, none, 0⟩ { o with ws := [] }) := by
  rw [row_set h 5 (.slice none 0 0)]
  rfl
set_option maxRecDepth 100000 in
set_option maxHeartbeats 4000000 in
theorem settle_any {own : Nat → Option Tx} {B : Nat} {w : World} {tb mb : Nat} {L : List Ow} {A : Tx → Ad} (hb : Tab own B w tb mb L A) (hL : L.length ≤ 1000000) :
    Calls Try.prog 31 #[.pointer (some ⟨tb, 0, none⟩)] w fun e w' => ∃ A' ga gc, e = .returned (.slice ga (settled L).2.length gc) ∧ Tab own B w' tb mb (settled L).1 A' ∧ (∀ t, (A' t).ob = (A t).ob) ∧ Own w' 32 3 (.slice ga (settled L).2.length gc) (settled L).2.length ((settled L).2.flatMap encT) ∧ (∀ b, (Value.slice ga (settled L).2.length gc).ownBlock = some b → w.heap.size ≤ b) ∧ Kept (fun i => ∃ t, own i = some t) w w' := by
  have HB := hid hb; have HL := hid hL
  clear hb hL
  go_enter Try.func31, Try.ntmps31
  go_wp2_with fail
  refine (all_any HB.out HL.out).mono ?_
  rintro e w1 ⟨a, c, rfl, hl, hk1⟩
  obtain ⟨N, hN⟩ : ∃ N, L.length = N := ⟨_, rfl⟩
  rw [hN] at hl ⊢
  have HN := hid hN
  have hN6 : N ≤ 1000000 := by have := HL.out; omega
  have K1 := hid hk1
  have HS0 := hid (show Stl own B w w1 tb mb L A (setK L 0) a N c none 0 A w1 from ⟨HB.out.same hk1, rfl, fun _ => rfl, Own.nil _ _ _, fun b h => by simp [Value.ownBlock] at h, hl.mono (fun g hg h => h.elim id (fun h => by omega)), Kept.refl _ _, Nat.zero_le _⟩)
  clear hl hk1 hN
  go_wp2_with fail
  go_loopw [3, 14] (fun g i wr => ∃ (k : Nat) (S : List Ow × List Tx) (A' : Tx → Ad) (ga : Option Addr) (gc : Nat), g = .slice ga S.2.length gc ∧ i = .int .i64 k ∧ k ≤ N ∧ setK L k = S ∧ Stl own B w w1 tb mb L A S a N c ga gc A' wr) (fun _ i _ => N - (RowKit.intOf i).toNat)
  case atStart => exact ⟨0, _, A, none, 0, rfl, rfl, Nat.zero_le _, rfl, HS0.out⟩
  case round =>
    rename World => wr
    clear HS0
    obtain ⟨k, S, A', ga, gc, rfl, rfl, hk, hsk, hst⟩ := hrel
    have HST := hid hst; have HSK := hid hsk
    clear hst hsk
    have HLK := hid (show S.1.length = N from by rw [← HSK.out, setK_len]; exact HN.out)
    by_cases hlt : k < N
    · have hltI : (k : Int) < (N : Int) := by omega
      obtain ⟨o, ho⟩ : ∃ o, S.1[k]? = some o := ⟨_, List.getElem?_eq_getElem (by rw [HLK.out]; exact hlt)⟩
      have HO := hid ho
      have HOM := hid (List.mem_of_getElem? ho)
      have hoe : obs A' S.1 = obs A L := obs_eq HST.out.e HST.out.o
      have HOE := hid hoe
      have hl2 := HST.out.l
      have hob : (obs A L)[k]? = some (A' o.tx).ob := by rw [← hoe, obs, List.getElem?_map, ho]; rfl
      obtain ⟨_, hcap, hcm, gb, off, rfl, c0⟩ := lies_ptr hl2 hob
      unfold maxLen at hcm
      have HSS := hid (show setK L (k + 1) = stepS (setK L k) k from rfl)
      obtain ⟨ob, hobb⟩ : ∃ ob, (A' o.tx).ob = ob := ⟨_, rfl⟩
      have HOB := hid hobb
      rw [hobb] at c0
      unfold ptr at c0
      obtain ⟨W2, hW2⟩ : ∃ W2, wr.alloc (.cells #[.pointer (some ⟨ob, 0, none⟩)] 65) = W2 := ⟨_, rfl⟩
      obtain ⟨vb, hvb⟩ : ∃ vb, wr.heap.size = vb := ⟨_, rfl⟩
      have k2 : Kept (fun _ => False) wr W2 := by rw [← hW2]; exact (Kept.refl _ _).alloc _
      have v0 : W2.cell? ⟨vb, 0, none⟩ = some (.pointer (some ⟨ob, 0, none⟩)) := by rw [← hW2, ← hvb]; exact box_new wr _ _
      have HVB := hid (show vb < W2.heap.size by rw [← hW2, ← hvb]; simp)
      have HVW := hid (show wr.heap.size = vb from hvb)
      have ST2 := hid (HST.out.same k2)
      have V2 := hid v0
      clear ho hoe hl2 hob hobb k2
      go_wp2_with fail
      try rw [hW2]
      try rw [hvb]
      clear hW2 hvb c0
      have hwa := waits_any (ST2.out.t.ows o HOM.out)
      rw [HOB.out] at hwa
      refine hwa.mono ?_
      rintro e w' ⟨rfl, rfl⟩
      clear hwa
      by_cases hw0 : 0 < o.ws.length
      · have hd : decide (0 < o.ws.length) = true := by simp [hw0]
        rw [hd]
        have HW0 := hid hw0
        have h1 := ask1 ST2.out.t HOM.out (vb := vb) (by rw [HOB.out]; exact V2.out) (a := some ⟨gb, off, none⟩) (c := c) HLK.out (by rw [HOE.out]; exact ST2.out.l)
        obtain ⟨b1, hb1⟩ : ∃ b, (S.1.any fun x => decide (x.tx ≠ o.tx) && clash x.lk o.ws) = b := ⟨_, rfl⟩
        rw [hb1] at h1
        have H1 := hid h1; have HB1 := hid hb1
        clear hw0 hd h1 hb1
        go_wp2_with fail
        refine H1.out.mono ?_
        rintro e w3 ⟨rfl, hk3⟩
        have ST3 := hid (ST2.out.same hk3)
        have V3 := hid (hk3.cell V2.out id)
        have HVB3 := hid (Nat.lt_of_lt_of_le HVB.out hk3.size)
        clear hk3 H1 v0
        cases b1 with
        | true =>
          have HNO := hid (stepS_no HO.out (goS_b1 HB1.out))
          go_wp2
          go_roundw
          case rel => exact ⟨k + 1, S, A', ga, gc, rfl, by go_num, by omega, by rw [HSS.out]; show stepS (setK L k) k = S; rw [HSK.out]; exact HNO.out, ST3.out⟩
          case measure => (simp only [RowKit.intOf]; omega)
        | false =>
          have v0 := V3.out
          have h2 := ask2 ST3.out.t HOM.out (vb := vb) (by rw [HOB.out]; exact V3.out) (g := gb) (off := off) (c := c) (k := k) (by rw [HLK.out]; omega) HLK.out (by rw [HOE.out]; exact ST3.out.l)
          obtain ⟨b2, hb2⟩ : ∃ b, ((S.1.take k).any fun x => clash x.ws o.ws) = b := ⟨_, rfl⟩
          rw [hb2] at h2
          have H2 := hid h2; have HB2 := hid hb2
          clear h2 hb2
          go_wp2_with fail
          refine H2.out.mono ?_
          rintro e w4 ⟨rfl, hk4⟩
          have ST4 := hid (ST3.out.same hk4)
          have V4 := hid (hk4.cell V3.out id)
          have HVB4 := hid (Nat.lt_of_lt_of_le HVB3.out hk4.size)
          clear hk4 H2 v0 ST3 V3 ST2 V2
          cases b2 with
          | true =>
            have HNO := hid (stepS_no HO.out (goS_b2 HB2.out))
            go_wp2
            go_roundw
            case rel => exact ⟨k + 1, S, A', ga, gc, rfl, by go_num, by omega, by rw [HSS.out]; show stepS (setK L k) k = S; rw [HSK.out]; exact HNO.out, ST4.out⟩
            case measure => (simp only [RowKit.intOf]; omega)
          | false =>
            have hoi := ST4.out.t.ows o HOM.out
            obtain ⟨⟨ob', lb, wa, wc⟩, had⟩ : ∃ ad, A' o.tx = ad := ⟨_, rfl⟩
            obtain rfl : ob' = ob := by rw [← HOB.out, had]
            rw [had] at hoi
            have HAD := hid had
            have HOI := hid hoi
            obtain ⟨x0, x1, x2, _, c4, c5, _⟩ := cells7 hoi.obj
            have v0 := V4.out
            obtain ⟨n, hn⟩ : ∃ n, o.ws.length = n := ⟨_, rfl⟩
            have hwl := hoi.ws
            simp only at hwl c4 c5
            rw [hn] at hwl c5
            have HWL := hid hwl; have HNN := hid hn
            have hnb := lies_len hwl
            obtain ⟨E0, hm0, he0⟩ := hoi.map
            have HLB := hid (show ob' ≠ lb from fun e => by
              obtain ⟨es, c, hm, _⟩ := hm0
              have h1 := hoi.obj
              simp only at h1
              rw [e, hm] at h1
              cases h1)
            have HVL := hid (show vb ≠ lb from fun e => by
              have h1 := hoi.own.2
              simp only at h1
              rw [← e, HST.out.t.new vb (by have := HVW.out; omega)] at h1
              cases h1)
            have M0 := hid hm0; have E0' := hid he0
            have HGO := hid (goS_yes HW0.out HB1.out HB2.out)
            have HOK := hid (ST4.out.t.ok o HOM.out)
            clear had hoi hwl hn hm0 he0
            go_wp2_with fail
            go_loopw [39] (fun i2 wv => ∃ (j : Nat) (E : List (Int × Value)), j ≤ n ∧ i2 = .int .i64 j ∧ MapIs wv lb .u32 E ∧ LkE E ((o.ws.take j).foldl addW o.lk) ∧ Kept (fun g => g = lb) w4 wv) (fun i2 _ => n - (RowKit.intOf i2).toNat)
            case atStart => exact ⟨0, E0, Nat.zero_le _, rfl, M0.out, E0'.out, Kept.refl _ _⟩
            case round =>
              rename World => wv
              clear M0 E0'
              obtain ⟨j, E, hj, rfl, hme, hle, hkv⟩ := hrel
              have ME := hid hme; have LE := hid hle; have KV := hid hkv
              clear hme hle hkv
              by_cases hjt : j < n
              · have hjI : (j : Int) < (n : Int) := by omega
                obtain ⟨x, hx⟩ : ∃ x, o.ws[j]? = some x := ⟨_, List.getElem?_eq_getElem (by rw [HNN.out]; exact hjt)⟩
                have HX := hid hx
                obtain ⟨_, hcap2, hcm2, gb2, off2, rfl, z0, z1⟩ := lies_w (HWL.out.kept KV.out (fun g _ e => .inr (.inl e))) hx
                obtain ⟨v, m⟩ := x
                simp only at z0 z1
                obtain ⟨W5, hW5⟩ : ∃ W5, wv.alloc (.cells #[.int .u32 v, .int .u8 m] 36) = W5 := ⟨_, rfl⟩
                obtain ⟨xb, hxb⟩ : ∃ xb, wv.heap.size = xb := ⟨_, rfl⟩
                have k5 : Kept (fun _ => False) wv W5 := by rw [← hW5]; exact (Kept.refl _ _).alloc _
                obtain ⟨q0, q1⟩ := want_new wv v m
                rw [hW5, hxb] at q0 q1
                have y0 : W5.cell? ⟨vb, 0, none⟩ = some (.pointer (some ⟨ob', 0, none⟩)) := k5.cell (KV.out.cell v0 HVL.out) id
                have y4 : W5.cell? ⟨ob', 4, none⟩ = some (.map (some lb)) := k5.cell (KV.out.cell c4 HLB.out) id
                have hlk : ∀ W, Kept (fun _ => False) wv W → (Instr.lookup 66 (.map (some lb)) (.int .u32 v) false).run Try.prog W = .ok (.int .u8 (mdOf ((o.ws.take j).foldl addW o.lk) v)) W := fun W k => by
                  have hm := ME.out.of_block (k.block _ ME.out.lt id)
                  have he := LE.out.1 v
                  unfold mdOf
                  cases hl : lkw ((o.ws.take j).foldl addW o.lk) v with
                  | none =>
                    rw [hl] at he
                    exact hm.run_look_none Try.underlying66 Try.underlying26 (z := .int .u8 0) (by kernel_rfl) he false
                  | some y =>
                    rw [hl] at he
                    exact hm.run_look_some Try.underlying66 Try.underlying26 he false
                have lk5 := hlk W5.drew k5.drew
                obtain ⟨md, hmd⟩ : ∃ md, mdOf ((o.ws.take j).foldl addW o.lk) v = md := ⟨_, rfl⟩
                rw [hmd] at lk5
                have HMD := hid hmd
                have hlr := (grant_lk (o.ws.take j) o.lk HOK.out.r HOK.out.f (fun y hy => HOK.out.g y (List.mem_of_mem_take hy))).1
                have LE6 := hid (show LkE (lay E v (.int .u8 (max md m))) ((o.ws.take (j + 1)).foldl addW o.lk) from by
                  have e1 : o.ws.take (j + 1) = o.ws.take j ++ [(v, m)] := by rw [List.take_add_one, HX.out]; rfl
                  rw [e1, List.foldl_append, ← HMD.out]
                  have := (HOK.out.g (v, m) (List.mem_of_getElem? HX.out)).2.2
                  exact lke_lay LE.out hlr v m (by simp only at this; omega))
                have M5 := hid (ME.out.of_block (k5.drew.block _ ME.out.lt id))
                have K5 := hid (KV.out.trans (k5.drew.mono (fun _ _ h => h.elim)))
                have HXB := hid hxb
                clear hx hcm2 k5 hlk hmd hlr c4 c5
                go_wp2_with fail
                try rw [hW5]
                try rw [hxb]
                clear hW5 hxb
                refine wp_region_still_tail 16 (by kernel_rfl) (by kernel_rfl) ?_
                simp only [List.take_succ_cons, List.take_zero, List.drop_succ_cons, List.drop_zero, World.drew_eq]
                iterate 16 still_step
                refine wpStill_nil ?_
                change wpList _ _ _ _ _ (World.drew _)
                refine wpList_lay rfl 66 26 5 (.tmp 46) (.tmp 48) (.tmp 58) rfl lb .u32 v (.int .u8 (max md m)) (by rfl) (by rfl) (by rfl) Try.underlying66 Try.underlying26 E (by exact M5.out) ?_
                intro w6 hm6 hk6
                have M6 := hid hm6; have K6 := hid (K5.out.trans hk6)
                clear hm6 hk6
                go_wp2
                go_roundw
                case rel => exact ⟨j + 1, _, by omega, by go_num, M6.out, LE6.out, K6.out⟩
                case measure => (simp only [RowKit.intOf]; omega)
              · obtain rfl : j = n := by omega
                have v1 := KV.out.cell v0 HVL.out
                have hobj := (KV.out.block _ (row_lt HOI.out.obj) HLB.out).trans HOI.out.obj
                obtain ⟨y0, y1, y2, _, _, _, _⟩ := cells7 hobj
                have HOB5 := hid (set5 hobj)
                have hfr := rr_free hobj 5
                have hvo : vb ≠ ob' := fun e => by
                  have h1 := HOI.out.own.1
                  simp only at h1
                  rw [← e, HST.out.t.new vb (by have := HVW.out; omega)] at h1
                  cases h1
                have hin : OwIn (fun i => own i = some o.tx) (wv.setCell ⟨ob', 5, none⟩ (.slice none 0 0)) ⟨ob', lb, none, 0⟩ (grant o) := by
                  refine ⟨HOB5.out, ⟨E, ME.out.of_block (((Kept.refl (fun i => i = ob') wv).setCell (p := ⟨ob', 5, none⟩) (.inl rfl) _).block lb ME.out.lt (fun e => HLB.out e.symm)), ?_⟩, Lies.nil _ _ _, HOI.out.own⟩
                  have := LE.out
                  rw [← HNN.out, List.take_of_length_le (Nat.le_refl _)] at this
                  exact this
                have k47 : Kept (fun i => own i = some o.tx) w4 (wv.setCell ⟨ob', 5, none⟩ (.slice none 0 0)) := (KV.out.mono (fun g _ e => by rw [e]; exact HOI.out.own.2)).setCell (.inl HOI.out.own.1) _
                have T7 := hid (ST4.out.t.put HO.out (o' := grant o) rfl (a' := ⟨ob', lb, none, 0⟩) (by rw [HAD.out]) hin (grant_ok HOK.out) k47)
                have G7 := hid (ST4.out.g.kept k47 (fun b hb h => by
                  have := ST4.out.n b hb
                  rw [HB.out.new b (Nat.le_trans K1.out.size this)] at h
                  cases h))
                have L7 := hid (ST4.out.l.kept k47 (fun g hg h => by
                  rcases Nat.lt_or_ge g w.heap.size with h1 | h1
                  · exact .inl h1
                  · rw [HB.out.new g h1] at h; cases h))
                have K7 := hid (ST4.out.k.trans (k47.mono (fun i _ h => ⟨_, h⟩)))
                obtain ⟨W7, hW7⟩ : ∃ W7, wv.setCell ⟨ob', 5, none⟩ (.slice none 0 0) = W7 := ⟨_, rfl⟩
                rw [hW7] at T7 G7 L7 K7
                have v7 : W7.cell? ⟨vb, 0, none⟩ = some (.pointer (some ⟨ob', 0, none⟩)) := by rw [← hW7]; exact ((Kept.refl (fun i => i = ob') wv).setCell (p := ⟨ob', 5, none⟩) (.inl rfl) _).cell v1 hvo
                have r7 : W7.heap[ob']? = some (owRow ⟨ob', lb, none, 0⟩ { o with ws := [] }) := by rw [← hW7]; exact HOB5.out
                obtain ⟨x0, x1, x2, _, _, _, _⟩ := cells7 r7
                obtain ⟨m, hm⟩ : ∃ m, S.2.length = m := ⟨_, rfl⟩
                have hm6 : m ≤ 1000000 := by have := ST4.out.z; have := HLK.out; omega
                have HMM := hid hm
                rw [hm] at G7
                rw [hm]
                have HT := hid (show (S.2 ++ [o.tx]).flatMap encT = S.2.flatMap encT ++ encT o.tx by simp)
                clear hin k47 hm r7 hobj y0 y1 y2 hvo c4 c5 v0
                go_wp2_with (at_builtin; refine wpList_app rfl _ _ 27 rfl 32 (txv (0, 0, 0)) 3 12 Try.underlying27 infoT rfl (by decide) (.slice ga m gc) m _ rfl (by (try rw [hW7]); exact G7.out.alloc _) _ rfl 1 _ (tx_src _ o.tx.1 o.tx.2.1 o.tx.2.2 rfl) (by unfold maxLen; omega) (by omega) ?_; intro ga2 gc2 w8 ho3 hk3 hf3 _; (try rw [hW7] at ho3 hk3 hf3); have HA8 := hid ho3; have HK8 := hid hk3; have HF8 := hid hf3; clear ho3 hk3 hf3)
                have k78 : Kept (fun i => (Value.slice ga m gc).ownBlock = some i) W7 w8 := ((Kept.refl _ W7).alloc _).trans HK8.out
                have hgn : ∀ i, (Value.slice ga m gc).ownBlock = some i → w1.heap.size ≤ i := fun i h => ST4.out.n i (by rw [HMM.out]; exact h)
                have s01 := K1.out.size
                have HS8 := hid (show Stl own B w w1 tb mb L A (S.1.set k (grant o), S.2 ++ [o.tx]) (some ⟨gb, off, none⟩) N c ga2 gc2 (fun t => if t = o.tx then ⟨ob', lb, none, 0⟩ else A' t) w8 from by
                  have hln : (S.2 ++ [o.tx]).length = m + 1 := by rw [List.length_append, HMM.out]; rfl
                  refine ⟨T7.out.kept k78 (fun i hi h => ?_), ?_, fun t => ?_, ?_, fun b hb => ?_, L7.out.kept k78 (fun i _ h => .inr (hgn i h)), K7.out.trans' k78 (fun i h => .inr (hgn i h)), ?_⟩
                  · have h1 := hgn i h
                    exact ⟨HB.out.new i (by omega), fun e => by have := row_lt HB.out.obj; omega, fun e => by have := HB.out.mlt; omega⟩
                  · rw [← ST4.out.e]
                    have := stepS_txs S k
                    rw [stepS_yes HO.out HGO.out] at this
                    exact this
                  · show (if t = o.tx then (⟨ob', lb, none, 0⟩ : Ad) else A' t).ob = (A t).ob
                    split
                    · rename_i e
                      rw [← HST.out.o t, e]
                      exact HOB.out.symm
                    · exact HST.out.o t
                  · show Own w8 32 3 (.slice ga2 (S.2 ++ [o.tx]).length gc2) (S.2 ++ [o.tx]).length ((S.2 ++ [o.tx]).flatMap encT)
                    rw [hln, HT.out]
                    exact HA8.out
                  · have hb' : (Value.slice ga2 (m + 1) gc2).ownBlock = some b := by
                      have hb2 : (Value.slice ga2 (S.2 ++ [o.tx]).length gc2).ownBlock = some b := hb
                      rwa [hln] at hb2
                    rcases HF8.out b hb' with h | h
                    · exact hgn b h
                    · have := K7.out.size
                      simp at h
                      omega
                  · show (S.2 ++ [o.tx]).length ≤ (S.1.set k (grant o)).length
                    rw [hln, List.length_set, HLK.out]
                    have h9 := setK_cnt L k
                    rw [HSK.out, HMM.out] at h9
                    omega)
                go_roundw
                case rel => exact ⟨k + 1, _, _, ga2, gc2, by rw [List.length_append, HMM.out]; rfl, by go_num, by omega, by rw [HSS.out, HSK.out]; exact stepS_yes HO.out HGO.out, HS8.out⟩
                case measure => (simp only [RowKit.intOf]; omega)
      · have hd : decide (0 < o.ws.length) = false := by simp [hw0]
        rw [hd]
        have HNO := hid (stepS_no HO.out (goS_no hw0))
        clear hw0 hd v0
        go_wp2
        go_roundw
        case rel => exact ⟨k + 1, S, A', ga, gc, rfl, by go_num, by omega, by rw [HSS.out]; show stepS (setK L k) k = S; rw [HSK.out]; exact HNO.out, ST2.out⟩
        case measure => (simp only [RowKit.intOf]; omega)
    · obtain rfl : k = N := by omega
      have hse : settled L = S := by unfold settled; rw [HN.out]; exact HSK.out
      have HSE := hid hse
      clear hse
      go_wp2
      go_ret
      rw [HSE.out]
      exact ⟨A', ga, gc, rfl, HST.out.t, HST.out.o, HST.out.g, fun b hb => Nat.le_trans K1.out.size (HST.out.n b hb), (K1.out.mono (fun _ _ h => h.elim)).trans HST.out.k⟩
end Go.Proofs.Ytpjhdpfaogdboaa
