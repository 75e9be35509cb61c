/- The laws BagTurns and BagKeeps. -/
import Derived.Test.YtoefffnodamocaaG
namespace Go.Proofs.Ytoefffnodamocaa
open Go.RowKit

theorem Rd.bls {w : World} {a : Option Addr} {len cap : Nat} (h : Rd Try.prog w 34 [.slice a len cap]) : ∃ L : List (List Int), L.length = len ∧ Bls w (.slice a len cap) L := by
  obtain ⟨h1, h2, h3, h4, h5⟩ := h.row1 Try.underlying34 (by kernel_rfl)
  have hx : ∀ i : Fin len, ∃ x : List Int, ∃ b off p, a = some ⟨b, off, none⟩ ∧ w.cell? ⟨b, off + i, none⟩ = some p ∧ Byt w p x := fun i => by
    obtain ⟨b, off, v, e, _, hc, hr⟩ := h5 i (by omega)
    obtain ⟨a', l', c', hz⟩ := hr.isSlice Try.underlying22
    simp only [List.cons.injEq, and_true] at hz
    subst hz
    obtain ⟨x, _, hb, _⟩ := Rd.byt hr
    exact ⟨x, b, off, _, e, hc, hb⟩
  refine ⟨List.ofFn fun i => (hx i).choose, by simp, ⟨a, cap, by simp, ⟨by simp; omega, h2⟩, by simpa using h4, fun j x hj => ?_⟩⟩
  rw [List.getElem?_ofFn] at hj
  split at hj
  · rename_i hjl
    simp only [Option.some.injEq] at hj
    subst hj
    exact (hx ⟨j, hjl⟩).choose_spec
  · simp at hj

/-- a bag, and a list of slices of the argument's bytes, all above W -/
def St (W w : World) (bb : Nat) (L : List (List Int)) (v : Value) (M : List (List Int)) : Prop :=
  ∃ F ws, BagAt 50 w bb L F ∧ (∀ k, F k → W.heap.size ≤ k ∧ k < w.heap.size) ∧ Below W.heap.size W w ∧ Own w 22 1 v M.length ws ∧ (∀ (i : Nat) (p : Value) (l : List Int), ws[i]? = some p → M[i]? = some l → Byt W p l) ∧ (∀ u ∈ ws, u.oneCell' = true) ∧ (∀ g, v.ownBlock = some g → W.heap.size ≤ g ∧ ¬ F g)

theorem St.step {W w w' : World} {bb : Nat} {L L' M : List (List Int)} {v : Value} {F F' : Nat → Prop} {ws : List Value} (h1 : BagAt 50 w bb L F) (h2 : ∀ k, F k → W.heap.size ≤ k ∧ k < w.heap.size) (h3 : Below W.heap.size W w) (h4 : Own w 22 1 v M.length ws)
    (h5 : ∀ (i : Nat) (p : Value) (l : List Int), ws[i]? = some p → M[i]? = some l → Byt W p l) (h6 : ∀ u ∈ ws, u.oneCell' = true) (h7 : ∀ g, v.ownBlock = some g → W.heap.size ≤ g ∧ ¬ F g)
    (k : Kept F w w') (hb : BagAt 50 w' bb L' F') (hF : ∀ k, F' k → F k ∨ w.heap.size ≤ k) : St W w' bb L' v M :=
  ⟨fun k => F' k ∧ k < w'.heap.size, ws, hb.bound, fun k hk => ⟨by
      rcases hF k hk.1 with h | h
      · exact (h2 k h).1
      · exact Nat.le_trans h3.size h, hk.2⟩,
    h3.trans (k.below h3.size fun i hi => (h2 i hi).1), h4.kept k fun g hg => (h7 g hg).2, h5, h6, fun g hg => ⟨(h7 g hg).1, fun hf => by
      rcases hF g hf.1 with h | h
      · exact (h7 g hg).2 h
      · have := h4.lt hg; omega⟩⟩
theorem St.kept {W w w' : World} {bb : Nat} {L M : List (List Int)} {v : Value} (h : St W w bb L v M) (k : Kept (fun _ => False) w w') : St W w' bb L v M := by
  obtain ⟨F, ws, h1, h2, h3, h4, h5, h6, h7⟩ := h
  exact St.step h1 h2 h3 h4 h5 h6 h7 (k.mono fun _ _ h => h.elim) (h1.kept k fun _ _ => id) fun k hk => .inl hk
theorem St.alloc {W w : World} {bb : Nat} {L M : List (List Int)} {v : Value} (h : St W w bb L v M) (o : Obj) : St W (w.alloc o) bb L v M := h.kept ((Kept.refl _ _).alloc o)
theorem St.below {W w : World} {bb : Nat} {L M : List (List Int)} {v : Value} (h : St W w bb L v M) : Below W.heap.size W w := let ⟨_, _, _, _, h3, _⟩ := h; h3
theorem St.bag {W w : World} {bb : Nat} {L M : List (List Int)} {v : Value} (h : St W w bb L v M) : Bag1 50 W.heap.size w bb L := let ⟨_, _, h1, h2, _⟩ := h; BagAt.mono h1 h2
theorem St.isSlice {W w : World} {bb : Nat} {L M : List (List Int)} {v : Value} (h : St W w bb L v M) : ∃ ao c, v = .slice ao M.length c := let ⟨_, _, _, _, _, h4, _⟩ := h; h4.isSlice
theorem St.bls {W w : World} {bb : Nat} {L M : List (List Int)} {v : Value} (h : St W w bb L v M) : Bls w v M := by
  obtain ⟨F, ws, h1, h2, h3, h4, h5, h6, h7⟩ := h
  exact bls_own h4 fun i p l hp hl => (h5 i p l hp hl).below h3 (Nat.le_refl _)

theorem stPut {W w : World} {bb : Nat} {L M : List (List Int)} {v : Value} (h : St W w bb L v M) (p : Value) (l : List Int) (hv : Byt w p l) (hl : l.length ≤ 140737488351232) (hL : L.length ≤ 2000) :
    Calls Try.prog 9 #[.pointer (some ⟨bb, 0, none⟩), p] w fun e w' => e = .returned (.int .i64 (putE L l)) ∧ St W w' bb (putL L l) v M := by
  obtain ⟨F, ws, h1, h2, h3, h4, h5, h6, h7⟩ := h
  exact (put_any h1 p l hv.bts hl hL).mono fun e w' ⟨he, hk, F', hb, hF⟩ => ⟨he, St.step h1 h2 h3 h4 h5 h6 h7 hk hb hF⟩
theorem stHold {W w : World} {bb : Nat} {L M : List (List Int)} {v : Value} (h : St W w bb L v M) (hL : L.length ≤ 2000) (i : Nat) (l : List Int) (hi : L[i]? = some l) :
    Calls Try.prog 10 #[.pointer (some ⟨bb, 0, none⟩), .int .i64 i] w fun e w' => e = .returned (.int .i64 0) ∧ St W w' bb (without L i ++ [l]) v M := by
  obtain ⟨F, ws, h1, h2, h3, h4, h5, h6, h7⟩ := h
  exact (hold_yes h1 (fun k hk => (h2 k hk).2) hL i l hi (h1.small hi)).mono fun e w' ⟨he, hk, F', hb, hF⟩ => ⟨he, St.step h1 h2 h3 h4 h5 h6 h7 hk hb hF⟩
theorem stTake {W w : World} {bb : Nat} {L M : List (List Int)} {v : Value} (h : St W w bb L v M) (i : Nat) (l : List Int) (hi : L[i]? = some l) :
    Calls Try.prog 17 #[.pointer (some ⟨bb, 0, none⟩), .int .i64 i] w fun e w' => ∃ pa pc, e = .returned (.tuple #[.slice pa l.length pc, .int .i64 0]) ∧ Byt w' (.slice pa l.length pc) l ∧ St W w' bb (without L i) v M := by
  obtain ⟨F, ws, h1, h2, h3, h4, h5, h6, h7⟩ := h
  exact (take_yes h1 (fun k hk => (h2 k hk).2) i l hi).mono fun e w' ⟨pa, pc, he, ho, hf, hk, hb⟩ => ⟨pa, pc, he, ho.byt, St.step h1 h2 h3 h4 h5 h6 h7 hk hb fun k hk => .inl hk⟩


/-- the list of slices is grown by one -/
theorem st_grow {W w w' : World} {bb : Nat} {L M : List (List Int)} {v v' : Value} {F : Nat → Prop} {ws : List Value} {p : Value} {l : List Int} {o : Obj} (h1 : BagAt 50 w bb L F) (h2 : ∀ k, F k → W.heap.size ≤ k ∧ k < w.heap.size) (h3 : Below W.heap.size W w) (h4 : Own w 22 1 v M.length ws)
    (h5 : ∀ (i : Nat) (p : Value) (l : List Int), ws[i]? = some p → M[i]? = some l → Byt W p l) (h6 : ∀ u ∈ ws, u.oneCell' = true) (h7 : ∀ g, v.ownBlock = some g → W.heap.size ≤ g ∧ ¬ F g) (hp : Byt W p l)
    (ho : Own w' 22 1 v' (M.length + 1) (ws ++ [p])) (hk : Kept (fun k => v.ownBlock = some k) (w.alloc o) w') (hf : ∀ g, v'.ownBlock = some g → v.ownBlock = some g ∨ w.heap.size + 1 ≤ g) : St W w' bb L v' (M ++ [l]) := by
  have k1 : Kept (fun k => v.ownBlock = some k) w w' := ((Kept.refl _ _).alloc o).trans hk
  have hl : ws.length = M.length := by simpa using h4.len
  refine ⟨F, ws ++ [p], h1.kept k1 (fun g hF hg => (h7 g hg).2 hF), fun k hk => ⟨(h2 k hk).1, Nat.lt_of_lt_of_le (h2 k hk).2 k1.size⟩, h3.trans (k1.below h3.size fun i hi => (h7 i hi).1), by simpa using ho, fun i q m hq hm => ?_, fun u hu => ?_, fun g hg => ?_⟩
  · by_cases hi : i < ws.length
    · rw [List.getElem?_append_left hi] at hq
      rw [List.getElem?_append_left (by omega)] at hm
      exact h5 i q m hq hm
    · have hip : i = ws.length := by
        have := (List.getElem?_eq_some_iff.1 hq).1
        simp at this; omega
      subst hip
      rw [List.getElem?_append_right (Nat.le_refl _)] at hq
      rw [hl, List.getElem?_append_right (Nat.le_refl _)] at hm
      simp at hq hm
      subst hq; subst hm
      exact hp
  · rcases List.mem_append.1 hu with h | h
    · exact h6 u h
    · simp at h; subst h
      obtain ⟨_, _, rfl, _⟩ := hp; rfl
  · rcases hf g hg with h | h
    · exact h7 g h
    · have := h3.size
      exact ⟨by omega, fun hF => by have := (h2 g hF).2; omega⟩

theorem rot (M : List (List Int)) (q : Nat) (hqn : q < M.length) : without (M.drop q ++ M.take q) 0 ++ [M[q]] = M.drop (q + 1) ++ M.take (q + 1) := by
  rw [List.drop_eq_getElem_cons hqn, List.take_succ_eq_append_getElem hqn]
  simp only [without, List.cons_append, List.take_zero, List.nil_append, List.drop_succ_cons, List.drop_zero, List.append_assoc, Nat.zero_add]
theorem all_bls {B : Nat} {w : World} {bb : Nat} {L : List (List Int)} (h : Bag1 50 B w bb L) (hL : L.length ≤ 2000) :
    Calls Try.prog 14 #[.pointer (some ⟨bb, 0, none⟩)] w fun e w' => ∃ ao c, e = .returned (.slice ao L.length c) ∧ Bls w' (.slice ao L.length c) L ∧ Kept (fun _ => False) w w' :=
  (all_any h hL).mono fun e w' ⟨ao, c, ps, he, ho, _, hp, hk⟩ => ⟨ao, c, he, Pays.bls ho hp, hk⟩

set_option maxRecDepth 100000 in
set_option maxHeartbeats 1000000 in
theorem turns_walk (W : World) (args : Array Value) (h : RdAll Try.prog W Try.f6.params.toList args.toList) :
    Calls Try.prog 6 args W fun e W' => e = .returned (.bool true) ∧ Below W.heap.size W W' := by
  rw [Try.params6] at h
  obtain ⟨v0, rfl⟩ : ∃ v0, args = #[v0] := by
    rcases args with ⟨_ | ⟨v0, _ | ⟨v2, l⟩⟩⟩ <;> simp [RdAll] at h
    exact ⟨v0, rfl⟩
  obtain ⟨r0, _⟩ := h
  obtain ⟨a0, len0, cap0, rfl, h0⟩ := r0.slice Try.underlying34
  obtain ⟨Ls, rfl, hb⟩ := Rd.bls h0
  obtain ⟨_, _, e0, ⟨hb1, hb2⟩, _, c0⟩ := hb
  simp only [Value.slice.injEq] at e0
  obtain ⟨rfl, _, rfl⟩ := e0
  have C0 := hid c0
  unfold maxLen at hb2
  clear c0 h0 r0
  go_enter Try.func6, Try.ntmps6
  go_wp2_with fail
  refine (awake_any _).mono ?_; rintro e w1 ⟨rfl, hb1⟩
  have L1 := hid hb1; clear hb1
  go_wp2_with fail
  refine (new_any _).mono ?_; rintro e w2 ⟨rfl, hbb, hk2⟩
  have S0 : St W w2 w1.heap.size [] (.slice none 0 0) [] := ⟨_, [], hbb, fun k hk => by
      subst hk
      obtain ⟨ao, cap, ps, q1, _⟩ := hbb
      exact ⟨L1.out.size, row_lt q1⟩, L1.out.trans (hk2.fresh L1.out.size), Own.nil _ _ _, by simp, by simp, by simp [Value.ownBlock]⟩
  have S0 := hid S0
  clear hbb hk2 L1
  go_wp2_with fail
  go_loopw [4, 12] (fun want i wr => ∃ (k : Nat) (M : List (List Int)), k ≤ Ls.length ∧ i = .int .i64 k ∧ M.length ≤ k ∧ M.length ≤ 60 ∧ (∀ l ∈ M, l.length < 1000) ∧ St W wr w1.heap.size M want M)
    (fun _ i _ => Ls.length - (intOf i).toNat)
  case atStart => exact ⟨0, [], Nat.zero_le _, rfl, Nat.le_refl _, by decide, (fun l hl => by cases hl), S0.out⟩
  case round =>
    clear S0
    obtain ⟨k, M, hk, rfl, hM, hM2, hM3, hst⟩ := hrel
    have ST := hid hst; clear hst
    have HM3 := hid hM3; clear hM3
    obtain ⟨vo, vc, rfl⟩ := ST.out.isSlice
    by_cases hlt : k < Ls.length
    · obtain ⟨b, off, p, rfl, hc, hby⟩ := C0.out k Ls[k] (by simp [hlt])
      have HBY := hid hby
      obtain ⟨pa, pc, rfl, _⟩ := hby
      have hc := hid hc
      have hlt1 := World.block_lt_of_cell? W _ hc.out
      have hcw := hid ((ST.out.below.cell (p := ⟨b, off + k, none⟩) hlt1).trans hc.out); clear hc hlt1
      have c1 := hcw.out
      by_cases h60 : (k : Int) < 60
      · by_cases e0 : Ls[k].length = 0
        · have e0' : ¬ (0 : Int) < (Ls[k].length : Int) := by omega
          go_wp2
          go_roundw
          case rel => exact ⟨k + 1, M, by omega, by simp, by omega, hM2, HM3.out, ST.out⟩
          case measure => simp [intOf]; omega
        · have e0' : (0 : Int) < (Ls[k].length : Int) := by omega
          by_cases e1 : 1000 ≤ Ls[k].length
          · have e1' : ¬ (Ls[k].length : Int) < 1000 := by omega
            go_wp2
            go_roundw
            case rel => exact ⟨k + 1, M, by omega, by simp, by omega, hM2, HM3.out, ST.out⟩
            case measure => simp [intOf]; omega
          · have e1' : (Ls[k].length : Int) < 1000 := by omega
            have HBW := hid (HBY.out.below ST.out.below (Nat.le_refl _))
            go_wp2_with fail
            refine (twin_any (by exact HBW.out.bts) (by omega)).mono ?_; rintro e w3 ⟨ta, tc, rfl, hown, hfr, hk3⟩
            have HO := hid hown; clear hown hfr
            have ST3 := hid (ST.out.kept hk3); clear hk3
            go_wp2_with fail
            refine (stPut ST3.out _ Ls[k] (by exact HO.out.byt) (by omega) (by omega)).mono ?_; rintro e w4 ⟨rfl, hst4⟩
            have hpe : putE M Ls[k] = 0 := by unfold putE; rw [if_neg (by omega), if_neg e0, if_neg (by omega)]
            have hpl : putL M Ls[k] = M ++ [Ls[k]] := by unfold putL; rw [if_pos hpe]
            rw [hpe]
            rw [hpl] at hst4
            clear hpe hpl
            obtain ⟨F, ws, h1, h2, h3, h4, h5, h6, h7⟩ := hst4
            have H1 := hid h1; clear h1
            have H2 := hid h2; clear h2
            have H3 := hid h3; clear h3
            have H4 := hid h4; clear h4
            have H5 := hid h5; clear h5
            have H6 := hid h6; clear h6
            have H7 := hid h7; clear h7
            go_wp2_with (at_builtin; refine wpList_app rfl _ _ 34 rfl 22 (.slice none 0 0) 1 24 Try.underlying34 info22 rfl (by decide) (.slice vo M.length vc) M.length ws rfl (by exact H4.out.alloc _) _ rfl 1 [.slice pa Ls[k].length pc] (by exact src_one _ rfl) (by simp only [maxLen]; omega) (by omega) ?_)
            intro a5 c5 w5 hown5 hk5 hf5 _
            have HO5 := hid hown5; clear hown5
            have HK5 := hid hk5; clear hk5
            have HF5 := hid hf5; clear hf5
            have ST5 := hid (st_grow H1.out H2.out H3.out H4.out H5.out H6.out H7.out HBY.out HO5.out HK5.out HF5.out)
            clear H1 H2 H3 H4 H5 H6 H7 HO5 HK5 HF5
            go_wp2
            go_roundw
            case rel => exact ⟨k + 1, M ++ [Ls[k]], by omega, by simp, by simp; omega, by simp; omega, fun l hl => by
              rcases List.mem_append.1 hl with h | h
              · exact HM3.out l h
              · simp at h; subst h; omega, by simpa using ST5.out⟩
            case measure => simp [intOf]; omega
      · go_wp2
        go_roundw
        case rel => exact ⟨k + 1, M, by omega, by simp, by omega, hM2, HM3.out, ST.out⟩
        case measure => simp [intOf]; omega
    · obtain rfl : k = Ls.length := by omega
      go_wp2_with fail
      go_loopw [41] (fun i wz => ∃ q : Nat, q ≤ M.length ∧ i = .int .i64 q ∧ St W wz w1.heap.size (M.drop q ++ M.take q) (.slice vo M.length vc) M)
        (fun i _ => M.length - (intOf i).toNat)
      case atStart => exact ⟨0, Nat.zero_le _, rfl, by simpa using ST.out⟩
      case round =>
        clear ST
        obtain ⟨q, hq, rfl, hsz⟩ := hrel
        have SZ := hid hsz; clear hsz
        have hle : (M.drop q ++ M.take q).length ≤ 2000 := by simp; omega
        by_cases hqn : q < M.length
        · have e0 : M.drop q = M[q] :: M.drop (q + 1) := List.drop_eq_getElem_cons hqn
          go_wp2_with fail
          refine (stHold SZ.out hle 0 M[q] (by rw [e0]; rfl)).mono ?_; rintro e w3 ⟨rfl, hst3⟩
          have e1 := rot M q hqn
          rw [e1] at hst3
          have ST3 := hid hst3; clear hst3 e1 e0
          go_wp2
          go_roundw
          case rel => exact ⟨q + 1, by omega, by simp, ST3.out⟩
          case measure => simp [intOf]; omega
        · obtain rfl : q = M.length := by omega
          have e0 : M.drop M.length ++ M.take M.length = M := by simp
          rw [e0] at SZ hle
          go_wp2_with fail
          refine (all_bls SZ.out.bag hle).mono ?_; rintro e w3 ⟨ra, rc, rfl, hbl, hk3⟩
          have S3 := hid (SZ.out.kept hk3); clear hk3
          have HBL := hid hbl; clear hbl
          go_wp2_with fail
          refine (same_lists HBL.out S3.out.bls).mono ?_; rintro e w4 ⟨rfl, hk4⟩
          have S4 := hid (S3.out.kept hk4); clear hk4
          have hd : decide (M = M) = true := by simp
          go_wp2_with fail
          refine (hold_no S4.out.bag M.length (by omega)).mono ?_; rintro e w5 ⟨rfl, rfl⟩
          go_wp2_with fail
          refine (hold_no S4.out.bag (-1) (by omega)).mono ?_; rintro e w5 ⟨rfl, rfl⟩
          go_wp2
          go_ret
          exact ⟨rfl, S4.out.below⟩
end Go.Proofs.Ytoefffnodamocaa
