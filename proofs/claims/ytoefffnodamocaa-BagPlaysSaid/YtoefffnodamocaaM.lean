/- play at nil bags. -/
import Derived.Test.YtoefffnodamocaaL
namespace Go.Proofs.Ytoefffnodamocaa
open Go.RowKit


set_option maxRecDepth 100000 in
set_option maxHeartbeats 1000000 in
theorem play_nil {w : World} (kd iv : Int) (po : Option Addr) (pc : Nat) (lp : List Int) (hp : Byt w (.slice po lp.length pc) lp) (hlp : lp.length ≤ 140737488351232) :
    Calls Try.prog 13 #[.pointer none, .pointer none, .agg #[.int .u8 kd, .int .i64 iv, .slice po lp.length pc]] w fun e w' => e = .returned (.bool true) ∧ Kept (fun _ => False) w w' := by
  have K3 := hid (show Kept (fun _ => False) w (w.alloc (.cells #[.int .u8 kd, .int .i64 iv, .slice po lp.length pc] 38)) from (Kept.refl _ _).alloc _)
  have HP := hid hp; clear hp
  by_cases k0 : kd = 0
  · subst k0
    go_enter Try.func13, Try.ntmps13
    go_wp2_with fail
    refine (spare_any (by exact (HP.out.kept K3.out (fun _ _ => id)).bts) hlp).mono ?_; rintro e w2 ⟨sg, sc, rfl, hown, hfr, hk2⟩
    have HO := hid hown; clear hown
    have KD := hid hk2.drew
    have HFR := hid (show w.heap.size < sg by simp at hfr; omega); clear hfr
    have ho2 := (hk2.block w.heap.size (by simp) id).trans (row_new _ _)
    have c2 := hk2.drew.cell (p := ⟨w.heap.size, 2, none⟩) (v := .slice po lp.length pc) (by simp) id
    clear hk2 ho2
    go_wp2_with fail
    go_region_held3 (fun w' => w'.cell? ⟨w.heap.size, 2, none⟩ = some (.slice po lp.length pc)) (first | exact c2 | exact g2)
      (first
        | (go_at_call 9; refine (put_nil _ _ _ _).mono ?_; rintro e w3 ⟨rfl, rfl⟩)
        | (go_at_call 23; refine (docput_nil _ _ _ _).mono ?_; rintro e w4 ⟨rfl, rfl⟩)
        | (go_at_call 24; refine (kept_yes (l := lp) (by exact HO.out.drew.byt) (by exact ((HP.out.kept K3.out (fun _ _ => id)).kept KD.out (fun _ _ => id)))).mono ?_; rintro e w5 ⟨rfl, hk5⟩; have K5 := hid (KD.out.trans hk5); have HO5 := hid (HO.out.drew.kept hk5 (fun _ _ => id)); have g2 := hk5.cell c2 id; clear hk5))
    all_goals
      go_wp2_with fail
      go_loopw [42] (fun i wr => ∃ (k : Nat) (ys : List Int), k ≤ lp.length + 3 ∧ i = .int .i64 k ∧ Own wr 5 1 (.slice (some ⟨sg, 0, none⟩) (lp.length + 3) sc) (lp.length + 3) (u8s ys) ∧ Kept (fun g => g = sg) w5 wr)
        (fun i _ => lp.length + 3 - (intOf i).toNat)
      case atStart => exact ⟨0, _, Nat.zero_le _, rfl, HO5.out, Kept.refl _ _⟩
      case round =>
        obtain ⟨k, ys, hk, rfl, ho, hkp⟩ := hrel
        have HKP := hid hkp; clear hkp
        by_cases hlt : k < lp.length + 3
        · have hyl : ys.length = lp.length + 3 := by simpa [u8s] using ho.len
          have hcell := ho.cells (g := sg) rfl k (by simp [u8s]; omega)
          have hfrz := ho.free (g := sg) rfl k
          have hset := fun z => ho.set (g := sg) rfl k (.int .u8 z)
          obtain ⟨z, hcv⟩ : ∃ z, (u8s ys)[k]'(by simp [u8s]; omega) = .int .u8 z := ⟨ys[k]'(by omega), by simp [u8s]⟩
          rw [hcv] at hcell
          have HO9 := hid ho; clear ho
          have HST := hid hset; clear hset hcv hyl
          have hki : (k : Int) < (lp.length : Int) + 3 := by omega
          go_wp2
          go_roundw
          case rel => exact ⟨k + 1, ys.set k _, by omega, by go_num, by rw [u8s_set]; exact HST.out _, HKP.out.setCell (p := ⟨sg, k, none⟩) (.inl rfl) _⟩
          case measure => simp [intOf]; omega
        · have hki : ¬ (k : Int) < (lp.length : Int) + 3 := by omega
          have K3 := hid ((K3.out.trans K5.out).trans' HKP.out (fun i hi => .inr (by subst hi; have := HFR.out; omega)))
          clear hlt
          go_wp2_with fail
          refine (same_bytes (la := []) (lb := []) (by exact byt_nil _) (by exact byt_nil _)).mono ?_; rintro e w4 ⟨rfl, hk4⟩
          have K4 := hid (K3.out.trans hk4)
          clear hk4
          have hd : decide (([] : List Int) = []) = true := by simp
          go_wp2_with fail
          go_loopw [123] (fun i wr => i = .int .i64 0 ∧ wr = w4) (fun _ _ => 0)
          case atStart => exact ⟨rfl, rfl⟩
          case round =>
            obtain ⟨rfl, rfl⟩ := hrel
            go_wp2
            go_ret
            exact ⟨rfl, K4.out⟩
  · by_cases k1 : kd = 1
    · subst k1
      go_enter Try.func13, Try.ntmps13
      go_wp2_with fail
      refine (take_nil _ _).mono ?_; rintro e w2 ⟨rfl, rfl⟩
      go_wp2_with fail
      refine (doctake_nil _ _ _ _).mono ?_; rintro e w2 ⟨rfl, rfl⟩
      go_wp2_with fail
      refine (same_bytes (la := []) (lb := []) (by exact byt_nil _) (by exact byt_nil _)).mono ?_; rintro e w4 ⟨rfl, hk4⟩
      have K4 := hid (K3.out.trans hk4)
      clear hk4
      have hd : decide (([] : List Int) = []) = true := by simp
      go_wp2_with fail
      go_loopw [123] (fun i wr => i = .int .i64 0 ∧ wr = w4) (fun _ _ => 0)
      case atStart => exact ⟨rfl, rfl⟩
      case round =>
        obtain ⟨rfl, rfl⟩ := hrel
        go_wp2
        go_ret
        exact ⟨rfl, K4.out⟩
    · by_cases k2 : kd = 2
      · subst k2
        go_enter Try.func13, Try.ntmps13
        go_wp2_with fail
        refine (copy_nil _ _).mono ?_; rintro e w2 ⟨rfl, rfl⟩
        go_wp2_with fail
        refine (doctake_nil _ _ _ _).mono ?_; rintro e w2 ⟨rfl, rfl⟩
        go_wp2_with fail
        refine (same_bytes (la := []) (lb := []) (by exact byt_nil _) (by exact byt_nil _)).mono ?_; rintro e w4 ⟨rfl, hk4⟩
        have K4 := hid (K3.out.trans hk4)
        clear hk4
        have hd : decide (([] : List Int) = []) = true := by simp
        go_wp2_with fail
        go_loopw [123] (fun i wr => i = .int .i64 0 ∧ wr = w4) (fun _ _ => 0)
        case atStart => exact ⟨rfl, rfl⟩
        case round =>
          obtain ⟨rfl, rfl⟩ := hrel
          go_wp2
          go_ret
          exact ⟨rfl, K4.out⟩
      · by_cases k3 : kd = 3
        · subst k3
          go_enter Try.func13, Try.ntmps13
          go_wp2_with fail
          refine (drop_nil _ _).mono ?_; rintro e w2 ⟨rfl, rfl⟩
          go_wp2_with fail
          refine (doctake_nil _ _ _ _).mono ?_; rintro e w2 ⟨rfl, rfl⟩
          go_wp2_with fail
          refine (same_bytes (la := []) (lb := []) (by exact byt_nil _) (by exact byt_nil _)).mono ?_; rintro e w4 ⟨rfl, hk4⟩
          have K4 := hid (K3.out.trans hk4)
          clear hk4
          have hd : decide (([] : List Int) = []) = true := by simp
          go_wp2_with fail
          go_loopw [123] (fun i wr => i = .int .i64 0 ∧ wr = w4) (fun _ _ => 0)
          case atStart => exact ⟨rfl, rfl⟩
          case round =>
            obtain ⟨rfl, rfl⟩ := hrel
            go_wp2
            go_ret
            exact ⟨rfl, K4.out⟩
        · by_cases k4 : kd = 4
          · subst k4
            go_enter Try.func13, Try.ntmps13
            go_wp2_with fail
            refine (hold_nil _ _).mono ?_; rintro e w2 ⟨rfl, rfl⟩
            go_wp2_with fail
            refine (doctake_nil _ _ _ _).mono ?_; rintro e w2 ⟨rfl, rfl⟩
            go_wp2_with fail
            refine (same_bytes (la := []) (lb := []) (by exact byt_nil _) (by exact byt_nil _)).mono ?_; rintro e w4 ⟨rfl, hk4⟩
            have K4 := hid (K3.out.trans hk4)
            clear hk4
            have hd : decide (([] : List Int) = []) = true := by simp
            go_wp2_with fail
            go_loopw [123] (fun i wr => i = .int .i64 0 ∧ wr = w4) (fun _ _ => 0)
            case atStart => exact ⟨rfl, rfl⟩
            case round =>
              obtain ⟨rfl, rfl⟩ := hrel
              go_wp2
              go_ret
              exact ⟨rfl, K4.out⟩
          · go_enter Try.func13, Try.ntmps13
            go_wp2_with fail
            refine (same_bytes (la := []) (lb := []) (by exact byt_nil _) (by exact byt_nil _)).mono ?_; rintro e w4 ⟨rfl, hk4⟩
            have K4 := hid (K3.out.trans hk4)
            clear hk4
            have hd : decide (([] : List Int) = []) = true := by simp
            go_wp2_with fail
            go_loopw [123] (fun i wr => i = .int .i64 0 ∧ wr = w4) (fun _ _ => 0)
            case atStart => exact ⟨rfl, rfl⟩
            case round =>
              obtain ⟨rfl, rfl⟩ := hrel
              go_wp2
              go_ret
              exact ⟨rfl, K4.out⟩
end Go.Proofs.Ytoefffnodamocaa
