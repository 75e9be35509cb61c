/- check, New, Known, Count. -/
import Derived.Test.YtpjhdpfaogdboaaF
namespace Go.Proofs.Ytpjhdpfaogdboaa
set_option linter.unusedSimpArgs false
set_option linter.unusedVariables false
open Go.RowKit
theorem mlen_run {w : World} {b : Nat} {q : IntKind} {L : List (Int × Value)} (h : MapIs w b q L) {t k e : TypeId} (ht : Try.prog.underlying t = some (.map k e)) (ty : TypeId) : (Builtin.len_ #[t] ty #[.map (some b)]).run Try.prog w = .ok (.int .i64 L.length) w := by
  obtain ⟨es, clock, hb, he, _, _⟩ := h
  have hl : es.size = L.length := by have := congrArg List.length he; simpa using this
  simp [Builtin.len_, run_underlying ht, MapKept.run_getObj_map hb, Result.andThen, goInt, hl]
theorem wpList_mlen {w : World} {ops : Array Oper} {rest : List Oper} {o : Oper} {a : Act} {Q : Exit → Act → World → Prop} (hgd : o.guard = none) (x : Operand) (t k e : TypeId) (ho : o.op = .call { callee := .builtin .len, args := #[x], argTypes := #[t] }) (b : Nat) (hx : a.eval x = .map (some b)) (ht : Try.prog.underlying t = some (.map k e)) (q : IntKind) (L : List (Int × Value)) (hL : MapIs w b q L)
    (h : wpList Try.prog ops Q rest (a.put o.dst (.int .i64 L.length)) w) : wpList Try.prog ops Q (o :: rest) a w := by
  refine wpList_run (v := .int .i64 L.length) hgd ?_ h
  simp [execOp, ho, resolve, invoke, builtin, hx, mlen_run hL ht, Result.andThen]
section
variable {P : Program} {w : World} {ops : Array Oper} {rest : List Oper} {o : Oper} {a : Act} {Q : Exit → Act → World → Prop}
theorem wpList_skipK {w' : World} (hgd : o.guard = none) (hrun : (execOp a.eval o).run P w = .ok .skip w') (h : wpList P ops Q rest (a.put o.dst undef) w') : wpList P ops Q (o :: rest) a w := by
  refine wpList_plain hgd fun K hK => ?_
  unfold Oper.wp
  rw [hrun]
  exact hK _ _ h
/-- m[k] = v -/
theorem wpList_lay (hgd : o.guard = none) (t kt et : TypeId) (xm xk xv : Operand) (ho : o.op = .mapUpdate t xm xk xv) (b : Nat) (q : IntKind) (k : Int) (v : Value) (hm : a.eval xm = .map (some b)) (hk : a.eval xk = .int q k) (hv : a.eval xv = v)
    (ht : P.underlying t = some (.map kt et)) (hkt : P.underlying kt = some (.int q)) (L : List (Int × Value)) (hL : MapIs w b q L)
    (h : ∀ w', MapIs w' b q (lay L k v) → Kept (fun g => g = b) w w' → wpList P ops Q rest (a.put o.dst undef) w') : wpList P ops Q (o :: rest) a w := by
  obtain ⟨es, clock, hr, hM⟩ := hL.run_lay ht hkt k v
  refine wpList_skipK hgd ?_ (h _ hM ((Kept.refl _ _).setBlock _ (.inl rfl)))
  simp [execOp, ho, hm, hk, hv, hr, Result.andThen]
end

def badW (x : Wt) : Bool := decide (x.1 < 1) || decide (40 < x.1) || (decide (x.2 ≠ 1) && decide (x.2 ≠ 2))
/-- the error of wants -/
def chkW (ws : List Wt) : Int := if ws.any badW then 1 else if 40 < ws.length then 2 else if ws.length = 0 ∨ ¬ (ws.map (·.1)).Nodup then 3 else 0
theorem badW_false {x : Wt} (h : badW x = false) : 1 ≤ x.1 ∧ x.1 ≤ 40 ∧ (x.2 = 1 ∨ x.2 = 2) := by
  unfold badW at h
  simp only [Bool.or_eq_false_iff, Bool.and_eq_false_iff, decide_eq_false_iff_not] at h
  omega
theorem chkW_ok {ws : List Wt} (h : chkW ws = 0) : Fm ws ∧ ws.length ≤ 40 ∧ 0 < ws.length ∧ (ws.map (·.1)).Nodup := by
  unfold chkW at h
  by_cases h1 : ws.any badW = true
  · rw [if_pos h1] at h; omega
  · rw [if_neg h1] at h
    by_cases h2 : 40 < ws.length
    · rw [if_pos h2] at h; omega
    · rw [if_neg h2] at h
      by_cases h3 : ws.length = 0 ∨ ¬ (ws.map (·.1)).Nodup
      · rw [if_pos h3] at h; omega
      · rw [not_or, Classical.not_not] at h3
        refine ⟨fun x hx => badW_false ?_, by omega, by omega, h3.2⟩
        cases hb : badW x with
        | false => rfl
        | true => exact absurd (List.any_eq_true.2 ⟨x, hx, hb⟩) h1
/-- what has been seen -/
structure Seen (E : List (Int × Value)) (l : List Wt) : Prop where
  k : ∀ k, k ∈ E.map (·.1) ↔ k ∈ l.map (·.1)
  n : (E.map (·.1)).Nodup
  l : (E.length = l.length ∧ (l.map (·.1)).Nodup) ∨ (E.length < l.length ∧ ¬ (l.map (·.1)).Nodup)
theorem lay_length {k : Int} {v : Value} : ∀ (L : List (Int × Value)), (lay L k v).length = if k ∈ L.map (·.1) then L.length else L.length + 1
  | [] => by simp [lay]
  | (a, x) :: r => by
    unfold lay
    by_cases h : k = a
    · simp [h]
    · have ih := lay_length (k := k) (v := v) r
      rw [if_neg h, List.length_cons, ih]
      simp only [List.map_cons, List.mem_cons, h, false_or, List.length_cons]
      by_cases h2 : k ∈ r.map (·.1)
      · rw [if_pos h2, if_pos h2]
      · rw [if_neg h2, if_neg h2]
theorem Seen.lay {E : List (Int × Value)} {l : List Wt} (h : Seen E l) (x : Wt) (v : Value) : Seen (Go.Proofs.Ytpjhdpfaogdboaa.lay E x.1 v) (l ++ [x]) := by
  refine ⟨fun k => ?_, lay_nodup _ _ _ h.n, ?_⟩
  · rw [mem_lay, h.k, List.map_append, List.mem_append]
    simp only [List.map_cons, List.map_nil, List.mem_singleton]
    exact Or.comm
  · have hn : ((l ++ [x]).map (·.1)).Nodup ↔ (l.map (·.1)).Nodup ∧ x.1 ∉ l.map (·.1) := by
      rw [List.map_append, List.nodup_append]
      constructor
      · rintro ⟨h1, _, h2⟩
        exact ⟨h1, fun hm => h2 _ hm x.1 (by simp) rfl⟩
      · rintro ⟨h1, h2⟩
        exact ⟨h1, by simp, fun a ha b hb e => by simp at hb; rw [e, hb] at ha; exact h2 ha⟩
    rw [lay_length, hn]
    simp only [h.k, List.length_append, List.length_singleton]
    by_cases hm : x.1 ∈ l.map (·.1)
    · rw [if_pos hm]
      refine .inr ⟨?_, fun h2 => h2.2 hm⟩
      rcases h.l with ⟨h1, _⟩ | ⟨h1, _⟩ <;> omega
    · rw [if_neg hm]
      rcases h.l with ⟨h1, h2⟩ | ⟨h1, h2⟩
      · exact .inl ⟨by omega, h2, hm⟩
      · exact .inr ⟨by omega, fun h3 => h2 h3.1⟩
theorem Seen.nil : Seen [] [] := ⟨fun k => Iff.rfl, List.nodup_nil, .inl ⟨rfl, List.nodup_nil⟩⟩
set_option maxRecDepth 100000 in
set_option maxHeartbeats 2000000 in
theorem check_any {F : Nat → Prop} {w : World} {a : Option Addr} {c : Nat} {ws : List Wt} (hl : Lies F w 2 (.slice a ws.length c) ws.length (wcells ws)) :
    Calls Try.prog 25 #[.slice a ws.length c] w fun e w' => e = .returned (.int .i64 (chkW ws)) ∧ Kept (fun _ => False) w w' := by
  have HL := hid hl
  have hbig := lies_len hl
  have hmm := @run_makeMap Try.prog
  have k1 := (Kept.refl (fun _ => False) w).alloc (.map #[] 0)
  have m1 := MapIs.made w .u32
  obtain ⟨w1, hw1⟩ : ∃ w1, w.alloc (.map #[] 0) = w1 := ⟨_, rfl⟩
  obtain ⟨sb, hsb⟩ : ∃ sb, w.heap.size = sb := ⟨_, rfl⟩
  rw [hw1] at k1 m1
  rw [hsb] at m1
  have K1 := hid k1; have M1 := hid m1
  have HSB := hid (Nat.le_of_eq hsb)
  obtain ⟨lst, hlst⟩ : ∃ z : Int, (if 40 < ws.length then 2 else 0) = z := ⟨_, rfl⟩
  have HLST := hid hlst
  clear hl k1 m1
  by_cases h40 : 40 < ws.length
  all_goals
    have h40I : (40 : Int) < (ws.length : Int) ↔ 40 < ws.length := by omega
    first | (have h40J : (40 : Int) < (ws.length : Int) := by omega) | (have h40J : ¬ (40 : Int) < (ws.length : Int) := by omega)
    clear h40I
    first | (rw [if_pos h40] at hlst) | (rw [if_neg h40] at hlst)
    subst hlst
    go_enter Try.func25, Try.ntmps25
    go_wp2_with fail
    try rw [hw1, hsb]
    clear hmm hw1 hsb
    go_loopw [13] (fun i wr => ∃ (j : Nat) (E : List (Int × Value)), j ≤ ws.length ∧ i = .int .i64 j ∧ MapIs wr sb .u32 E ∧ Seen E (ws.take j) ∧ (ws.take j).any badW = false ∧ Kept (fun _ => False) w wr) (fun i _ => ws.length - (RowKit.intOf i).toNat)
    case atStart => exact ⟨0, [], Nat.zero_le _, rfl, M1.out, Seen.nil, rfl, K1.out⟩
    case round =>
      rename World => wr
      clear K1 M1
      obtain ⟨j, E, hj, rfl, hm, hs, hany, hkp⟩ := hrel
      have HM := hid hm; have HS := hid hs; have HA := hid hany; have KR := hid hkp
      clear hm hs hany hkp
      by_cases hlt : j < ws.length
      · have hltI : (j : Int) < (ws.length : Int) := by omega
        obtain ⟨x, hx⟩ : ∃ x, ws[j]? = some x := ⟨_, List.getElem?_eq_getElem hlt⟩
        obtain ⟨_, hcap, hc1, gb, off, rfl, c0, c1⟩ := lies_w (HL.out.same KR.out) hx
        have HX := hid hx
        clear hx hc1
        obtain ⟨v, m⟩ := x
        cases hq : badW (v, m) with
        | true =>
          have HR := hid (show chkW ws = 1 from by unfold chkW; rw [if_pos (any_hit HX.out badW hq)])
          have hk2 := KR.out.alloc (.cells #[.int .u32 v, .int .u8 m] 36)
          have K2 := hid hk2
          unfold badW at hq
          simp only [Bool.or_eq_true, Bool.and_eq_true, decide_eq_true_eq] at hq
          clear hk2
          by_cases b1 : v < 1
          · clear hq
            go_wp2
            go_ret
            exact ⟨ret_int HR.out.symm, K2.out⟩
          · by_cases b2 : 40 < v
            · clear hq
              go_wp2
              go_ret
              exact ⟨ret_int HR.out.symm, K2.out⟩
            · have b3 : (m != 1) = true := by simp; omega
              have b4 : (m != 2) = true := by simp; omega
              clear hq
              go_wp2
              go_ret
              exact ⟨ret_int HR.out.symm, K2.out⟩
        | false =>
          have hg := badW_false hq
          have HY := hid (show (ws.take (j + 1)).any badW = false from by rw [any_take HX.out, HA.out, hq]; rfl)
          have HS2 := hid (show Seen (lay E v (.agg #[])) (ws.take (j + 1)) from by
            have e : ws.take (j + 1) = ws.take j ++ [(v, m)] := by rw [List.take_add_one, HX.out]; rfl
            rw [e]; exact HS.out.lay (v, m) _)
          simp only at hg
          obtain ⟨g1, g2, g3⟩ := hg
          have b1 : ¬ v < 1 := by omega
          have b2 : ¬ 40 < v := by omega
          have K2 := hid (show Kept (fun _ => False) wr (wr.alloc (.cells #[.int .u32 v, .int .u8 m] 36)) from (Kept.refl _ wr).alloc _)
          have M2 := hid (HM.out.of_block (K2.out.block _ HM.out.lt id))
          clear hq
          rcases g3 with rfl | rfl
          all_goals
            go_wp2_with (refine wpList_lay rfl 87 26 88 _ _ _ rfl sb .u32 v (.agg #[]) (by rfl) (by rfl) (by rfl) Try.underlying87 Try.underlying26 E (by exact M2.out) ?_; intro w3 hm3 hk3; have M3 := hid hm3; have K3 := hid ((KR.out.trans K2.out).trans' hk3 (fun g e => .inr (by rw [e]; exact HSB.out))); clear hm3 hk3)
            go_roundw
            case rel => exact ⟨j + 1, _, by omega, by go_num, M3.out, HS2.out, HY.out, K3.out⟩
            case measure => (simp only [RowKit.intOf]; omega)
      · obtain rfl : j = ws.length := by omega
        have hs2 := HS.out
        rw [List.take_of_length_le (Nat.le_refl _)] at hs2
        have ha2 := HA.out
        rw [List.take_of_length_le (Nat.le_refl _)] at ha2
        have hml := fun ty => mlen_run HM.out Try.underlying87 ty
        have HR := hid (show chkW ws = if 40 < ws.length then 2 else if ws.length = 0 ∨ ¬ (ws.map (·.1)).Nodup then 3 else 0 from by unfold chkW; rw [if_neg (by rw [ha2]; decide)])
        obtain ⟨n, hn⟩ : ∃ n, E.length = n := ⟨_, rfl⟩
        obtain ⟨b0, hb0⟩ : ∃ b, ((ws.length : Int) == 0) = b := ⟨_, rfl⟩
        have hsl := hs2.l
        rw [hn] at hml hsl
        have HSL := hid hsl
        clear hn hs2 ha2 hsl hlt
        by_cases hlt : (n : Int) < (ws.length : Int)
        · have HE := hid (show chkW ws = if 40 < ws.length then 2 else 3 from by
            rw [HR.out]
            rcases HSL.out with ⟨h1, _⟩ | ⟨_, h2⟩
            · omega
            · have h3 : ws.length = 0 ∨ ¬ (ws.map (·.1)).Nodup := .inr h2
              rw [if_pos h3])
          cases b0
          all_goals
            go_wp2
            go_ret
            exact ⟨ret_int (by rw [HE.out]; simp [h40]), KR.out⟩
        · have HE := hid (show chkW ws = if 40 < ws.length then 2 else if ws.length = 0 then 3 else 0 from by
            rw [HR.out]
            rcases HSL.out with ⟨_, h2⟩ | ⟨h1, _⟩
            · simp [h2]
            · omega)
          cases b0
          all_goals
            have HB0 := hid hb0
            go_wp2
            go_ret
            refine ⟨ret_int ?_, KR.out⟩
            rw [HE.out]
            have := HB0.out
            simp at this
            first | (simp [h40, this]; done) | (exfalso; simp [this] at h40)
end Go.Proofs.Ytpjhdpfaogdboaa
