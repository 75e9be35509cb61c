/- Ask, granted: plain and memory parts of its loop. -/
import Derived.Test.YtpjhdpfaogdboaaR
namespace Go.Proofs.Ytpjhdpfaogdboaa
set_option linter.unusedSimpArgs false
set_option linter.unusedVariables false
open Go.RowKit
/-- without those that were wounded -/
def remS (L : List Ow) (S : List Tx) : List Ow := L.filter fun x => decide (x.tx ∉ S)
def hurtS (L : List Ow) (o : Ow) (ws : List Wt) (k : Nat) : List Tx := ((L.take k).filter (hurt o ws)).map (·.tx)
theorem remS_nil (L : List Ow) : remS L [] = L := by unfold remS; simp
theorem remS_drop (L : List Ow) (S : List Tx) (t : Tx) : dropO (remS L S) t = remS L (S ++ [t]) := by
  unfold dropO remS
  rw [List.filter_filter]
  refine List.filter_congr fun x _ => ?_
  rw [Bool.eq_iff_iff]
  simp only [Bool.and_eq_true, decide_eq_true_eq, List.mem_append, List.mem_singleton, not_or]
  exact And.comm
theorem hurtS_step {L : List Ow} {o x : Ow} {ws : List Wt} {k : Nat} (h : L[k]? = some x) : hurtS L o ws (k + 1) = hurtS L o ws k ++ (if hurt o ws x = true then [x.tx] else []) := by
  unfold hurtS
  rw [List.take_add_one, h, List.filter_append, List.map_append]
  by_cases h0 : hurt o ws x = true
  · simp [h0]
  · simp [h0]
theorem hurtS_len (L : List Ow) (o : Ow) (ws : List Wt) (k : Nat) : (hurtS L o ws k).length ≤ k := by
  unfold hurtS
  rw [List.length_map]
  have h1 := List.length_filter_le (hurt o ws) (L.take k)
  have h2 := List.length_take_le k L
  omega
theorem mem_remS {L : List Ow} (hn : (L.map (·.tx)).Nodup) {o x : Ow} {ws : List Wt} {k : Nat} (h : L[k]? = some x) : x ∈ remS L (hurtS L o ws k) := by
  unfold remS
  rw [List.mem_filter, decide_eq_true_eq]
  refine ⟨List.mem_of_getElem? h, fun hm => ?_⟩
  obtain ⟨y, hy, e⟩ := List.mem_map.1 hm
  obtain ⟨j, hj⟩ := List.getElem?_of_mem (List.mem_filter.1 hy).1
  rw [List.getElem?_take] at hj
  split at hj
  · have := nodup_at hn hj h e
    omega
  · cases hj
theorem remS_all {L : List Ow} (hn : (L.map (·.tx)).Nodup) (o : Ow) (ws : List Wt) : remS L (hurtS L o ws L.length) = L.filter fun x => !hurt o ws x := by
  unfold remS hurtS
  rw [List.take_length]
  refine List.filter_congr fun x hx => ?_
  rw [Bool.eq_iff_iff]
  simp only [decide_eq_true_eq, Bool.not_eq_true']
  constructor
  · intro h
    rw [← Bool.not_eq_true]
    exact fun h2 => h (List.mem_map.2 ⟨x, List.mem_filter.2 ⟨hx, h2⟩, rfl⟩)
  · intro h hm
    obtain ⟨y, hy, e⟩ := List.mem_map.1 hm
    obtain ⟨hy1, hy2⟩ := List.mem_filter.1 hy
    obtain ⟨i, hi⟩ := List.getElem?_of_mem hy1
    obtain ⟨j, hj⟩ := List.getElem?_of_mem hx
    have := nodup_at hn hi hj e
    rw [this, hj] at hi
    rw [Option.some.inj hi, hy2] at h
    cases h
theorem kept_grow (w : World) (q : Nat) (os : Array Obj) : Kept (fun _ => False) w (Go.Sort.grow (w.drewN q) os) := by
  refine ⟨rfl, rfl, rfl, ?_, fun i hi _ => ?_⟩
  · simp [Go.Sort.grow]
  · simp only [Go.Sort.grow]
    rw [Array.getElem?_append_left (by simpa using hi)]
    rfl
theorem tx_ne (a b : Tx) (w : World) : (binOp .neq 32 (txv a) (txv b)).run Try.prog w = .ok (.bool (!decide (a = b))) w := by
  have h := tx_same a b w
  obtain ⟨a1, a2, a3⟩ := a
  obtain ⟨b1, b2, b3⟩ := b
  unfold txv at h ⊢
  unfold binOp
  show ((Op.equal 32 (.agg #[.int .u8 a1, .int .u32 a2, .int .u32 a3]) (.agg #[.int .u8 b1, .int .u32 b2, .int .u32 b3])) >>= fun r => pure (Value.bool !r)).run Try.prog w = _
  rw [Sem.run_bind, h, Result.andThen_ok]
  rfl
structure Wnd (own2 : Nat → Option Tx) (B : Nat) (wz wa : World) (tb mb : Nat) (L : List Ow) (A : Tx → Ad) (o : Ow) (ad : Ad) (a : Option Addr) (N c : Nat) (S : List Tx) (da : Option Addr) (dc : Nat) (wr : World) : Prop where
  t : Tab own2 B wr tb mb (remS L S) A
  o : OwIn (fun i => own2 i = some o.tx) wr ad o
  g : Own wr 32 3 (.slice da S.length dc) S.length (S.flatMap encT)
  n : ∀ b, (Value.slice da S.length dc).ownBlock = some b → wa.heap.size ≤ b
  l : Lies (fun g => g < wz.heap.size ∨ wa.heap.size ≤ g) wr 1 (.slice a N c) N (ptrs (obs A L))
  k : Kept (fun i => i = mb) wa wr
theorem Wnd.same {own2 : Nat → Option Tx} {B : Nat} {wz wa : World} {tb mb : Nat} {L : List Ow} {A : Tx → Ad} {o : Ow} {ad : Ad} {a : Option Addr} {N c : Nat} {S : List Tx} {da : Option Addr} {dc : Nat} {wr w' : World} (h : Wnd own2 B wz wa tb mb L A o ad a N c S da dc wr) (k : Kept (fun _ => False) wr w') : Wnd own2 B wz wa tb mb L A o ad a N c S da dc w' :=
  ⟨h.t.same k, h.o.same k, h.g.kept k (fun _ _ => id), h.n, h.l.same k, h.k.trans (k.mono (fun _ _ h => h.elim))⟩
theorem LiesIn.out2 {F : Nat → Prop} {w : World} {s : Nat} {v : Value} {m : Nat} {xs : List Value} (h : Lies F w s v m xs) (G : Nat → Prop) (hg : ∀ g, g < w.heap.size → G g → F g) : Lies G w s v m xs := h.mono hg
/-- own blocks and two more -/
def ownP (own : Nat → Option Tx) (ob lb : Nat) (t : Tx) : Nat → Option Tx := fun i => if i = ob ∨ i = lb then some t else own i
theorem Tab.more {own : Nat → Option Tx} {B : Nat} {w w' : World} {tb mb : Nat} {L : List Ow} {A : Tx → Ad} (h : Tab own B w tb mb L A) (k : Kept (fun _ => False) w w') {ob lb : Nat} {t : Tx} (ho : w.heap.size ≤ ob ∧ ob < w'.heap.size) (hl : w.heap.size ≤ lb ∧ lb < w'.heap.size) :
    Tab (ownP own ob lb t) B w' tb mb L A := by
  have h' := h.same k
  have hB : B ≤ w.heap.size := Nat.le_trans h.low.1 (Nat.le_of_lt (row_lt h.obj))
  have e : ∀ i, i < w.heap.size → ownP own ob lb t i = own i := fun i hi => if_neg (by omega)
  refine ⟨h'.obj, h'.map, fun o ho2 => (h.ows o ho2).same k |>.mono (fun i hi hi2 => ?_), ⟨(e _ (row_lt h.obj)).trans h.top.1, (e _ h.mlt).trans h.top.2⟩, fun i hi => ?_, ⟨h.low.1, h.low.2.1, fun i t' hi => ?_⟩, h.srt, h.ok⟩
  · have : i < w.heap.size := by
      rcases Nat.lt_or_ge i w.heap.size with h1 | h1
      · exact h1
      · rw [h.new i h1] at hi2; cases hi2
    rw [e i this]
    exact hi2
  · have hs := k.size
    show (if i = ob ∨ i = lb then some t else own i) = none
    rw [if_neg (by omega)]
    exact h.new i (by omega)
  · have hd : (if i = ob ∨ i = lb then some t else own i) = some t' := hi
    by_cases hc : i = ob ∨ i = lb
    · omega
    · rw [if_neg hc] at hd
      exact h.low.2.2 i t' hd
end Go.Proofs.Ytpjhdpfaogdboaa
