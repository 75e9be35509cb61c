/- Sets that stand apart from what was there; awake; Of. -/
import Derived.Test.YtglcpiokmieppaaP
namespace Go.Proofs.Ytglcpiokmieppaa
open Go.RowKit

structure St (B : Nat) (F : Nat → Prop) (w : World) (sb : Nat) (S : List Sp) : Prop where
  s : SetAt F w sb S
  r : ∀ g, F g → B ≤ g ∧ g < w.heap.size
theorem SetAt.lt {F : Nat → Prop} {w : World} {sb : Nat} {S : List Sp} (h : SetAt F w sb S) : SetAt (fun g => F g ∧ g < w.heap.size) w sb S := by
  obtain ⟨ao, cap, h1, h2, h3⟩ := h.c
  exact ⟨⟨ao, cap, h1, h2, fun g hb => ⟨h3 g hb, h2.lt hb⟩⟩, ⟨h.m, row_lt h1⟩, h.g, h.n⟩
theorem St.B {B : Nat} {F : Nat → Prop} {w : World} {sb : Nat} {S : List Sp} (h : St B F w sb S) : B ≤ w.heap.size := by
  have := h.r _ h.s.m
  omega
theorem St.kept {B : Nat} {F G : Nat → Prop} {w w' : World} {sb : Nat} {S : List Sp} (h : St B F w sb S) (k : Kept G w w') (hg : ∀ g, F g → ¬ G g) : St B F w' sb S :=
  ⟨h.s.kept k hg, fun g hf => ⟨(h.r g hf).1, Nat.lt_of_lt_of_le (h.r g hf).2 k.size⟩⟩
theorem St.same {B : Nat} {F : Nat → Prop} {w w' : World} {sb : Nat} {S : List Sp} (h : St B F w sb S) (k : Kept (fun _ => False) w w') : St B F w' sb S := h.kept k (fun _ _ h => h)
def StPost (B : Nat) (F : Nat → Prop) (w : World) (sb : Nat) (a b : Int) (S : List Sp) (e : Ending) (w' : World) : Prop :=
  e = .returned (.int .i64 (chk a b)) ∧ ∃ F', St B F' w' sb S ∧ (∀ g, F' g → F g ∨ w.heap.size ≤ g) ∧ Kept F w w'
theorem St.post {B : Nat} {F : Nat → Prop} {w : World} {sb : Nat} {S S' : List Sp} (h : St B F w sb S) {a b : Int} {e : Ending} {w' : World} (hp : SetPost F w sb a b S' e w') : StPost B F w sb a b S' e w' := by
  obtain ⟨h1, h2, h3⟩ := hp
  have hb := h.B
  refine ⟨h1, _, ⟨h2.lt, fun g hg => ⟨?_, hg.2⟩⟩, fun g hg => hg.1, h3⟩
  rcases hg.1 with hg | hg
  · exact (h.r g hg).1
  · omega
theorem St.add {B : Nat} {F : Nat → Prop} {w : World} {sb : Nat} {S : List Sp} (h : St B F w sb S) (a b : Int) (ha : 0 ≤ a) (hb : b ≤ 4294967295) :
    Calls Try.prog 10 #[.pointer (some ⟨sb, 0, none⟩), .int .u32 a, .int .u32 b] w (StPost B F w sb a b (addS S a b)) :=
  (add_any h.s (fun g hg => (h.r g hg).2) a b ha hb).mono fun _ _ hp => h.post hp
theorem St.drop {B : Nat} {F : Nat → Prop} {w : World} {sb : Nat} {S : List Sp} (h : St B F w sb S) (a b : Int) (ha : 0 ≤ a) (hb : b ≤ 4294967295) :
    Calls Try.prog 11 #[.pointer (some ⟨sb, 0, none⟩), .int .u32 a, .int .u32 b] w (StPost B F w sb a b (dropS S a b)) :=
  (drop_any h.s (fun g hg => (h.r g hg).2) a b ha hb).mono fun _ _ hp => h.post hp
theorem st_new {w w' : World} (h : SetAt (fun g => g = w.heap.size) w' w.heap.size []) : St w.heap.size (fun g => g = w.heap.size) w' w.heap.size [] :=
  ⟨h, fun g hg => by subst hg; obtain ⟨_, _, h1, _⟩ := h.c; exact ⟨Nat.le_refl _, row_lt h1⟩⟩
/-- one set alone -/
def S1 (B : Nat) (w : World) (sb : Nat) (S : List Sp) : Prop := ∃ F, St B F w sb S
theorem S1.B {B : Nat} {w : World} {sb : Nat} {S : List Sp} (h : S1 B w sb S) : B ≤ w.heap.size := by obtain ⟨F, h⟩ := h; exact h.B
theorem S1.g {B : Nat} {w : World} {sb : Nat} {S : List Sp} (h : S1 B w sb S) : Good S := by obtain ⟨F, h⟩ := h; exact h.s.g
theorem S1.same {B : Nat} {w w' : World} {sb : Nat} {S : List Sp} (h : S1 B w sb S) (k : Kept (fun _ => False) w w') : S1 B w' sb S := by obtain ⟨F, h⟩ := h; exact ⟨F, h.same k⟩
def S1Post (B : Nat) (w : World) (sb : Nat) (a b : Int) (S : List Sp) (e : Ending) (w' : World) : Prop :=
  e = .returned (.int .i64 (chk a b)) ∧ S1 B w' sb S ∧ Below B w w'
theorem S1.add {B : Nat} {w : World} {sb : Nat} {S : List Sp} (h : S1 B w sb S) (a b : Int) (ha : 0 ≤ a) (hb : b ≤ 4294967295) :
    Calls Try.prog 10 #[.pointer (some ⟨sb, 0, none⟩), .int .u32 a, .int .u32 b] w (S1Post B w sb a b (addS S a b)) := by
  obtain ⟨F, h⟩ := h
  exact (h.add a b ha hb).mono fun _ _ ⟨h1, F', h2, _, h3⟩ => ⟨h1, ⟨F', h2⟩, h3.below h.B (fun i hi => (h.r i hi).1)⟩
theorem S1.drop {B : Nat} {w : World} {sb : Nat} {S : List Sp} (h : S1 B w sb S) (a b : Int) (ha : 0 ≤ a) (hb : b ≤ 4294967295) :
    Calls Try.prog 11 #[.pointer (some ⟨sb, 0, none⟩), .int .u32 a, .int .u32 b] w (S1Post B w sb a b (dropS S a b)) := by
  obtain ⟨F, h⟩ := h
  exact (h.drop a b ha hb).mono fun _ _ ⟨h1, F', h2, _, h3⟩ => ⟨h1, ⟨F', h2⟩, h3.below h.B (fun i hi => (h.r i hi).1)⟩
theorem S1.free {B : Nat} {w : World} {sb : Nat} {S : List Sp} (h : S1 B w sb S) (n : Int) :
    Calls Try.prog 19 #[.pointer (some ⟨sb, 0, none⟩), .int .u32 n] w fun e w' => e = .returned (.tuple #[.int .u32 (freeV S n).1, .bool (freeV S n).2]) ∧ Kept (fun _ => False) w w' := by
  obtain ⟨F, h⟩ := h
  exact free_any h.s n
theorem S1.has {B : Nat} {w : World} {sb : Nat} {S : List Sp} (h : S1 B w sb S) (n : Int) :
    Calls Try.prog 21 #[.pointer (some ⟨sb, 0, none⟩), .int .u32 n] w fun e w' => e = .returned (.bool (hasB S n)) ∧ Kept (fun _ => False) w w' := by
  obtain ⟨F, h⟩ := h
  exact has_any h.s n
theorem S1.count {B : Nat} {w : World} {sb : Nat} {S : List Sp} (h : S1 B w sb S) :
    Calls Try.prog 17 #[.pointer (some ⟨sb, 0, none⟩)] w fun e w' => e = .returned (.int .u64 (cntS S)) ∧ Kept (fun _ => False) w w' := by
  obtain ⟨F, h⟩ := h
  exact count_any h.s
theorem S1.spans {B : Nat} {w : World} {sb : Nat} {S : List Sp} (h : S1 B w sb S) :
    Calls Try.prog 13 #[.pointer (some ⟨sb, 0, none⟩)] w fun e w' => ∃ ao c, e = .returned (.slice ao S.length c) ∧ Fresh w.heap.size w' (.slice ao S.length c) S ∧ Kept (fun _ => False) w w' := by
  obtain ⟨F, h⟩ := h
  refine (spans_any h.s).mono ?_
  rintro e w' ⟨v, rfl, ⟨ao, c, rfl, h1, h2⟩, hk⟩
  exact ⟨ao, c, rfl, ⟨ao, c, rfl, h1, h2⟩, hk⟩
theorem S1.meet {B C : Nat} {w : World} {sa sb : Nat} {S T : List Sp} (h : S1 B w sa S) (k : S1 C w sb T) :
    Calls Try.prog 23 #[.pointer (some ⟨sa, 0, none⟩), .pointer (some ⟨sb, 0, none⟩)] w fun e w' => e = .returned (.tuple #[.pointer (some ⟨w.heap.size, 0, none⟩), .int .i64 0]) ∧ S1 w.heap.size w' w.heap.size (meet S T) ∧ Kept (fun _ => False) w w' := by
  obtain ⟨F, h⟩ := h
  obtain ⟨G, k⟩ := k
  refine (meet_any h.s k.s).mono ?_
  rintro e w' ⟨h1, h2, h3⟩
  exact ⟨h1, ⟨_, h2.lt, fun g hg => hg⟩, h3⟩
theorem S1.kept {B : Nat} {w w' : World} {sb : Nat} {S : List Sp} (h : S1 B w sb S) {C : Nat} (k : Below C w w') (hC : w.heap.size ≤ C) : S1 B w' sb S := by
  obtain ⟨F, h⟩ := h
  exact ⟨F, h.kept (G := fun g => C ≤ g) ⟨k.os, k.tape, k.output, k.size, fun i hi hn => k.block i (Nat.lt_of_not_le hn)⟩ (fun g hf hc => by have := (h.r g hf).2; omega)⟩
theorem lies_lit {w : World} {g : Nat} {T : TypeId} {cap : Nat} {cur : Array Value} {L : List Sp} (h : w.heap[g]? = some (.cells cur T (0, 0))) (hc : cur.toList = scells L) (hl : L.length ≤ cap) (hm : cap ≤ maxLen) : Lies (fun _ => False) w 2 (.slice (some ⟨g, 0, none⟩) L.length cap) L.length (scells L) := by
  refine ⟨_, cap, rfl, hl, hm, scells_len L, (fun h => nomatch h), fun _ => ⟨g, 0, rfl, id, row_lt h, fun j u hu => ?_⟩, scells_one L⟩
  rw [Nat.zero_add, row_cell h]
  rw [← hc] at hu
  simpa using hu
end Go.Proofs.Ytglcpiokmieppaa
