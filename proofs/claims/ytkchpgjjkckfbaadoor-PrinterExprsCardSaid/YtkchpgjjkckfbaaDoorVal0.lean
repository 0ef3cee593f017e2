/- Plain words for the seat's walks: what is read, what is kept; no program in sight. -/
import Derived.WalkKit
import Derived.WalkLawsBesides
import Derived.WalkSpells
import Derived.Laws.RangeString
import Derived.Laws.RangeAny
import Derived.Lib.ValidLaws
import Derived.Lib.Hide
import Derived.Lib.IndexBytes
import Derived.Deep.Draws
import Derived.Deep.QuietTactic
import Derived.BigQuiet
import Derived.Deep.LoopGhost
import Derived.KernelRfl
set_option linter.unusedVariables false
set_option linter.unusedSimpArgs false
namespace Go.Proofs.YtkchpgjjkckfbaaDoor
open Go.RowKit

/-- A fact that the walk's simp does not look into. -/
structure Aside0 (p : Prop) : Prop where mk :: (out : p)

/-- The numbers of a slice are read. -/
def ReadsI (w : World) (A : Option Addr) (p : List Int) : Prop :=
  p.length ≤ 9223372036854775807 ∧ (0 < p.length → ∃ ad, A = some ad ∧ ∀ j, j < p.length → w.cell? (ad.add j) = some (.int .i64 (p.getD j 0)))

theorem ReadsI.at_ {w : World} {A : Option Addr} {p : List Int} (h : ReadsI w A p) (i : Nat) (hi : i < p.length) : ∃ ad, A = some ad ∧ w.cell? (ad.add i) = some (.int .i64 (p.getD i 0)) := by
  obtain ⟨ad, e, hc⟩ := h.2 (by omega)
  exact ⟨ad, e, hc _ hi⟩

theorem ReadsI.below {w w1 : World} {A : Option Addr} {p : List Int} (h : ReadsI w A p) (hb : Below w.heap.size w w1) : ReadsI w1 A p :=
  ⟨h.1, fun hn => by
    obtain ⟨ad, e, hc⟩ := h.2 hn
    exact ⟨ad, e, fun j hj => (hb.cell (World.block_lt_of_cell? w _ (hc j hj))).trans (hc j hj)⟩⟩

/-- The text begins, at a place, with the three bytes of the sign for what is none. -/
def bad3 : List UInt8 := [239, 191, 189]

theorem decodeL_bad3 (l : List UInt8) (h : l.take 3 = bad3) : Lib.decodeL l = (65533, 3) := by
  match l, h with
  | [], h => simp [bad3] at h
  | [_], h => simp [bad3] at h
  | [_, _], h => simp [bad3] at h
  | a :: b :: c :: t, h =>
    simp [bad3] at h
    obtain ⟨rfl, rfl, rfl⟩ := h
    rw [Lib.decodeL_N]
    simp [Lib.decodeN]

theorem decodeL_not_bad3 (l : List UInt8) (hne : l ≠ []) (h : (Lib.decodeL l).1 = 65533) (h3 : ¬ l.take 3 = bad3) : (Lib.decodeL l).2 = 1 := by
  by_cases h1 : (Lib.decodeL l).2 = 1
  · exact h1
  · exfalso
    have e := Lib.encode_decode l hne (fun hh => h1 hh.2)
    rw [h] at e
    have e3 : Lib.encodeRune ((65533 : Nat) : Int) = bad3 := by decide
    rw [e3] at e
    have hl : (Lib.decodeL l).2 = 3 := by
      have hle := Lib.decodeL_le l hne
      have := congrArg List.length e
      simp [bad3] at this
      omega
    rw [hl] at e
    exact h3 e.symm


/-- What lay there before is there still: the walk's two rules. -/
theorem bcell {W w1 : World} (hb : Below W.heap.size W w1) : (∀ b o, b < W.heap.size → w1.cell? ⟨b, o, none⟩ = W.cell? ⟨b, o, none⟩) ∧ (∀ b o, b < W.heap.size → w1.frozen? ⟨b, o, none⟩ = W.frozen? ⟨b, o, none⟩) :=
  ⟨fun b o h => hb.cell (p := ⟨b, o, none⟩) h, fun b o h => hb.frozen (p := ⟨b, o, none⟩) h⟩

theorem below_box {w w1 : World} {o : Obj} (hb : Below (w.alloc o).heap.size (w.alloc o) w1) : Below w.heap.size w w1 := ((Below.refl _ _).alloc (Nat.le_refl _) _).trans (hb.mono (by simp))
theorem below_more {w w1 : World} (h : Below w.heap.size w w1) (o : Obj) : Below w.heap.size w (w1.alloc o) := h.alloc h.size o
theorem below_then {w w1 w2 : World} (h : Below w.heap.size w w1) (k : Below w1.heap.size w1 w2) : Below w.heap.size w w2 := h.trans (k.mono h.size)

theorem below_set {w W : World} (h : Below w.heap.size w W) {p : Addr} (hp : w.heap.size ≤ p.block) (u : Value) : Below w.heap.size w (W.setCell p u) := h.setCell hp u

theorem empty_toList (s : ByteArray) : (s.toList == ([] : List UInt8)) = decide (s.size = 0) := by
  rw [Bool.eq_iff_iff, decide_eq_true_iff, Lib.toList_data]
  have hs : s.data.toList.length = s.size := rfl
  rw [← hs, beq_iff_eq, List.length_eq_zero_iff]


/-- What may be an ID. -/
def idB (n : Int) : Bool := decide (0 ≤ n) && decide (n ≤ 1099511627776)
/-- What value.text answers. -/
def textB (s : ByteArray) : Bool := decide (s.size ≤ 4096) && Lib.validD s.data.toList
/-- What value.Right answers. -/
def rightB (k : Int) (b : Bool) (n : Int) (s : ByteArray) (p : List Int) : Bool :=
  if k = 0 then !b && n == 0 && decide (s.size = 0) && decide (p.length = 0)
  else if k = 1 then n == 0 && decide (s.size = 0) && decide (p.length = 0)
  else if k = 2 then !b && decide (s.size = 0) && decide (p.length = 0)
  else if k = 3 then !b && n == 0 && decide (p.length = 0) && textB s
  else if k = 4 ∨ k = 5 then !b && decide (s.size = 0) && decide (p.length = 0) && idB n
  else if k = 6 then !b && n == 0 && decide (s.size = 0) && decide (0 < p.length) && decide (p.length ≤ 9) && p.all idB
  else false
end Go.Proofs.YtkchpgjjkckfbaaDoor
