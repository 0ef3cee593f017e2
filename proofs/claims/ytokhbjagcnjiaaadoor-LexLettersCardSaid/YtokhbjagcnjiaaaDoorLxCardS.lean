/- Words for cards that ask how long a text is. -/
import Derived.Test.YtokhbjagcnjiaaaDoorLxCard
set_option linter.unusedVariables false
set_option linter.unusedSimpArgs false
namespace Go.Proofs.YtokhbjagcnjiaaaDoor
open Go.Joins Go.ChangeShapes Go.WideShapes Go.ChangeAt Go.RowKit Go.Deep

/-- A text among the arguments, opened, with what it reads as. -/
theorem openStrD {H : Type} {enc : TypeId × Value → H} {W : World} {b0 : Nat} {v : Value} {d : DataW H} {p : List MemPlace} (hv : Value.okWide Tryd.prog W .any b0 9 v) (h : DataW.Trod enc Tryd.prog W 0 (fun _ => true) true 9 v d p) :
    ∃ s : ByteArray, v = .string s ∧ d = .lit (.string s.data.toList) ∧ s.size ≤ 9223372036854775807 := by
  obtain ⟨s, rfl⟩ := okWide_string Tryd.underlying9 hv
  obtain ⟨fuel, hf⟩ := h
  obtain ⟨s', hc, hx, hs⟩ := DataW.trod_string Tryd.underlying9 hf
  obtain rfl : s = s' := by simpa [Value.cells] using hc
  exact ⟨s, rfl, (Prod.mk.inj hx).1, Nat.le_trans hs (by decide)⟩
/-- What the bound gives: the text's length. -/
theorem upto_one {H : Type} {s : ByteArray} (hk : Rows.uptoSmall H ([.lit (.string s.data.toList)] ++ []) = true) : s.size ≤ 1048576 := by
  have h : Rows.uptoBulkAll [DataW.lit (H := H) (.string s.data.toList)] ≤ 1048576 := of_decide_eq_true hk
  simp only [Rows.uptoBulkAll, Rows.uptoBulk] at h
  have e : s.data.toList.length = s.size := rfl
  omega
/-- What the reach gives: the third argument's length. -/
theorem reach_third {H : Type} {t0 t1 t2 : TypeId} {ts : List TypeId} {d0 d1 : DataW H} {s : ByteArray} {gs : List (DataW H)} (hk : (DataW.weightsEach Tryd.prog ((#[t0, t1, t2] : Array TypeId).toList ++ ts) ([d0, d1, .lit (.string s.data.toList)] ++ gs)).all (· ≤ reachBytes) = true) : s.size ≤ 140737488355328 := by
  have h : (s.data.toList.length ≤ reachBytes) := by
    rw [List.all_eq_true] at hk
    have := hk s.data.toList.length (by simp [DataW.weightsEach, DataW.weights])
    exact of_decide_eq_true this
  have e : s.data.toList.length = s.size := rfl
  have e2 : reachBytes ≤ 140737488355328 := by decide
  omega
end Go.Proofs.YtokhbjagcnjiaaaDoor
