/- A text as a row of bytes of one's own, and back. -/
import Derived.Test.YtkchpgjjkckfbaaDoorLxRun
import Derived.Laws.IdiomStrings
import Derived.Laws.BytesString
import Derived.Laws.Cells
import Derived.Lib.UnsafeStr
set_option linter.unusedVariables false
set_option linter.unusedSimpArgs false
namespace Go.Proofs.YtkchpgjjkckfbaaDoor
open Go.RowKit

/-- A row that a text was turned into. -/
def RowZ (W : World) (g : Nat) (C : Array Value) : Prop := W.heap[g]? = some (.cells C 5 (C.size, C.size + 1))
theorem RowZ.lt {W : World} {g : Nat} {C : Array Value} (h : RowZ W g C) : g < W.heap.size := (Array.getElem?_eq_some_iff.1 h).1
theorem RowZ.cell {W : World} {g : Nat} {C : Array Value} (h : RowZ W g C) (j : Nat) : W.cell? ⟨g, j, none⟩ = C[j]? := by
  unfold World.cell?
  rw [h]
  rfl
theorem RowZ.free {W : World} {g : Nat} {C : Array Value} (h : RowZ W g C) (j : Nat) (hj : j < C.size) : W.frozen? ⟨g, j, none⟩ = false := by
  unfold World.frozen?
  rw [h]
  simp
  omega
theorem RowZ.put {W : World} {g : Nat} {C : Array Value} (h : RowZ W g C) (j : Nat) (v : Value) : RowZ (W.setCell ⟨g, j, none⟩ v) g (C.setIfInBounds j v) := by
  unfold RowZ at *
  simp [World.setCell, Array.getElem?_modify, h]
theorem RowZ.kept {W W' : World} {g : Nat} {C : Array Value} (h : RowZ W g C) (hb : Below W.heap.size W W') : RowZ W' g C := (hb.block g h.lt).trans h
/-- The bytes of a text, a row of its own. -/
theorem conv_row (W : World) (s : ByteArray) : ∃ (cc : Nat) (C : Array Value), (convert 9 48 (.string s)).run Tryd.prog W = .ok (.slice (some ⟨W.heap.size, 0, none⟩) s.size cc) (W.drew.alloc (.cells C 5 (C.size, C.size + 1))) ∧
    s.size ≤ C.size ∧ ∀ j (h : j < s.size), C[j]? = some (.int .u8 ((s.data.toList.getD j 0).toNat : Int)) := by
  refine ⟨_, _, run_bytes_of_string W 9 48 5 s Tryd.underlying9 Tryd.underlying48 Tryd.underlying5, ?_, fun j h => ?_⟩
  · simp [bytesRow]
  · have hd : j < s.data.size := h
    have hg : s.data[j]? = some (s.data[j]) := Array.getElem?_eq_getElem hd
    simp [bytesRow, Array.getElem?_append, h, hg, List.getD]
theorem row_text {W : World} {g : Nat} {C : Array Value} (h : RowZ W g C) (l : List UInt8) (cap : Nat) (hc : ∀ j, j < l.length → C[j]? = some (.int .u8 ((l.getD j 0).toNat : Int))) :
    (convert 48 9 (.slice (some ⟨g, 0, none⟩) l.length cap)).run Tryd.prog W = .ok (.string ⟨l.toArray⟩) W := by
  rw [run_convert_bytes_string W 48 9 5 _ _ _ Tryd.underlying48 Tryd.underlying5 Tryd.underlying9]
  have hl : (Lib.byteCells l).length = l.length := Lib.byteCells_length l
  have h2 : ∀ j v, (Lib.byteCells l)[j]? = some v → W.cell? ((⟨g, 0, none⟩ : Addr).add j) = some v := by
    intro j v hv
    have hj : j < l.length := by rw [← hl]; exact (List.getElem?_eq_some_iff.1 hv).1
    have e : (⟨g, 0, none⟩ : Addr).add j = ⟨g, j, none⟩ := by cases j <;> simp [Addr.add]
    rw [e, h.cell, hc j hj, ← hv]
    simp [Lib.byteCells, List.getD, hj]
  have h3 := run_loadCells_list (P := Tryd.prog) W ⟨g, 0, none⟩ (Lib.byteCells l) h2
  rw [hl] at h3
  rw [run_bytesToString W ⟨g, 0, none⟩ l.length cap (l.map fun b => (b.toNat : Int)) (by rw [h3]; simp [Lib.byteCells, Function.comp_def])]
  congr 2
  have hf : ∀ (l : List UInt8) (a : ByteArray), (l.map fun b => (b.toNat : Int)).foldl (fun r n => r.push (UInt8.ofNat n.toNat)) a = ⟨a.data ++ l.toArray⟩ := by
    intro l
    induction l with
    | nil => intro a; simp
    | cons x t ih =>
      intro a
      simp only [List.map_cons, List.foldl_cons]
      rw [ih]
      simp only [ByteArray.push]
      congr 1
      simp
  rw [hf]
  show (⟨#[] ++ l.toArray⟩ : ByteArray) = _
  simp
end Go.Proofs.YtkchpgjjkckfbaaDoor
