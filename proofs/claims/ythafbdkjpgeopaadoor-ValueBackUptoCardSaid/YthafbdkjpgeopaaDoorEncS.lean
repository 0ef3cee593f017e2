/- A row of bytes that is owned, as a text. -/
import Derived.Test.YthafbdkjpgeopaaDoorEncA
import Derived.Test.YthafbdkjpgeopaaDoorLawW
import Derived.Laws.BytesString
import Derived.Laws.Cells
set_option linter.unusedVariables false
set_option linter.unusedSimpArgs false
namespace Go.Proofs.YthafbdkjpgeopaaDoor
open Go.RowKit

/-- The text that bytes are. -/
def strOf (xs : List Value) : ByteArray := (xs.map intOf).foldl (fun r n => r.push (UInt8.ofNat n.toNat)) ByteArray.empty
def AllU8 (xs : List Value) : Prop := xs = (xs.map intOf).map (Value.int .u8)
theorem allU8_append {a b : List Value} (h : AllU8 a) (h' : AllU8 b) : AllU8 (a ++ b) := by
  unfold AllU8 at *
  rw [List.map_append, List.map_append, ← h, ← h']
theorem allU8_map {α : Type} (l : List α) (f : α → Int) : AllU8 (l.map fun x => Value.int .u8 (f x)) := by
  unfold AllU8
  simp [Function.comp_def, intOf]
theorem allU8_one (x : Int) : AllU8 [.int .u8 x] := by simp [AllU8, intOf]
theorem allU8_octs (x : Int) (m k : Nat) : AllU8 (octs x m k) := allU8_map _ _
theorem allU8_octL : ∀ p, AllU8 (octL p)
  | [] => rfl
  | x :: r => allU8_append (allU8_octs x 8 8) (allU8_octL r)
theorem allU8_enc (k : Int) (b : Bool) (n : Int) (s : ByteArray) (p : List Int) : AllU8 (encL k b n s p) := by
  unfold encL
  split
  · unfold encB
    split
    · exact allU8_one _
    split
    · exact allU8_append (allU8_one _) (allU8_one _)
    split
    · exact allU8_append (allU8_one _) (allU8_octs _ _ _)
    split
    · exact allU8_append (allU8_append (allU8_one _) (allU8_octs _ _ _)) (allU8_map _ _)
    · exact allU8_append (allU8_append (allU8_one _) (allU8_one _)) (allU8_octL _)
  · rfl
theorem conv_str {W : World} {B : Nat} {v : Value} {xs : List Value} (h : W.ownsRow B 5 1 v xs.length xs) (hu : AllU8 xs) :
    (convert 30 9 v).run Tryd.prog W = .ok (.string (strOf xs)) W := by
  rcases h with ⟨hl, ⟨rfl, h0⟩ | ⟨g, cap, cur, rfl, hg, hh, hn, hm, hs, htk⟩⟩
  · obtain rfl : xs = [] := List.length_eq_zero_iff.1 h0
    rw [run_convert_bytes_string W 30 9 5 _ _ _ Tryd.underlying30 Tryd.underlying5 Tryd.underlying9]
    simp [Conv.bytesToString, strOf, Sem.run_pure]
  · rw [run_convert_bytes_string W 30 9 5 _ _ _ Tryd.underlying30 Tryd.underlying5 Tryd.underlying9]
    have hc : ∀ j v, xs[j]? = some v → W.cell? ((⟨g, 0, none⟩ : Addr).add j) = some v := World.ownsRow.cells (base := B) (e := 5) (size := 1) ⟨hl, .inr ⟨g, cap, cur, rfl, hg, hh, hn, hm, hs, htk⟩⟩ (g := g) rfl
    have := run_loadCells_list (P := Tryd.prog) W ⟨g, 0, none⟩ xs hc
    rw [run_bytesToString W ⟨g, 0, none⟩ xs.length cap (xs.map intOf) (by rw [← hu]; exact this)]
    rfl
theorem own_kept {w w' : World} {B : Nat} {e : TypeId} {z : Nat} {v : Value} {n : Nat} {xs : List Value} (h : w.ownsRow B e z v n xs) (hb : Below w.heap.size w w') : w'.ownsRow B e z v n xs := by
  rcases h with ⟨h1, h2 | ⟨g, cap, cur, e1, e2, e3, e4⟩⟩
  · exact ⟨h1, .inl h2⟩
  · have hg : g < w.heap.size := by
      rcases Nat.lt_or_ge g w.heap.size with hlt | hge
      · exact hlt
      · rw [Array.getElem?_eq_none hge] at e3
        cases e3
    exact ⟨h1, .inr ⟨g, cap, cur, e1, e2, (hb.block g hg).trans e3, e4⟩⟩
end Go.Proofs.YthafbdkjpgeopaaDoor
