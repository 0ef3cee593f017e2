/- Bytes among the arguments, opened. -/
import Derived.Test.YtffifhinhemkdaaRgSaid
import Derived.Test.YtffifhinhemkdaaRgTrn0
import Derived.Deep.Slices
set_option linter.unusedVariables false
set_option linter.unusedSimpArgs false
namespace Go.Proofs.Ytffifhinhemkdaa
open Go.Joins Go.ChangeShapes Go.WideShapes Go.ChangeAt Go.RowKit Go.Deep

theorem cells_u8 : Try.prog.cellsOf 5 = 1 := by kernel_rfl
theorem openBytesP {H : Type} {P : Program} {enc : TypeId × Value → H} {W : World} {b0 : Nat} {s e : TypeId} {v : Value} {d : DataW H} {p : List MemPlace} (hs : P.underlying s = some (.slice e)) (he : P.underlying e = some (.int .u8)) (hc : P.cellsOf e = 1) (hv : Value.okWide P W .any b0 s v)
    (h : DataW.Trod enc P W 0 (fun _ => true) true s v d p) : ∃ (A : Option Addr) (bs : List Int) (c : Nat), v = .slice A bs.length c ∧ Bytes W A bs := by
  obtain ⟨A, len, cap, rfl⟩ := okWide_slice hs hv
  obtain ⟨fuel, hf⟩ := h
  rcases open_ints hs he hc hf with ⟨hcs, hx⟩ | ⟨a, len', cap', zs, hcs, _, hl, hm, hz, hx, hcell, hwz⟩
  · simp [Value.cells] at hcs
    obtain ⟨rfl, rfl, rfl⟩ := hcs
    exact ⟨none, [], 0, rfl, by simp, fun j hj => absurd hj (by simp), fun z hz => (by cases hz)⟩
  · simp [Value.cells] at hcs
    obtain ⟨rfl, rfl, rfl⟩ := hcs
    have hzl : zs.length = cap := by simpa using hz
    have hp : (zs.take len).length = len := by rw [List.length_take, Nat.min_eq_left (by omega)]
    refine ⟨some a, zs.take len, cap, by rw [hp], ?_, fun j hj => ⟨a, rfl, ?_, ?_⟩, fun x hx => ?_⟩
    · rw [hp]
      unfold maxLen at hm
      omega
    · rw [hp] at hj
      have h1 := lt_cell (hcell j (by omega))
      rw [show (a.add j).block = a.block by unfold Addr.add; split <;> rfl] at h1
      exact h1
    · rw [hp] at hj
      rw [hcell j (by omega)]
      simp [List.getD, List.getElem?_take, hj]
    · have hw := hwz x (List.mem_of_mem_take hx)
      simp [Lit.wf, IntKind.min, IntKind.max, IntKind.signed, IntKind.bits] at hw
      omega
set_option maxRecDepth 100000 in
theorem openBytes {H : Type} {enc : TypeId × Value → H} {W : World} {b0 : Nat} {v : Value} {d : DataW H} {p : List MemPlace} (hv : Value.okWide Try.prog W .any b0 41 v)
    (h : DataW.Trod enc Try.prog W 0 (fun _ => true) true 41 v d p) : ∃ (A : Option Addr) (bs : List Int) (c : Nat), v = .slice A bs.length c ∧ Bytes W A bs :=
  openBytesP Try.underlying41 Try.underlying5 cells_u8 hv h
end Go.Proofs.Ytffifhinhemkdaa
