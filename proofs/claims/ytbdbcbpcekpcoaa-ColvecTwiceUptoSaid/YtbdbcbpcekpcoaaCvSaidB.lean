/- Rows of bytes among the arguments of a column law. -/
import Derived.Test.YtbdbcbpcekpcoaaCvSaidU
import Derived.Test.YtbdbcbpcekpcoaaCvInt
set_option linter.unusedVariables false
set_option linter.unusedSimpArgs false
namespace Go.Proofs.Ytbdbcbpcekpcoaa
open Go.Joins Go.ChangeShapes Go.WideShapes Go.ChangeAt Go.RowKit Go.Deep

theorem cells_u8 : Try.prog.cellsOf 5 = 1 := by kernel_rfl
theorem openB {H : Type} {enc : TypeId × Value → H} {W : World} {b0 : Nat} {v : Value} {d : DataW H} {p : List MemPlace} (hv : Value.okWide Try.prog W .any b0 48 v)
    (h : DataW.Trod enc Try.prog W 0 (fun _ => true) true 48 v d p) :
    ∃ (A : Option Addr) (bs : List Int) (c : Nat), v = .slice A bs.length c ∧ ReadsB W A bs ∧ (∀ x ∈ bs, 0 ≤ x ∧ x < 256) ∧ bs.length ≤ Rows.uptoBulk d := by
  obtain ⟨A, len, cap, rfl⟩ := okWide_slice Try.underlying48 hv
  obtain ⟨fuel, hf⟩ := h
  rcases open_ints Try.underlying48 Try.underlying5 cells_u8 hf with ⟨hcs, hx⟩ | ⟨a, len', cap', zs, hcs, _, hl, hm, hz, hx, hcell, hwz⟩
  · simp [Value.cells] at hcs
    obtain ⟨rfl, rfl, rfl⟩ := hcs
    exact ⟨none, [], 0, rfl, ⟨by simp, fun h => absurd h (by simp)⟩, by simp, by simp⟩
  · simp [Value.cells] at hcs
    obtain ⟨rfl, rfl, rfl⟩ := hcs
    have hzl : zs.length = cap := by simpa using hz
    have hp : (zs.take len).length = len := by rw [List.length_take, Nat.min_eq_left (by omega)]
    refine ⟨some a, zs.take len, cap, by rw [hp], ⟨?_, fun hp => ⟨a, rfl, fun j hj => ?_⟩⟩, fun x hx => ?_, ?_⟩
    · unfold maxLen at hm
      omega
    · rw [List.length_take] at hj
      rw [hcell j (by omega)]
      simp [List.getD, List.getElem?_take, show j < len by omega]
    · have hw := hwz x (List.mem_of_mem_take hx)
      simp [Lit.wf, IntKind.min, IntKind.max, IntKind.signed, IntKind.bits] at hw
      omega
    · simp only [Prod.mk.injEq] at hx
      rw [hx.1, Rows.uptoBulk, hp]
      have h1 := bulk_len (lits (H := H) .u8 (zs.take len))
      simp only [lits, List.length_map] at h1
      rw [hp] at h1
      simp only [lits]
      omega
end Go.Proofs.Ytbdbcbpcekpcoaa
