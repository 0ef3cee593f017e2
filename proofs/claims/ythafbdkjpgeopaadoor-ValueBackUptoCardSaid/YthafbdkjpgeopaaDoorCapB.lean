/- A slice of bytes that came in, opened; its count is bounded by what a machine's memory holds. -/
import Derived.Test.YthafbdkjpgeopaaDoorCapW
import Derived.Test.YthafbdkjpgeopaaDoorDecW
set_option linter.unusedVariables false
set_option linter.unusedSimpArgs false
namespace Go.Proofs.YthafbdkjpgeopaaDoor
open Go.Joins Go.ChangeShapes Go.WideShapes Go.ChangeAt Go.RowKit Go.Deep

theorem cells_u8 : Tryd.prog.cellsOf 5 = 1 := by kernel_rfl
theorem bytes_u8 : Tryd.prog.bytesOf 5 = 1 := by kernel_rfl
theorem openB {H : Type} {enc : TypeId × Value → H} {W : World} {b0 : Nat} {v : Value} {d : DataW H} {p : List MemPlace} (hv : Value.okWide Tryd.prog W .any b0 30 v)
    (h : DataW.Trod enc Tryd.prog W 0 (fun _ => true) true 30 v d p) :
    ∃ (A : Option Addr) (bs : List Int) (c : Nat), v = .slice A bs.length c ∧ ReadsB W A bs ∧ (∀ x ∈ bs, 0 ≤ x ∧ x < 256) ∧ bs.length ≤ c ∧ ((DataW.weights Tryd.prog 30 d).all (· ≤ reachBytes) = true → bs.length ≤ 140737488351232) := by
  obtain ⟨A, len, cap, rfl⟩ := okWide_slice Tryd.underlying30 hv
  obtain ⟨fuel, hf⟩ := h
  rcases open_ints Tryd.underlying30 Tryd.underlying5 cells_u8 hf with ⟨hcs, hx⟩ | ⟨a, len', cap', zs, hcs, _, hl, hm, hz, hx, hcell, hwz⟩
  · simp [Value.cells] at hcs
    obtain ⟨rfl, rfl, rfl⟩ := hcs
    exact ⟨none, [], 0, rfl, ⟨by simp, fun h => absurd h (by simp)⟩, by simp, by simp, by simp⟩
  · simp [Value.cells] at hcs
    obtain ⟨rfl, rfl, rfl⟩ := hcs
    have hzl : zs.length = cap := by simpa using hz
    have hp : (zs.take len).length = len := by rw [List.length_take, Nat.min_eq_left (by omega)]
    refine ⟨some a, zs.take len, cap, by rw [hp], ⟨?_, fun hp => ⟨a, rfl, fun j hj => ?_⟩⟩, fun x hx => ?_, by omega, fun hk => ?_⟩
    · unfold maxLen at hm
      omega
    · rw [List.length_take] at hj
      rw [hcell j (by omega)]
      simp [List.getD, List.getElem?_take, show j < len by omega]
    · have hw := hwz x (List.mem_of_mem_take hx)
      simp [Lit.wf, IntKind.min, IntKind.max, IntKind.signed, IntKind.bits] at hw
      omega
    · simp only [Prod.mk.injEq] at hx
      rw [hx.1] at hk
      simp only [DataW.weights, Tryd.underlying30, bytes_u8] at hk
      rw [List.all_cons, Bool.and_eq_true, decide_eq_true_iff] at hk
      have h9 := hk.1
      have e : reachBytes = 140737488351232 := rfl
      rw [e] at h9
      simp only [lits, List.length_map] at h9
      rw [hp] at h9 ⊢
      omega
/-- A number among the arguments, opened. -/
theorem openNum {H : Type} {enc : TypeId × Value → H} {P : Program} {W : World} {b0 : Nat} {t : TypeId} {k : IntKind} {v : Value} {d : DataW H} {p : List MemPlace} (ht : P.underlying t = some (.int k)) (hv : Value.okWide P W .any b0 t v) (h : DataW.Trod enc P W 0 (fun _ => true) true t v d p) :
    ∃ n : Int, v = .int k n ∧ (Lit.int k n).wf = true := by
  obtain ⟨n, rfl⟩ := okWide_int ht hv
  obtain ⟨fuel, hf⟩ := h
  obtain ⟨n', hc, _, hs⟩ := DataW.trod_int ht hf
  obtain rfl : n = n' := by simpa [Value.cells] using hc
  exact ⟨n, rfl, hs⟩
end Go.Proofs.YthafbdkjpgeopaaDoor
