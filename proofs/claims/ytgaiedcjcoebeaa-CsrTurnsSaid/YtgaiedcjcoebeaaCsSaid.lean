/- Words for the statements of csr.Meet: what came in is no greater than a machine holds. -/
import Derived.Test.YtgaiedcjcoebeaaCsRead
import Derived.Test.YtgaiedcjcoebeaaRowW
import Derived.Deep.DeepHandedRow
import Derived.PinnedBridge
set_option linter.unusedVariables false
set_option linter.unusedSimpArgs false
namespace Go.Proofs.Ytgaiedcjcoebeaa
open Go.Joins Go.ChangeShapes Go.WideShapes Go.ChangeAt Go.RowKit Go.Deep

theorem own : ownKnob Try.prog.godebug = none := by kernel_rfl
theorem laidOutP : laidOutB Try.prog = true := by kernel_rfl
theorem u8_range' {z : Int} (h : (Lit.int .u8 z).wf = true) : 0 ≤ z ∧ z ≤ 255 := by
  simp [Lit.wf, IntKind.min, IntKind.max, IntKind.bits, IntKind.signed] at h
  omega
theorem each_first {H : Type} {t : TypeId} {ts : List TypeId} {d : DataW H} {ds : List (DataW H)} (hk : (DataW.weightsEach Try.prog (t :: ts) (d :: ds)).all (· ≤ reachBytes) = true) : (DataW.weights Try.prog t d).all (· ≤ reachBytes) = true := by
  rw [DataW.weightsEach] at hk
  exact (all_app hk).1
/-- A number among the arguments, opened. -/
theorem openInt {H : Type} {P : Program} {enc : TypeId × Value → H} {W : World} {b0 : Nat} {t : TypeId} {k : IntKind} {v : Value} {d : DataW H} {p : List MemPlace} (ht : P.underlying t = some (.int k)) (hv : Value.okWide P W .any b0 t v) (h : DataW.Trod enc P W 0 (fun _ => true) true t v d p) :
    ∃ n : Int, v = .int k n ∧ (Lit.int k n).wf = true := by
  obtain ⟨n, rfl⟩ := okWide_int ht hv
  obtain ⟨fuel, hf⟩ := h
  obtain ⟨n', hc, _, hs⟩ := DataW.trod_int ht hf
  obtain rfl : n = n' := by simpa [Value.cells] using hc
  exact ⟨n, rfl, hs⟩
theorem slice_shape {P : Program} {W : World} {b0 : Nat} {t e : TypeId} {v : Value} (ht : P.underlying t = some (.slice e)) (hv : Value.okWide P W .any b0 t v) : ∃ a len cap, v = Value.slice a len cap := okWide_slice ht hv
theorem openLs {H : Type} {enc : TypeId × Value → H} {W : World} {v : Value} {d : DataW H} {p : List MemPlace} (hv : ∃ a len cap, v = Value.slice a len cap) (h : DataW.Trod enc Try.prog W 0 (fun _ => true) true 22 v d p) :
    ∃ (A : Option Addr) (rs : List R3) (k : Nat), v = .slice A rs.length k ∧ ReadsL W A rs ∧ ((DataW.weights Try.prog 22 d).all (· ≤ reachBytes) = true → Small rs) := by
  obtain ⟨a, len, cap, rfl⟩ := hv
  obtain ⟨fuel, hf⟩ := h
  obtain ⟨A, rs, k, h1, h2, h3⟩ := readsL_open (c := .slice a len cap) (x := (d, p)) hf
  exact ⟨A, rs, k, h1, h2, h3⟩
end Go.Proofs.Ytgaiedcjcoebeaa
