/- A value that came in: its numbers' count is at most their room. -/
import Derived.Test.YthafbdkjpgeopaaDoorCardW
set_option linter.unusedVariables false
set_option linter.unusedSimpArgs false
namespace Go.Proofs.YthafbdkjpgeopaaDoor
open Go.Joins Go.ChangeShapes Go.WideShapes Go.ChangeAt Go.RowKit Go.Deep

theorem capVal {H : Type} {enc : TypeId × Value → H} {W : World} {b0 : Nat} {u0 u1 u2 u3 : Value} {A : Option Addr} {q c : Nat} {d : DataW H} {p : List MemPlace} (hv : Value.okWide Tryd.prog W .any b0 25 (.agg #[u0, u1, u2, u3, .slice A q c]))
    (h : DataW.Trod enc Tryd.prog W 0 (fun _ => true) true 25 (.agg #[u0, u1, u2, u3, .slice A q c]) d p) : q ≤ c := by
  obtain ⟨v0, v1, v2, v3, v4, y0, y1, y2, y3, y4, m, hve, rfl, rfl, h0, h1, h2, h3, h4⟩ := open_agg5 Tryd.underlying25 (by kernel_rfl) cells_value hv h
  simp only [Value.agg.injEq, Array.mk.injEq, List.cons.injEq, and_true] at hve
  obtain ⟨_, _, _, _, rfl⟩ := hve
  rcases open_ints Tryd.underlying23 Tryd.underlying2 cells_int64 h4 with ⟨hcs, _⟩ | ⟨a, len, cap, zs, hcs, _, hl, _⟩
  · simp at hcs
    omega
  · simp at hcs
    omega
end Go.Proofs.YthafbdkjpgeopaaDoor
