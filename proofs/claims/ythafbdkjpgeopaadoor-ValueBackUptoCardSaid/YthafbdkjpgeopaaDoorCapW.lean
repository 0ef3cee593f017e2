/- A value that came in: its path's count is bounded by what a machine's memory holds. -/
import Derived.Test.YthafbdkjpgeopaaDoorCardW
set_option linter.unusedVariables false
set_option linter.unusedSimpArgs false
namespace Go.Proofs.YthafbdkjpgeopaaDoor
open Go.Joins Go.ChangeShapes Go.WideShapes Go.ChangeAt Go.RowKit Go.Deep

theorem bytes_i64 : Tryd.prog.bytesOf 2 = 8 := by kernel_rfl
theorem path_of_each {H : Type} {P : Program} {t0 t1 t2 t3 t4 : TypeId} {d0 d1 d2 d3 d4 : DataW H} {B : Nat} (h : (DataW.weightsEach P [t0, t1, t2, t3, t4] [d0, d1, d2, d3, d4]).all (· ≤ B) = true) : (DataW.weights P t4 d4).all (· ≤ B) = true := by
  simp only [DataW.weightsEach, List.all_append, Bool.and_eq_true] at h
  exact h.2.2.2.2.1
theorem pathWeight {H : Type} {enc : TypeId × Value → H} {W : World} {b0 : Nat} {u0 u1 u2 u3 : Value} {A : Option Addr} {q c : Nat} {d : DataW H} {p : List MemPlace} (hv : Value.okWide Tryd.prog W .any b0 25 (.agg #[u0, u1, u2, u3, .slice A q c]))
    (h : DataW.Trod enc Tryd.prog W 0 (fun _ => true) true 25 (.agg #[u0, u1, u2, u3, .slice A q c]) d p) (hk : (DataW.weights Tryd.prog 25 d).all (· ≤ reachBytes) = true) : q ≤ 17592186044416 := by
  obtain ⟨v0, v1, v2, v3, v4, y0, y1, y2, y3, y4, m, hve, rfl, rfl, h0, h1, h2, h3, h4⟩ := open_agg5 Tryd.underlying25 (by kernel_rfl) cells_value hv h
  simp only [Value.agg.injEq, Array.mk.injEq, List.cons.injEq, and_true] at hve
  obtain ⟨_, _, _, _, rfl⟩ := hve
  rw [DataW.weights] at hk
  simp only [Tryd.underlying25] at hk
  have hw := path_of_each hk
  rcases open_ints Tryd.underlying23 Tryd.underlying2 cells_int64 h4 with ⟨hcs, _⟩ | ⟨a, len, cap, zs, hcs, _, hl, hm, hz, hx, hcell, hwz⟩
  · simp at hcs
    omega
  · simp at hcs
    have hzl : zs.length = cap := by simpa using hz
    rw [hx] at hw
    simp only [DataW.weights, Tryd.underlying23, bytes_i64] at hw
    rw [List.all_cons, Bool.and_eq_true, decide_eq_true_iff] at hw
    have h9 := hw.1
    have e : reachBytes = 140737488351232 := rfl
    rw [e] at h9
    simp only [lits, List.length_map] at h9
    have hp : (zs.take len).length = len := by rw [List.length_take, Nat.min_eq_left (by omega)]
    rw [hp] at h9
    omega
theorem each_first {H : Type} {t : TypeId} {ts : List TypeId} {d : DataW H} {ds : List (DataW H)} (hk : (DataW.weightsEach Tryd.prog (t :: ts) (d :: ds)).all (· ≤ reachBytes) = true) : (DataW.weights Tryd.prog t d).all (· ≤ reachBytes) = true := by
  rw [DataW.weightsEach, List.all_append, Bool.and_eq_true] at hk
  exact hk.1
end Go.Proofs.YthafbdkjpgeopaaDoor
