/- Words for the column laws' statements: texts that came in. -/
import Derived.Test.YtbdbcbpcekpcoaaCvSaid
import Derived.Test.YtbdbcbpcekpcoaaCvDk
set_option linter.unusedVariables false
set_option linter.unusedSimpArgs false
namespace Go.Proofs.Ytbdbcbpcekpcoaa
open Go.Joins Go.ChangeShapes Go.WideShapes Go.ChangeAt Go.RowKit Go.Deep

theorem cells_string : Try.prog.cellsOf 9 = 1 := by kernel_rfl
theorem bytes_string : Try.prog.bytesOf 9 = 16 := by kernel_rfl
/-- A slice of texts that came in, as the walks read it. -/
theorem readsT_open {H : Type} {enc : TypeId × Value → H} {W : World} {fuel : Nat} {c : Value} {x : DataW H × List MemPlace} (h : DataW.trod enc Try.prog W 0 (fun _ => true) true fuel 22 [c] = some x) :
    ∃ (A : Option Addr) (l : List ByteArray) (k : Nat), c = .slice A l.length k ∧ ReadsT W A l := by
  rcases open_slice Try.underlying22 h with ⟨hcs, _⟩ | ⟨a, len, cap, m, n, D, Pl, hcs, hb, hl, hm, hmm, _, hx⟩
  · obtain rfl : c = .slice none 0 0 := by simpa using hcs
    exact ⟨none, [], 0, rfl, ⟨by decide, fun h => absurd h (by simp)⟩⟩
  · obtain rfl : c = .slice (some a) len cap := by simpa using hcs
    rw [cells_string] at hx
    have each : ∀ i, i < len → ∃ s : ByteArray, W.cell? (a.add i) = some (.string s) := fun i hi => by
      obtain ⟨cs', h1, h2⟩ := hx i (by rw [hmm]; simp; omega)
      obtain ⟨_, hlen, hc⟩ := World.cells?_some h1
      match cs', hlen with
      | [c0], _ =>
        obtain ⟨s, e, _, _⟩ := DataW.trod_string Try.underlying9 h2
        simp at e
        subst e
        have h0 := hc 0 (by omega)
        have hsp := spot_of_cell h0
        have e0 : (a.add (i * 1)).add 0 = a.add i := by
          rw [Nat.mul_one]
          revert hsp
          generalize a.add (i * 1) = p
          intro _
          generalize a.add i = p
          obtain ⟨b, o, sp⟩ := p
          unfold Addr.add
          split <;> simp_all
        rw [e0] at h0
        exact ⟨s, h0⟩
    have hin : Inhabited ByteArray := ⟨ByteArray.empty⟩
    obtain ⟨V, hV⟩ := choose_lt each
    refine ⟨some a, (List.range len).map V, cap, by simp, ⟨by unfold maxLen at hm; simp; omega, fun _ => ⟨a, rfl, fun j hj => ?_⟩⟩⟩
    have hj' : j < len := by simpa using hj
    have e : ((List.range len).map V).getD j ByteArray.empty = V j := by simp [List.getD, hj']
    rw [e]
    exact hV j hj'
theorem openTexts {H : Type} {enc : TypeId × Value → H} {W : World} {b0 : Nat} {v : Value} {d : DataW H} {p : List MemPlace} (hv : Value.okWide Try.prog W .any b0 22 v) (h : DataW.Trod enc Try.prog W 0 (fun _ => true) true 22 v d p) :
    ∃ (A : Option Addr) (l : List ByteArray) (k : Nat), v = .slice A l.length k ∧ ReadsT W A l := by
  obtain ⟨a, len, cap, rfl⟩ := okWide_slice Try.underlying22 hv
  obtain ⟨fuel, hf⟩ := h
  exact readsT_open (c := .slice a len cap) (by simpa [Value.cells] using hf)
theorem texts_room {H : Type} {enc : TypeId × Value → H} {W : World} {a : Option Addr} {len cap : Nat} {d : DataW H} {p : List MemPlace}
    (h : DataW.Trod enc Try.prog W 0 (fun _ => true) true 22 (.slice a len cap) d p) : ((DataW.weights Try.prog 22 d).all (· ≤ reachBytes) = true → len ≤ 8796093021952) := by
  obtain ⟨fuel, hf⟩ := h
  have hf : DataW.trod enc Try.prog W 0 (fun _ => true) true fuel 22 [.slice a len cap] = some (d, p) := hf
  rcases open_slice Try.underlying22 hf with ⟨hcs, hx⟩ | ⟨a', len', cap', m, n, D, Pl, hcs, hb, hl, hm, hmm, hx, hel⟩
  · simp at hcs
    omega
  · simp at hcs
    obtain ⟨_, rfl, rfl⟩ := hcs
    intro hw
    simp only [Prod.mk.injEq] at hx
    rw [hx.1] at hw
    simp only [DataW.weights, Try.underlying22, bytes_string] at hw
    rw [List.all_cons, Bool.and_eq_true, decide_eq_true_iff] at hw
    have e : reachBytes = 140737488351232 := rfl
    have h1 := hw.1
    rw [e] at h1
    simp only [List.length_map, List.length_range] at h1
    omega
end Go.Proofs.Ytbdbcbpcekpcoaa
