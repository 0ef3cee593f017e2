/- Words for the statements of the column laws. -/
import Derived.Test.YtbdbcbpcekpcoaaDoorCvRead
import Derived.Test.YtbdbcbpcekpcoaaDoorRowW
import Derived.Deep.DeepHandedRow
set_option linter.unusedVariables false
set_option linter.unusedSimpArgs false
namespace Go.Proofs.YtbdbcbpcekpcoaaDoor
open Go.Joins Go.ChangeShapes Go.WideShapes Go.ChangeAt Go.RowKit Go.Deep

theorem own : ownKnob Tryd.prog.godebug = none := by kernel_rfl
theorem laidOutP : laidOutB Tryd.prog = true := by kernel_rfl
theorem cells_value : Tryd.prog.cellsOf 39 = 5 := by kernel_rfl
theorem cells_int64 : Tryd.prog.cellsOf 2 = 1 := by kernel_rfl
theorem bytes_value : Tryd.prog.bytesOf 39 = 64 := by kernel_rfl
theorem each_first {H : Type} {P : Program} {t : TypeId} {ts : List TypeId} {d : DataW H} {ds : List (DataW H)} (hk : (DataW.weightsEach P (t :: ts) (d :: ds)).all (· ≤ reachBytes) = true) : (DataW.weights P t d).all (· ≤ reachBytes) = true := by
  rw [DataW.weightsEach, List.all_append, Bool.and_eq_true] at hk
  exact hk.1
theorem each_rest {H : Type} {P : Program} {t : TypeId} {ts : List TypeId} {d : DataW H} {ds : List (DataW H)} (hk : (DataW.weightsEach P (t :: ts) (d :: ds)).all (· ≤ reachBytes) = true) : (DataW.weightsEach P ts ds).all (· ≤ reachBytes) = true := by
  rw [DataW.weightsEach, List.all_append, Bool.and_eq_true] at hk
  exact hk.2
/-- Five cells that came in as a value, opened. -/
theorem openC {H : Type} {enc : TypeId × Value → H} {W : World} {fuel : Nat} {cs : List Value} {x : DataW H × List MemPlace} (hl : cs.length = 5) (h : DataW.trod enc Tryd.prog W 0 (fun _ => true) true fuel 39 cs = some x) :
    ∃ v : V5, cs = v.cells ∧ ReadsI W v.A v.p ∧ (-9223372036854775808 ≤ v.n ∧ v.n ≤ 9223372036854775807) ∧ v.s.size ≤ 9223372036854775807 := by
  obtain ⟨xs, n, _, hx, _, hlen, hg⟩ := DataW.trod_struct Tryd.underlying39 h
  match cs, hl, xs, hlen with
  | [c0, c1, c2, c3, c4], _, [y0, y1, y2, y3, y4], _ =>
    have k0 : Tryd.prog.cellsOf 22 = 1 := by kernel_rfl
    have h0 : DataW.trod enc Tryd.prog W 0 (fun _ => true) true n 22 [c0] = some y0 := by simpa [k0] using hg 0 _ rfl
    have k1 : Tryd.prog.cellsOf 4 = 1 := by kernel_rfl
    have h1 : DataW.trod enc Tryd.prog W 0 (fun _ => true) true n 4 [c1] = some y1 := by simpa [k1] using hg 1 _ rfl
    have k2 : Tryd.prog.cellsOf 2 = 1 := by kernel_rfl
    have h2 : DataW.trod enc Tryd.prog W 0 (fun _ => true) true n 2 [c2] = some y2 := by simpa [k2] using hg 2 _ rfl
    have k3 : Tryd.prog.cellsOf 9 = 1 := by kernel_rfl
    have h3 : DataW.trod enc Tryd.prog W 0 (fun _ => true) true n 9 [c3] = some y3 := by simpa [k3] using hg 3 _ rfl
    have k4 : Tryd.prog.cellsOf 37 = 1 := by kernel_rfl
    have h4 : DataW.trod enc Tryd.prog W 0 (fun _ => true) true n 37 [c4] = some y4 := by simpa [k4] using hg 4 _ rfl
    obtain ⟨k, e0, _, w0⟩ := DataW.trod_int Tryd.underlying22 h0
    obtain ⟨b, e1, _⟩ := DataW.trod_bool Tryd.underlying4 h1
    obtain ⟨nn, e2, _, w2⟩ := DataW.trod_int Tryd.underlying2 h2
    obtain ⟨s, e3, _, w3⟩ := DataW.trod_string Tryd.underlying9 h3
    obtain ⟨A, q, c, rfl, hr⟩ := readsI_open Tryd.underlying37 Tryd.underlying2 cells_int64 h4
    simp at e0 e1 e2 e3
    subst e0 e1 e2 e3
    refine ⟨⟨k, nn, b, s, A, q, c⟩, rfl, hr, ?_, ?_⟩
    · simpa [Lit.wf, IntKind.min, IntKind.max, IntKind.signed, IntKind.bits] using w2
    · simpa [maxLen] using w3
theorem addr_five (a : Addr) (j i : Nat) (h : a.spot = none) : (a.add j).add i = ⟨(a.add j).block, (a.add j).off + i, none⟩ ∧ (a.add j).spot = none := by
  obtain ⟨b, o, sp⟩ := a
  simp only at h
  subst h
  unfold Addr.add
  split <;> split <;> simp_all
theorem spot_of_cell {W : World} {p : Addr} {v : Value} (h : W.cell? p = some v) : p.spot = none := by
  unfold World.cell? at h
  split at h
  · split at h
    · cases h
    · rename_i hs
      simpa using hs
  · cases h
/-- A slice of values that came in, as the walks read it. -/
theorem readsV_open {H : Type} {enc : TypeId × Value → H} {W : World} {fuel : Nat} {c : Value} {x : DataW H × List MemPlace} (h : DataW.trod enc Tryd.prog W 0 (fun _ => true) true fuel 23 [c] = some x) :
    ∃ (A : Option Addr) (vs : List V5) (k : Nat), c = .slice A vs.length k ∧ ReadsV W A vs ∧ ∀ v ∈ vs, v.s.size ≤ 9223372036854775807 := by
  rcases open_slice Tryd.underlying23 h with ⟨hcs, _⟩ | ⟨a, len, cap, m, n, D, Pl, hcs, hb, hl, hm, hmm, _, hx⟩
  · obtain rfl : c = .slice none 0 0 := by simpa using hcs
    exact ⟨none, [], 0, rfl, ⟨by decide, fun j hj => absurd hj (by simp), fun v hv => (by cases hv), fun v hv => (by cases hv)⟩, fun v hv => (by cases hv)⟩
  · obtain rfl : c = .slice (some a) len cap := by simpa using hcs
    rw [cells_value] at hx
    have hlm : len ≤ m := by rw [hmm]; simp; omega
    have each : ∀ i, i < len → ∃ v : V5, W.cells? 0 (a.add (i * 5)) 5 = some v.cells ∧ ReadsI W v.A v.p ∧ (-9223372036854775808 ≤ v.n ∧ v.n ≤ 9223372036854775807) ∧ v.s.size ≤ 9223372036854775807 := fun i hi => by
      obtain ⟨cs', h1, h2⟩ := hx i (by omega)
      obtain ⟨_, hlen, _⟩ := World.cells?_some h1
      obtain ⟨v, rfl, g1, g2, g3⟩ := openC hlen h2
      exact ⟨v, h1, g1, g2, g3⟩
    have hin : Inhabited V5 := ⟨V5.zero⟩
    obtain ⟨V, hV⟩ := choose_lt each
    refine ⟨some a, (List.range len).map V, cap, by simp, ⟨by unfold maxLen at hm; simp; omega, fun j hj => ?_, fun v hv => ?_, fun v hv => ?_⟩, fun v hv => ?_⟩
    · have hj' : j < len := by simpa using hj
      have e : ((List.range len).map V).getD j V5.zero = V j := by simp [List.getD, hj']
      rw [e]
      obtain ⟨g0, _⟩ := hV j hj'
      obtain ⟨_, _, hc⟩ := World.cells?_some g0
      have q0 := hc 0 (by omega)
      have s0 := spot_of_cell q0
      have hs : (a.add (j * 5)).spot = none := by
        revert s0
        generalize a.add (j * 5) = p
        obtain ⟨b, o, sp⟩ := p
        unfold Addr.add
        intro s0
        split at s0 <;> first | exact s0 | simp_all
      have ha : ∀ i, (a.add (j * 5)).add i = ⟨(a.add (j * 5)).block, (a.add (j * 5)).off + i, none⟩ := by
        revert hs
        generalize a.add (j * 5) = p
        obtain ⟨b, o, sp⟩ := p
        intro hs i
        simp only at hs
        subst hs
        unfold Addr.add
        split <;> simp_all
      have e0 : (⟨(a.add (j * 5)).block, (a.add (j * 5)).off + 0, none⟩ : Addr) = a.add (j * 5) := by
        rw [← hs]
        rfl
      have r0 := hc 0 (by omega)
      have r1 := hc 1 (by omega)
      have r2 := hc 2 (by omega)
      have r3 := hc 3 (by omega)
      have r4 := hc 4 (by omega)
      rw [ha] at r0 r1 r2 r3 r4
      rw [e0] at r0
      exact ⟨a, rfl, block_lt_of_cell r0, hs, r0, r1, r2, r3, r4⟩
    · obtain ⟨j, hj, rfl⟩ := List.mem_map.1 hv
      exact (hV j (List.mem_range.1 hj)).2.1
    · obtain ⟨j, hj, rfl⟩ := List.mem_map.1 hv
      exact (hV j (List.mem_range.1 hj)).2.2.1
    · obtain ⟨j, hj, rfl⟩ := List.mem_map.1 hv
      exact (hV j (List.mem_range.1 hj)).2.2.2
/-- An argument that is a slice of values, opened. -/
theorem openList {H : Type} {enc : TypeId × Value → H} {W : World} {b0 : Nat} {v : Value} {d : DataW H} {p : List MemPlace} (hv : Value.okWide Tryd.prog W .any b0 23 v) (h : DataW.Trod enc Tryd.prog W 0 (fun _ => true) true 23 v d p) :
    ∃ (A : Option Addr) (vs : List V5) (k : Nat), v = .slice A vs.length k ∧ ReadsV W A vs ∧ ∀ u ∈ vs, u.s.size ≤ 9223372036854775807 := by
  obtain ⟨a, len, cap, rfl⟩ := okWide_slice Tryd.underlying23 hv
  obtain ⟨fuel, hf⟩ := h
  exact readsV_open (c := .slice a len cap) (by simpa [Value.cells] using hf)
/-- How long a slice of values that came in is. -/
theorem list_room {H : Type} {enc : TypeId × Value → H} {W : World} {a : Option Addr} {len cap : Nat} {d : DataW H} {p : List MemPlace}
    (h : DataW.Trod enc Tryd.prog W 0 (fun _ => true) true 23 (.slice a len cap) d p) : ((DataW.weights Tryd.prog 23 d).all (· ≤ reachBytes) = true → len ≤ 2199023255488) := by
  obtain ⟨fuel, hf⟩ := h
  have hf : DataW.trod enc Tryd.prog W 0 (fun _ => true) true fuel 23 [.slice a len cap] = some (d, p) := hf
  rcases open_slice Tryd.underlying23 hf with ⟨hcs, hx⟩ | ⟨a', len', cap', m, n, D, Pl, hcs, hb, hl, hm, hmm, hx, hel⟩
  · simp at hcs
    omega
  · simp at hcs
    obtain ⟨_, rfl, rfl⟩ := hcs
    intro hw
    simp only [Prod.mk.injEq] at hx
    rw [hx.1] at hw
    simp only [DataW.weights, Tryd.underlying23, bytes_value] at hw
    rw [List.all_cons, Bool.and_eq_true, decide_eq_true_iff] at hw
    have e : reachBytes = 140737488351232 := rfl
    have h1 := hw.1
    rw [e] at h1
    simp only [List.length_map, List.length_range] at h1
    omega
end Go.Proofs.YtbdbcbpcekpcoaaDoor
