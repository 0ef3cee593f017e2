/- A slice of values that came in, opened: its paths are bounded by its bulk. -/
import Derived.Test.YtbdbcbpcekpcoaaDoorCvCard
import Derived.Test.YtbdbcbpcekpcoaaDoorCvAppV
set_option linter.unusedVariables false
set_option linter.unusedSimpArgs false
namespace Go.Proofs.YtbdbcbpcekpcoaaDoor
open Go.Joins Go.ChangeShapes Go.WideShapes Go.ChangeAt Go.RowKit Go.Deep

theorem bulk_mem {H : Type} {d : DataW H} : ∀ {l : List (DataW H)}, d ∈ l → Rows.uptoBulk d ≤ Rows.uptoBulkAll l
  | x :: r, h => by
    rw [Rows.uptoBulkAll]
    rcases List.mem_cons.1 h with rfl | h
    · omega
    · have := bulk_mem h
      omega
theorem openPathU {H : Type} {enc : TypeId × Value → H} {W : World} {fuel : Nat} {c : Value} {x : DataW H × List MemPlace} (h : DataW.trod enc Tryd.prog W 0 (fun _ => true) true fuel 37 [c] = some x) :
    ∃ (A : Option Addr) (p : List Int) (k : Nat), c = .slice A p.length k ∧ ReadsI W A p ∧ p.length ≤ Rows.uptoBulk x.1 := by
  rcases open_ints Tryd.underlying37 Tryd.underlying2 cells_int64 h with ⟨hcs, hx⟩ | ⟨a, len, cap, zs, hcs, _, hl, hm, hz, hx, hcell, hwz⟩
  · obtain rfl : c = .slice none 0 0 := by simpa using hcs
    exact ⟨none, [], 0, rfl, ⟨by decide, fun h => absurd h (by decide)⟩, by simp⟩
  · obtain rfl : c = .slice (some a) len cap := by simpa using hcs
    have hzl : zs.length = cap := by simpa using hz
    have hp : (zs.take len).length = len := by rw [List.length_take, Nat.min_eq_left (by omega)]
    refine ⟨some a, zs.take len, cap, by rw [hp], ⟨?_, fun hp => ⟨a, rfl, fun j hj => ?_⟩⟩, ?_⟩
    · unfold maxLen at hm
      omega
    · rw [List.length_take] at hj
      rw [hcell j (by omega)]
      simp [List.getD, List.getElem?_take, show j < len by omega]
    · rw [hx]
      simp only [Rows.uptoBulk, bulk_lits]
      omega
/-- Five cells that came in as a value, opened. -/
theorem openCU {H : Type} {enc : TypeId × Value → H} {W : World} {fuel : Nat} {cs : List Value} {x : DataW H × List MemPlace} (hl : cs.length = 5) (h : DataW.trod enc Tryd.prog W 0 (fun _ => true) true fuel 39 cs = some x) :
    ∃ v : V5, cs = v.cells ∧ ReadsI W v.A v.p ∧ (-9223372036854775808 ≤ v.n ∧ v.n ≤ 9223372036854775807) ∧ v.s.size ≤ 9223372036854775807 ∧ v.p.length ≤ Rows.uptoBulk x.1 := by
  obtain ⟨xs, n, _, hx, _, hlen, hg⟩ := DataW.trod_struct Tryd.underlying39 h
  match cs, hl, xs, hlen with
  | [c0, c1, c2, c3, c4], _, [y0, y1, y2, y3, y4], _ =>
    have k0 : Tryd.prog.cellsOf 22 = 1 := by kernel_rfl
    have h0 : DataW.trod enc Tryd.prog W 0 (fun _ => true) true n 22 [c0] = some y0 := by simpa [k0] using hg 0 _ rfl
    have k1 : Tryd.prog.cellsOf 4 = 1 := by kernel_rfl
    have h1 : DataW.trod enc Tryd.prog W 0 (fun _ => true) true n 4 [c1] = some y1 := by simpa [k1] using hg 1 _ rfl
    have k2 : Tryd.prog.cellsOf 2 = 1 := by kernel_rfl
    have h2 : DataW.trod enc Tryd.prog W 0 (fun _ => true) true n 2 [c2] = some y2 := by simpa [k2] using hg 2 _ rfl
    have k3 : Tryd.prog.cellsOf 9 = 1 := by kernel_rfl
    have h3 : DataW.trod enc Tryd.prog W 0 (fun _ => true) true n 9 [c3] = some y3 := by simpa [k3] using hg 3 _ rfl
    have k4 : Tryd.prog.cellsOf 37 = 1 := by kernel_rfl
    have h4 : DataW.trod enc Tryd.prog W 0 (fun _ => true) true n 37 [c4] = some y4 := by simpa [k4] using hg 4 _ rfl
    obtain ⟨k, e0, _, w0⟩ := DataW.trod_int Tryd.underlying22 h0
    obtain ⟨b, e1, _⟩ := DataW.trod_bool Tryd.underlying4 h1
    obtain ⟨nn, e2, _, w2⟩ := DataW.trod_int Tryd.underlying2 h2
    obtain ⟨s, e3, _, w3⟩ := DataW.trod_string Tryd.underlying9 h3
    obtain ⟨A, q, c, rfl, hr, hb⟩ := openPathU h4
    simp at e0 e1 e2 e3
    subst e0 e1 e2 e3
    refine ⟨⟨k, nn, b, s, A, q, c⟩, rfl, hr, ?_, ?_, ?_⟩
    · simpa [Lit.wf, IntKind.min, IntKind.max, IntKind.signed, IntKind.bits] using w2
    · simpa [maxLen] using w3
    · rw [hx]
      simp only [Rows.uptoBulk, List.map_cons, List.map_nil, Rows.uptoBulkAll]
      omega
/-- A slice of values among the arguments, its paths bounded. -/
theorem openListU {H : Type} {enc : TypeId × Value → H} {W : World} {b0 : Nat} {v : Value} {d : DataW H} {p : List MemPlace} (hv : Value.okWide Tryd.prog W .any b0 23 v) (h : DataW.Trod enc Tryd.prog W 0 (fun _ => true) true 23 v d p) :
    ∃ (A : Option Addr) (vs : List V5) (k : Nat), v = .slice A vs.length k ∧ ReadsV W A vs ∧ (∀ u ∈ vs, u.s.size ≤ 9223372036854775807) ∧ ∀ u ∈ vs, u.p.length ≤ Rows.uptoBulk d := by
  obtain ⟨a, len, cap, rfl⟩ := okWide_slice Tryd.underlying23 hv
  obtain ⟨fuel, hf⟩ := h
  have hf : DataW.trod enc Tryd.prog W 0 (fun _ => true) true fuel 23 [.slice a len cap] = some (d, p) := hf
  rcases open_slice Tryd.underlying23 hf with ⟨hcs, _⟩ | ⟨a', len', cap', m, n, D, Pl, hcs, hb, hl, hm, hmm, hxx, hx⟩
  · simp at hcs
    obtain ⟨rfl, rfl, rfl⟩ := hcs
    exact ⟨none, [], 0, rfl, ⟨by decide, fun j hj => absurd hj (by simp), fun v hv => (by cases hv), fun v hv => (by cases hv)⟩, fun v hv => (by cases hv), fun v hv => (by cases hv)⟩
  · simp at hcs
    obtain ⟨rfl, rfl, rfl⟩ := hcs
    rename Addr => a
    simp only [Prod.mk.injEq] at hxx
    rw [cells_value] at hx
    have hlm : len ≤ m := by rw [hmm]; simp; omega
    have each : ∀ i, i < len → ∃ v : V5, W.cells? 0 (a.add (i * 5)) 5 = some v.cells ∧ ReadsI W v.A v.p ∧ (-9223372036854775808 ≤ v.n ∧ v.n ≤ 9223372036854775807) ∧ v.s.size ≤ 9223372036854775807 ∧ v.p.length ≤ Rows.uptoBulk d := fun i hi => by
      obtain ⟨cs', h1, h2⟩ := hx i (by omega)
      obtain ⟨_, hlen, _⟩ := World.cells?_some h1
      obtain ⟨v, rfl, g1, g2, g3, g4⟩ := openCU hlen h2
      refine ⟨v, h1, g1, g2, g3, Nat.le_trans g4 ?_⟩
      have hmem : D i ∈ (List.range len).map D := List.mem_map.2 ⟨i, List.mem_range.2 hi, rfl⟩
      have := bulk_mem hmem
      rw [hxx.1, Rows.uptoBulk]
      simp only
      omega
    obtain ⟨A0, vs0, k0, e0, hr0, hs0⟩ := readsV_open (c := .slice (some a) len cap) hf
    refine ⟨A0, vs0, k0, e0, hr0, hs0, fun u hu => ?_⟩
    cases e0
    obtain ⟨i, hi, rfl⟩ := List.getElem_of_mem hu
    obtain ⟨ad, e1, h5⟩ := hr0.row i hi
    cases e1
    obtain ⟨v, g0, _, _, _, g4⟩ := each i hi
    obtain ⟨_, _, hc⟩ := World.cells?_some g0
    have q4 := hc 4 (by omega)
    rw [add_off _ h5.spot, h5.c4] at q4
    have e5 : (vs0.getD i V5.zero).p.length = v.p.length := by
      have e6 : some (Value.slice (vs0.getD i V5.zero).A (vs0.getD i V5.zero).p.length (vs0.getD i V5.zero).c) = some (Value.slice v.A v.p.length v.c) := q4
      simp only [Option.some.injEq, Value.slice.injEq] at e6
      exact e6.2.1
    have e7 : vs0.getD i V5.zero = vs0[i] := by rw [List.getD_eq_getElem?_getD, List.getElem?_eq_getElem hi]; rfl
    rw [e7] at e5
    omega
end Go.Proofs.YtbdbcbpcekpcoaaDoor
