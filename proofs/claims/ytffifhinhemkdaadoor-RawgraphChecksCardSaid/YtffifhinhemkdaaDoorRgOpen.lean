/- A graph that came in, opened: as the walks read it. -/
import Derived.Test.YtffifhinhemkdaaDoorRowW
import Derived.Test.YtffifhinhemkdaaDoorRgC
import Derived.Deep.Slices
set_option linter.unusedVariables false
set_option linter.unusedSimpArgs false
namespace Go.Proofs.YtffifhinhemkdaaDoor
open Go.Joins Go.ChangeShapes Go.WideShapes Go.ChangeAt Go.RowKit Go.Deep

theorem bulk_pos {H : Type} (d : DataW H) : 1 ≤ Rows.uptoBulk d := by
  cases d with
  | lit l => cases l <;> simp [Rows.uptoBulk]
  | _ => simp [Rows.uptoBulk]
theorem bulk_len {H : Type} : ∀ l : List (DataW H), l.length ≤ Rows.uptoBulkAll l
  | [] => by simp
  | d :: r => by
    have h1 := bulk_pos d
    have h2 := bulk_len r
    rw [Rows.uptoBulkAll, List.length_cons]
    omega
theorem spot_cell {W : World} {p : Addr} {v : Value} (h : W.cell? p = some v) : p.spot = none := by
  unfold World.cell? at h
  split at h
  · split at h
    · cases h
    · rename_i hs
      simpa using hs
  · cases h
theorem lt_cell {W : World} {p : Addr} {v : Value} (h : W.cell? p = some v) : p.block < W.heap.size := by
  unfold World.cell? at h
  split at h
  · exact (Array.getElem?_eq_some_iff.1 (by assumption)).1
  · cases h
theorem add_cell (p : Addr) (i : Nat) (h : p.spot = none) : p.add i = ⟨p.block, p.off + i, none⟩ := by
  obtain ⟨b, o, sp⟩ := p
  simp only at h
  subst h
  unfold Addr.add
  split <;> simp_all
theorem spot_add (p : Addr) (j : Nat) (h : (p.add j).spot = none → True) : True := trivial
/-- ROWS OF ANY THINGS that came in: each as its opener tells it. -/
theorem rows_open {α : Type} {H : Type} {enc : TypeId × Value → H} {P : Program} {W : World} (zero : α) (cellsOf : α → List Value) (good : α → Prop) {s e : TypeId} {st : Nat} (hs : P.underlying s = some (.slice e)) (hc : P.cellsOf e = st) (hp : 0 < st)
    (each : ∀ (fuel : Nat) (cs : List Value) (x : DataW H × List MemPlace), cs.length = st → DataW.trod enc P W 0 (fun _ => true) true fuel e cs = some x → ∃ v : α, cs = cellsOf v ∧ good v)
    {fuel : Nat} {c : Value} {x : DataW H × List MemPlace} (h : DataW.trod enc P W 0 (fun _ => true) true fuel s [c] = some x) :
    ∃ (A : Option Addr) (vs : List α) (k : Nat), c = .slice A vs.length k ∧ (A = none → k = 0) ∧ vs.length ≤ 9223372036854775807 ∧ vs.length ≤ Rows.uptoBulk x.1 ∧
      (∀ j, j < vs.length → ∃ a, A = some a ∧ (a.add (j * st)).block < W.heap.size ∧ (a.add (j * st)).spot = none ∧ ∀ i, i < st → W.cell? ⟨(a.add (j * st)).block, (a.add (j * st)).off + i, none⟩ = (cellsOf (vs.getD j zero))[i]?) ∧ ∀ v ∈ vs, good v := by
  rcases open_slice hs h with ⟨hcs, hx0⟩ | ⟨a, len, cap, m, n, D, Pl, hcs, hb, hl, hm, hmm, hxx, hx⟩
  · obtain rfl : c = .slice none 0 0 := by simpa using hcs
    exact ⟨none, [], 0, rfl, fun _ => rfl, by simp, by simp, fun j hj => absurd hj (by simp), fun v hv => (by cases hv)⟩
  · obtain rfl : c = .slice (some a) len cap := by simpa using hcs
    rw [hc] at hx
    have hlm : len ≤ m := by rw [hmm]; simp; omega
    have each2 : ∀ i, i < len → ∃ v : α, W.cells? 0 (a.add (i * st)) st = some (cellsOf v) ∧ good v := fun i hi => by
      obtain ⟨cs', h1, h2⟩ := hx i (by omega)
      obtain ⟨_, hlen, _⟩ := World.cells?_some h1
      obtain ⟨v, rfl, g⟩ := each _ _ _ hlen h2
      exact ⟨v, h1, g⟩
    have hin : Inhabited α := ⟨zero⟩
    obtain ⟨V, hV⟩ := choose_lt each2
    refine ⟨some a, (List.range len).map V, cap, by simp, fun h => (by cases h), by unfold maxLen at hm; simp; omega, ?_, fun j hj => ?_, fun v hv => ?_⟩
    · rw [hxx]
      simp only [Rows.uptoBulk]
      have h1 := bulk_len ((List.range len).map D)
      simp only [List.length_map, List.length_range] at h1 ⊢
      omega
    · have hj' : j < len := by simpa using hj
      have e : ((List.range len).map V).getD j zero = V j := by simp [List.getD, hj']
      rw [e]
      obtain ⟨g0, _⟩ := hV j hj'
      obtain ⟨_, hlen, hcc⟩ := World.cells?_some g0
      have q0 := hcc 0 hp
      have hs2 : (a.add (j * st)).spot = none := by
        have s0 := spot_cell (h := q0.trans (List.getElem?_eq_getElem (by omega)))
        revert s0
        generalize a.add (j * st) = p
        obtain ⟨b, o, sp⟩ := p
        unfold Addr.add
        intro s0
        split at s0 <;> first | exact s0 | simp_all
      refine ⟨a, rfl, ?_, hs2, fun i hi => ?_⟩
      · have q1 := lt_cell (h := q0.trans (List.getElem?_eq_getElem (by omega)))
        rw [add_cell _ _ hs2] at q1
        exact q1
      · have q := hcc i hi
        rw [add_cell _ _ hs2] at q
        exact q
    · obtain ⟨j, hj, rfl⟩ := List.mem_map.1 hv
      exact (hV j (List.mem_range.1 hj)).2
/-- Openers, kind by kind. -/
def cellsVD (v : VD) : List Value := [.int .i64 v.k, .bool v.b, .int .i64 v.n, .string v.s, .slice v.A v.p.length v.c]
def goodVD (W : World) (v : VD) : Prop := (-9223372036854775808 ≤ v.k ∧ v.k ≤ 9223372036854775807) ∧ ReadsI W v.A v.p
def cellsQD (q : QD) : List Value := [.string q.m, .int .i64 q.v.k, .bool q.v.b, .int .i64 q.v.n, .string q.v.s, .slice q.v.A q.v.p.length q.v.c]
def goodQD (W : World) (q : QD) : Prop := (q.m.size ≤ 9223372036854775807 ∧ q.v.s.size ≤ 9223372036854775807) ∧ goodVD W q.v
def cellsPD (p : PD) : List Value := [.string p.n, .int .i64 p.k]
def goodPD (W : World) (p : PD) : Prop := p.n.size ≤ 9223372036854775807 ∧ -9223372036854775808 ≤ p.k ∧ p.k ≤ 9223372036854775807
def cellsTD (t : TD) : List Value := [.string t.s, .slice t.A t.ps.length t.c]
def goodTD (W : World) (t : TD) : Prop := t.s.size ≤ 9223372036854775807 ∧ ReadsP W t.A t.ps
def cellsND (x : ND) : List Value := [.int .i64 x.id, .string x.lb, .slice x.A x.qs.length x.c]
def goodND (W : World) (x : ND) : Prop := x.lb.size ≤ 9223372036854775807 ∧ ReadsQ W x.A x.qs
def cellsED (x : ED) : List Value := [.int .i64 x.id, .string x.lb, .int .i64 x.f, .int .i64 x.t, .slice x.A x.qs.length x.c]
def goodED (W : World) (x : ED) : Prop := x.lb.size ≤ 9223372036854775807 ∧ ((Lit.int .i64 x.f).wf = true ∧ (Lit.int .i64 x.t).wf = true) ∧ ReadsQ W x.A x.qs
set_option maxRecDepth 100000 in
theorem openVD {H : Type} {enc : TypeId × Value → H} {W : World} {fuel : Nat} {cs : List Value} {x : DataW H × List MemPlace} (hl : cs.length = 5) (h : DataW.trod enc Tryd.prog W 0 (fun _ => true) true fuel 94 cs = some x) :
    ∃ v : VD, cs = cellsVD v ∧ goodVD W v ∧ v.s.size ≤ 9223372036854775807 := by
  obtain ⟨xs, n, _, hx, _, hlen, hg⟩ := DataW.trod_struct Tryd.underlying94 h
  match cs, hl, xs, hlen with
  | [c0, c1, c2, c3, c4], _, [y0, y1, y2, y3, y4], _ =>
    have k0 : Tryd.prog.cellsOf 80 = 1 := by kernel_rfl
    have h0 : DataW.trod enc Tryd.prog W 0 (fun _ => true) true n 80 [c0] = some y0 := by simpa [k0] using hg 0 _ rfl
    have k1 : Tryd.prog.cellsOf 4 = 1 := by kernel_rfl
    have h1 : DataW.trod enc Tryd.prog W 0 (fun _ => true) true n 4 [c1] = some y1 := by simpa [k1] using hg 1 _ rfl
    have k2 : Tryd.prog.cellsOf 2 = 1 := by kernel_rfl
    have h2 : DataW.trod enc Tryd.prog W 0 (fun _ => true) true n 2 [c2] = some y2 := by simpa [k2] using hg 2 _ rfl
    have k3 : Tryd.prog.cellsOf 9 = 1 := by kernel_rfl
    have h3 : DataW.trod enc Tryd.prog W 0 (fun _ => true) true n 9 [c3] = some y3 := by simpa [k3] using hg 3 _ rfl
    have k4 : Tryd.prog.cellsOf 92 = 1 := by kernel_rfl
    have h4 : DataW.trod enc Tryd.prog W 0 (fun _ => true) true n 92 [c4] = some y4 := by simpa [k4] using hg 4 _ rfl
    obtain ⟨v0, e0, _, w0⟩ := DataW.trod_int Tryd.underlying80 h0
    obtain ⟨v1, e1, _⟩ := DataW.trod_bool Tryd.underlying4 h1
    obtain ⟨v2, e2, _, w2⟩ := DataW.trod_int Tryd.underlying2 h2
    obtain ⟨v3, e3, _, w3⟩ := DataW.trod_string Tryd.underlying9 h3
    obtain ⟨A, q, c, rfl, hr⟩ := readsI_open Tryd.underlying92 Tryd.underlying2 (by kernel_rfl) h4
    simp at e0 e1 e2 e3
    subst e0 e1 e2 e3
    exact ⟨⟨v0, v1, v2, v3, A, q, c⟩, rfl, ⟨by simpa [Lit.wf, IntKind.min, IntKind.max, IntKind.signed, IntKind.bits] using w0, hr⟩, by simpa [maxLen] using w3⟩
set_option maxRecDepth 100000 in
theorem openQ {H : Type} {enc : TypeId × Value → H} {W : World} {fuel : Nat} {cs : List Value} {x : DataW H × List MemPlace} (hl : cs.length = 6) (h : DataW.trod enc Tryd.prog W 0 (fun _ => true) true fuel 96 cs = some x) :
    ∃ v : QD, cs = cellsQD v ∧ goodQD W v := by
  obtain ⟨xs, n, _, hx, _, hlen, hg⟩ := DataW.trod_struct Tryd.underlying96 h
  match cs, hl, xs, hlen with
  | [c0, c1, c2, c3, c4, c5], _, [y0, y1], _ =>
    have k0 : Tryd.prog.cellsOf 9 = 1 := by kernel_rfl
    have h0 : DataW.trod enc Tryd.prog W 0 (fun _ => true) true n 9 [c0] = some y0 := by simpa [k0] using hg 0 _ rfl
    have k1 : Tryd.prog.cellsOf 94 = 5 := by kernel_rfl
    have h1 : DataW.trod enc Tryd.prog W 0 (fun _ => true) true n 94 [c1, c2, c3, c4, c5] = some y1 := by simpa [k1] using hg 1 _ rfl
    obtain ⟨v0, e0, _, w0⟩ := DataW.trod_string Tryd.underlying9 h0
    obtain ⟨vv, ev, hv, hvs⟩ := openVD rfl h1
    simp at e0
    subst e0
    obtain ⟨k, b, n, s, A, p, c⟩ := vv
    simp only [cellsVD, List.cons.injEq] at ev
    obtain ⟨rfl, rfl, rfl, rfl, rfl, _⟩ := ev
    exact ⟨⟨v0, ⟨k, b, n, s, A, p, c⟩⟩, rfl, ⟨by simpa [maxLen] using w0, hvs⟩, hv⟩
set_option maxRecDepth 100000 in
theorem readsQ_open {H : Type} {enc : TypeId × Value → H} {W : World} {fuel : Nat} {c : Value} {x : DataW H × List MemPlace} (h : DataW.trod enc Tryd.prog W 0 (fun _ => true) true fuel 50 [c] = some x) :
    ∃ (A : Option Addr) (vs : List QD) (k : Nat), c = .slice A vs.length k ∧ ReadsQ W A vs := by
  obtain ⟨A, vs, k, rfl, hk0, hl, hu, hrow, hgood⟩ := rows_open QD.zero cellsQD (goodQD W) Tryd.underlying50 (show Tryd.prog.cellsOf 96 = 6 by kernel_rfl) (by decide) (fun fuel cs x hl h => openQ hl h) h
  exact ⟨A, vs, k, rfl, hl, fun j hj => by
    obtain ⟨a, e, h1, h2, h3⟩ := hrow j hj
    have e0 : (⟨(a.add (j * 6)).block, (a.add (j * 6)).off + 0, none⟩ : Addr) = a.add (j * 6) := by
      rw [← h2]
      rfl
    have r0 := h3 0 (by omega)
    rw [e0] at r0
    exact ⟨a, e, h1, h2, r0, h3 1 (by omega), h3 2 (by omega), h3 3 (by omega), h3 4 (by omega), h3 5 (by omega)⟩, fun q hq => (hgood q hq).1, fun q hq => (hgood q hq).2.1, fun q hq => (hgood q hq).2.2⟩
set_option maxRecDepth 100000 in
theorem openP {H : Type} {enc : TypeId × Value → H} {W : World} {fuel : Nat} {cs : List Value} {x : DataW H × List MemPlace} (hl : cs.length = 2) (h : DataW.trod enc Tryd.prog W 0 (fun _ => true) true fuel 82 cs = some x) :
    ∃ v : PD, cs = cellsPD v ∧ goodPD W v := by
  obtain ⟨xs, n, _, hx, _, hlen, hg⟩ := DataW.trod_struct Tryd.underlying82 h
  match cs, hl, xs, hlen with
  | [c0, c1], _, [y0, y1], _ =>
    have k0 : Tryd.prog.cellsOf 9 = 1 := by kernel_rfl
    have h0 : DataW.trod enc Tryd.prog W 0 (fun _ => true) true n 9 [c0] = some y0 := by simpa [k0] using hg 0 _ rfl
    have k1 : Tryd.prog.cellsOf 80 = 1 := by kernel_rfl
    have h1 : DataW.trod enc Tryd.prog W 0 (fun _ => true) true n 80 [c1] = some y1 := by simpa [k1] using hg 1 _ rfl
    obtain ⟨v0, e0, _, w0⟩ := DataW.trod_string Tryd.underlying9 h0
    obtain ⟨v1, e1, _, w1⟩ := DataW.trod_int Tryd.underlying80 h1
    simp at e0 e1
    subst e0 e1
    exact ⟨⟨v0, v1⟩, rfl, by simpa [maxLen] using w0, by simpa [Lit.wf, IntKind.min, IntKind.max, IntKind.signed, IntKind.bits] using w1⟩
set_option maxRecDepth 100000 in
theorem readsP_open {H : Type} {enc : TypeId × Value → H} {W : World} {fuel : Nat} {c : Value} {x : DataW H × List MemPlace} (h : DataW.trod enc Tryd.prog W 0 (fun _ => true) true fuel 39 [c] = some x) :
    ∃ (A : Option Addr) (vs : List PD) (k : Nat), c = .slice A vs.length k ∧ ReadsP W A vs := by
  obtain ⟨A, vs, k, rfl, hk0, hl, hu, hrow, hgood⟩ := rows_open PD.zero cellsPD (goodPD W) Tryd.underlying39 (show Tryd.prog.cellsOf 82 = 2 by kernel_rfl) (by decide) (fun fuel cs x hl h => openP hl h) h
  exact ⟨A, vs, k, rfl, hl, fun j hj => by
    obtain ⟨a, e, h1, h2, h3⟩ := hrow j hj
    have e0 : (⟨(a.add (j * 2)).block, (a.add (j * 2)).off + 0, none⟩ : Addr) = a.add (j * 2) := by
      rw [← h2]
      rfl
    have r0 := h3 0 (by omega)
    rw [e0] at r0
    exact ⟨a, e, h1, h2, r0, h3 1 (by omega)⟩, fun q hq => (hgood q hq).1, fun q hq => (hgood q hq).2⟩
set_option maxRecDepth 100000 in
theorem openT {H : Type} {enc : TypeId × Value → H} {W : World} {fuel : Nat} {cs : List Value} {x : DataW H × List MemPlace} (hl : cs.length = 2) (h : DataW.trod enc Tryd.prog W 0 (fun _ => true) true fuel 41 cs = some x) :
    ∃ v : TD, cs = cellsTD v ∧ goodTD W v := by
  obtain ⟨xs, n, _, hx, _, hlen, hg⟩ := DataW.trod_struct Tryd.underlying41 h
  match cs, hl, xs, hlen with
  | [c0, c1], _, [y0, y1], _ =>
    have k0 : Tryd.prog.cellsOf 9 = 1 := by kernel_rfl
    have h0 : DataW.trod enc Tryd.prog W 0 (fun _ => true) true n 9 [c0] = some y0 := by simpa [k0] using hg 0 _ rfl
    have k1 : Tryd.prog.cellsOf 39 = 1 := by kernel_rfl
    have h1 : DataW.trod enc Tryd.prog W 0 (fun _ => true) true n 39 [c1] = some y1 := by simpa [k1] using hg 1 _ rfl
    obtain ⟨v0, e0, _, w0⟩ := DataW.trod_string Tryd.underlying9 h0
    obtain ⟨A, q, c, rfl, hr⟩ := readsP_open h1
    simp at e0
    subst e0
    exact ⟨⟨v0, A, q, c⟩, rfl, by simpa [maxLen] using w0, hr⟩
set_option maxRecDepth 100000 in
theorem readsT_open {H : Type} {enc : TypeId × Value → H} {W : World} {fuel : Nat} {c : Value} {x : DataW H × List MemPlace} (h : DataW.trod enc Tryd.prog W 0 (fun _ => true) true fuel 24 [c] = some x) :
    ∃ (A : Option Addr) (vs : List TD) (k : Nat), c = .slice A vs.length k ∧ ReadsT W A vs ∧ vs.length ≤ Rows.uptoBulk x.1 := by
  obtain ⟨A, vs, k, rfl, hk0, hl, hu, hrow, hgood⟩ := rows_open TD.zero cellsTD (goodTD W) Tryd.underlying24 (show Tryd.prog.cellsOf 41 = 2 by kernel_rfl) (by decide) (fun fuel cs x hl h => openT hl h) h
  exact ⟨A, vs, k, rfl, ⟨hl, fun j hj => by
    obtain ⟨a, e, h1, h2, h3⟩ := hrow j hj
    have e0 : (⟨(a.add (j * 2)).block, (a.add (j * 2)).off + 0, none⟩ : Addr) = a.add (j * 2) := by
      rw [← h2]
      rfl
    have r0 := h3 0 (by omega)
    rw [e0] at r0
    exact ⟨a, e, h1, h2, r0, h3 1 (by omega)⟩, fun q hq => (hgood q hq).1, fun q hq => (hgood q hq).2⟩, hu⟩
set_option maxRecDepth 100000 in
theorem openN {H : Type} {enc : TypeId × Value → H} {W : World} {fuel : Nat} {cs : List Value} {x : DataW H × List MemPlace} (hl : cs.length = 3) (h : DataW.trod enc Tryd.prog W 0 (fun _ => true) true fuel 52 cs = some x) :
    ∃ v : ND, cs = cellsND v ∧ goodND W v := by
  obtain ⟨xs, n, _, hx, _, hlen, hg⟩ := DataW.trod_struct Tryd.underlying52 h
  match cs, hl, xs, hlen with
  | [c0, c1, c2], _, [y0, y1, y2], _ =>
    have k0 : Tryd.prog.cellsOf 2 = 1 := by kernel_rfl
    have h0 : DataW.trod enc Tryd.prog W 0 (fun _ => true) true n 2 [c0] = some y0 := by simpa [k0] using hg 0 _ rfl
    have k1 : Tryd.prog.cellsOf 9 = 1 := by kernel_rfl
    have h1 : DataW.trod enc Tryd.prog W 0 (fun _ => true) true n 9 [c1] = some y1 := by simpa [k1] using hg 1 _ rfl
    have k2 : Tryd.prog.cellsOf 50 = 1 := by kernel_rfl
    have h2 : DataW.trod enc Tryd.prog W 0 (fun _ => true) true n 50 [c2] = some y2 := by simpa [k2] using hg 2 _ rfl
    obtain ⟨v0, e0, _, w0⟩ := DataW.trod_int Tryd.underlying2 h0
    obtain ⟨v1, e1, _, w1⟩ := DataW.trod_string Tryd.underlying9 h1
    obtain ⟨A, q, c, rfl, hr⟩ := readsQ_open h2
    simp at e0 e1
    subst e0 e1
    exact ⟨⟨v0, v1, A, q, c⟩, rfl, by simpa [maxLen] using w1, hr⟩
set_option maxRecDepth 100000 in
theorem readsN_open {H : Type} {enc : TypeId × Value → H} {W : World} {fuel : Nat} {c : Value} {x : DataW H × List MemPlace} (h : DataW.trod enc Tryd.prog W 0 (fun _ => true) true fuel 25 [c] = some x) :
    ∃ (A : Option Addr) (vs : List ND) (k : Nat), c = .slice A vs.length k ∧ ReadsN W A vs ∧ vs.length ≤ Rows.uptoBulk x.1 ∧ (A = none → k = 0) := by
  obtain ⟨A, vs, k, rfl, hk0, hl, hu, hrow, hgood⟩ := rows_open ND.zero cellsND (goodND W) Tryd.underlying25 (show Tryd.prog.cellsOf 52 = 3 by kernel_rfl) (by decide) (fun fuel cs x hl h => openN hl h) h
  exact ⟨A, vs, k, rfl, ⟨hl, fun j hj => by
    obtain ⟨a, e, h1, h2, h3⟩ := hrow j hj
    have e0 : (⟨(a.add (j * 3)).block, (a.add (j * 3)).off + 0, none⟩ : Addr) = a.add (j * 3) := by
      rw [← h2]
      rfl
    have r0 := h3 0 (by omega)
    rw [e0] at r0
    exact ⟨a, e, h1, h2, r0, h3 1 (by omega), h3 2 (by omega)⟩, fun q hq => (hgood q hq).1, fun q hq => (hgood q hq).2⟩, hu, hk0⟩
set_option maxRecDepth 100000 in
theorem openE {H : Type} {enc : TypeId × Value → H} {W : World} {fuel : Nat} {cs : List Value} {x : DataW H × List MemPlace} (hl : cs.length = 5) (h : DataW.trod enc Tryd.prog W 0 (fun _ => true) true fuel 55 cs = some x) :
    ∃ v : ED, cs = cellsED v ∧ goodED W v := by
  obtain ⟨xs, n, _, hx, _, hlen, hg⟩ := DataW.trod_struct Tryd.underlying55 h
  match cs, hl, xs, hlen with
  | [c0, c1, c2, c3, c4], _, [y0, y1, y2, y3, y4], _ =>
    have k0 : Tryd.prog.cellsOf 2 = 1 := by kernel_rfl
    have h0 : DataW.trod enc Tryd.prog W 0 (fun _ => true) true n 2 [c0] = some y0 := by simpa [k0] using hg 0 _ rfl
    have k1 : Tryd.prog.cellsOf 9 = 1 := by kernel_rfl
    have h1 : DataW.trod enc Tryd.prog W 0 (fun _ => true) true n 9 [c1] = some y1 := by simpa [k1] using hg 1 _ rfl
    have k2 : Tryd.prog.cellsOf 2 = 1 := by kernel_rfl
    have h2 : DataW.trod enc Tryd.prog W 0 (fun _ => true) true n 2 [c2] = some y2 := by simpa [k2] using hg 2 _ rfl
    have k3 : Tryd.prog.cellsOf 2 = 1 := by kernel_rfl
    have h3 : DataW.trod enc Tryd.prog W 0 (fun _ => true) true n 2 [c3] = some y3 := by simpa [k3] using hg 3 _ rfl
    have k4 : Tryd.prog.cellsOf 50 = 1 := by kernel_rfl
    have h4 : DataW.trod enc Tryd.prog W 0 (fun _ => true) true n 50 [c4] = some y4 := by simpa [k4] using hg 4 _ rfl
    obtain ⟨v0, e0, _, w0⟩ := DataW.trod_int Tryd.underlying2 h0
    obtain ⟨v1, e1, _, w1⟩ := DataW.trod_string Tryd.underlying9 h1
    obtain ⟨v2, e2, _, w2⟩ := DataW.trod_int Tryd.underlying2 h2
    obtain ⟨v3, e3, _, w3⟩ := DataW.trod_int Tryd.underlying2 h3
    obtain ⟨A, q, c, rfl, hr⟩ := readsQ_open h4
    simp at e0 e1 e2 e3
    subst e0 e1 e2 e3
    exact ⟨⟨v0, v1, v2, v3, A, q, c⟩, rfl, by simpa [maxLen] using w1, ⟨w2, w3⟩, hr⟩
set_option maxRecDepth 100000 in
theorem readsE_open {H : Type} {enc : TypeId × Value → H} {W : World} {fuel : Nat} {c : Value} {x : DataW H × List MemPlace} (h : DataW.trod enc Tryd.prog W 0 (fun _ => true) true fuel 26 [c] = some x) :
    ∃ (A : Option Addr) (vs : List ED) (k : Nat), c = .slice A vs.length k ∧ ReadsE W A vs ∧ vs.length ≤ Rows.uptoBulk x.1 ∧ (A = none → k = 0) := by
  obtain ⟨A, vs, k, rfl, hk0, hl, hu, hrow, hgood⟩ := rows_open ED.zero cellsED (goodED W) Tryd.underlying26 (show Tryd.prog.cellsOf 55 = 5 by kernel_rfl) (by decide) (fun fuel cs x hl h => openE hl h) h
  exact ⟨A, vs, k, rfl, ⟨hl, fun j hj => by
    obtain ⟨a, e, h1, h2, h3⟩ := hrow j hj
    have e0 : (⟨(a.add (j * 5)).block, (a.add (j * 5)).off + 0, none⟩ : Addr) = a.add (j * 5) := by
      rw [← h2]
      rfl
    have r0 := h3 0 (by omega)
    rw [e0] at r0
    exact ⟨a, e, h1, h2, r0, h3 1 (by omega), h3 2 (by omega), h3 3 (by omega), h3 4 (by omega)⟩, fun q hq => (hgood q hq).1, fun q hq => (hgood q hq).2.1, fun q hq => (hgood q hq).2.2⟩, hu, hk0⟩
/-- A graph among the arguments, opened. -/
structure GD where
  NA : Option Addr
  nts : List TD
  nc : Nat
  EA : Option Addr
  ets : List TD
  ec : Nat
  VA : Option Addr
  ns : List ND
  vc : Nat
  UA : Option Addr
  es : List ED
  uc : Nat
def GD.val (g : GD) : Value := .agg #[.slice g.NA g.nts.length g.nc, .slice g.EA g.ets.length g.ec, .slice g.VA g.ns.length g.vc, .slice g.UA g.es.length g.uc]
structure ReadsG (W : World) (g : GD) : Prop where
  nts : ReadsT W g.NA g.nts
  ets : ReadsT W g.EA g.ets
  ns : ReadsN W g.VA g.ns
  es : ReadsE W g.UA g.es
theorem ReadsG.below {W W' : World} {g : GD} (h : ReadsG W g) (hb : Below W.heap.size W W') : ReadsG W' g := ⟨h.nts.below hb, h.ets.below hb, h.ns.below hb, h.es.below hb⟩
set_option maxRecDepth 100000 in
theorem openRaw {H : Type} {enc : TypeId × Value → H} {W : World} {b0 : Nat} {v : Value} {d : DataW H} {p : List MemPlace} (hv : Value.okWide Tryd.prog W .any b0 28 v) (h : DataW.Trod enc Tryd.prog W 0 (fun _ => true) true 28 v d p) :
    ∃ g : GD, v = g.val ∧ ReadsG W g ∧ g.nts.length + g.ets.length + g.ns.length + g.es.length ≤ Rows.uptoBulk d ∧ (g.VA = none → g.vc = 0) ∧ (g.UA = none → g.uc = 0) := by
  obtain ⟨cs, rfl, hsz⟩ := okWide_struct Tryd.underlying28 hv
  have hC : Tryd.prog.cellsOf 28 = 4 := by kernel_rfl
  obtain ⟨l⟩ := cs
  match l, hsz.trans hC with
  | [c0, c1, c2, c3], _ =>
    obtain ⟨fuel, hf⟩ := h
    obtain ⟨xs, n, _, hx, _, hlen, hg⟩ := DataW.trod_struct Tryd.underlying28 hf
    match xs, hlen with
    | [y0, y1, y2, y3], _ =>
      have kT : Tryd.prog.cellsOf 24 = 1 := by kernel_rfl
      have kN : Tryd.prog.cellsOf 25 = 1 := by kernel_rfl
      have kE : Tryd.prog.cellsOf 26 = 1 := by kernel_rfl
      have h0 : DataW.trod enc Tryd.prog W 0 (fun _ => true) true n 24 [c0] = some y0 := by simpa [Value.cells, kT] using hg 0 _ rfl
      have h1 : DataW.trod enc Tryd.prog W 0 (fun _ => true) true n 24 [c1] = some y1 := by simpa [Value.cells, kT] using hg 1 _ rfl
      have h2 : DataW.trod enc Tryd.prog W 0 (fun _ => true) true n 25 [c2] = some y2 := by simpa [Value.cells, kT, kN] using hg 2 _ rfl
      have h3 : DataW.trod enc Tryd.prog W 0 (fun _ => true) true n 26 [c3] = some y3 := by simpa [Value.cells, kT, kN, kE] using hg 3 _ rfl
      obtain ⟨NA, nts, nc, rfl, g0, u0⟩ := readsT_open h0
      obtain ⟨EA, ets, ec, rfl, g1, u1⟩ := readsT_open h1
      obtain ⟨VA, ns, vc, rfl, g2, u2, z2⟩ := readsN_open h2
      obtain ⟨UA, es, uc, rfl, g3, u3, z3⟩ := readsE_open h3
      refine ⟨⟨NA, nts, nc, EA, ets, ec, VA, ns, vc, UA, es, uc⟩, rfl, ⟨g0, g1, g2, g3⟩, ?_, z2, z3⟩
      simp only [Prod.mk.injEq] at hx
      rw [hx.1]
      simp only [List.map_cons, List.map_nil, Rows.uptoBulk, Rows.uptoBulkAll]
      omega
set_option maxRecDepth 100000 in
theorem openNode {H : Type} {enc : TypeId × Value → H} {W : World} {b0 : Nat} {v : Value} {d : DataW H} {p : List MemPlace} (hv : Value.okWide Tryd.prog W .any b0 52 v) (h : DataW.Trod enc Tryd.prog W 0 (fun _ => true) true 52 v d p) :
    ∃ x : ND, v = .agg (cellsND x).toArray ∧ goodND W x := by
  obtain ⟨cs, rfl, hsz⟩ := okWide_struct Tryd.underlying52 hv
  have hC : Tryd.prog.cellsOf 52 = 3 := by kernel_rfl
  obtain ⟨fuel, hf⟩ := h
  obtain ⟨l⟩ := cs
  have hl : l.length = 3 := by simpa using hsz.trans hC
  obtain ⟨x, rfl, hgd⟩ := openN hl (by simpa [Value.cells] using hf)
  exact ⟨x, rfl, hgd⟩
set_option maxRecDepth 100000 in
theorem openEdge {H : Type} {enc : TypeId × Value → H} {W : World} {b0 : Nat} {v : Value} {d : DataW H} {p : List MemPlace} (hv : Value.okWide Tryd.prog W .any b0 55 v) (h : DataW.Trod enc Tryd.prog W 0 (fun _ => true) true 55 v d p) :
    ∃ x : ED, v = .agg (cellsED x).toArray ∧ goodED W x := by
  obtain ⟨cs, rfl, hsz⟩ := okWide_struct Tryd.underlying55 hv
  have hC : Tryd.prog.cellsOf 55 = 5 := by kernel_rfl
  obtain ⟨fuel, hf⟩ := h
  obtain ⟨l⟩ := cs
  have hl : l.length = 5 := by simpa using hsz.trans hC
  obtain ⟨x, rfl, hgd⟩ := openE hl (by simpa [Value.cells] using hf)
  exact ⟨x, rfl, hgd⟩
end Go.Proofs.YtffifhinhemkdaaDoor
