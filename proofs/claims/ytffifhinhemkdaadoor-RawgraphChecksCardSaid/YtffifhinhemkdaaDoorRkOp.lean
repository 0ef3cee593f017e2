/- A graph that came in is no greater than a machine holds (beside this seat's words for cards). -/
import Derived.Test.YtffifhinhemkdaaDoorRgOpen
import Derived.Test.YtffifhinhemkdaaDoorRgCard
import Derived.Deep.DeepHandedRow
import Derived.PinnedBridge
set_option linter.unusedVariables false
set_option linter.unusedSimpArgs false
namespace Go.Proofs.YtffifhinhemkdaaDoor
open Go.Joins Go.ChangeShapes Go.WideShapes Go.ChangeAt Go.RowKit Go.Deep

theorem all_app {l r : List Nat} (h : (l ++ r).all (· ≤ reachBytes) = true) : l.all (· ≤ reachBytes) = true ∧ r.all (· ≤ reachBytes) = true := by
  rw [List.all_append, Bool.and_eq_true] at h
  exact h
theorem each_first {H : Type} {t : TypeId} {ts : List TypeId} {d : DataW H} {ds : List (DataW H)} (hk : (DataW.weightsEach Tryd.prog (t :: ts) (d :: ds)).all (· ≤ reachBytes) = true) : (DataW.weights Tryd.prog t d).all (· ≤ reachBytes) = true := by
  rw [DataW.weightsEach] at hk
  exact (all_app hk).1
theorem slice_room {H : Type} {enc : TypeId × Value → H} {P : Program} {W : World} {s e : TypeId} {fuel : Nat} {a : Option Addr} {len cap : Nat} {x : DataW H × List MemPlace} (hs : P.underlying s = some (.slice e))
    (h : DataW.trod enc P W 0 (fun _ => true) true fuel s [.slice a len cap] = some x) (hw : (DataW.weights P s x.1).all (· ≤ reachBytes) = true) : len * P.bytesOf e ≤ reachBytes := by
  rcases open_slice hs h with ⟨hcs, hx0⟩ | ⟨a', len', cap', m, n, D, Pl, hcs, hb, hl, hm, hmm, hxx, hx⟩
  · obtain ⟨_, rfl, _⟩ : a = none ∧ len = 0 ∧ cap = 0 := by simpa using hcs
    omega
  · obtain ⟨_, rfl, rfl⟩ : a = some a' ∧ len = len' ∧ cap = cap' := by simpa using hcs
    rw [hxx] at hw
    simp only [DataW.weights, hs] at hw
    rw [List.all_cons, Bool.and_eq_true, decide_eq_true_iff] at hw
    have h1 := hw.1
    simp only [List.length_map, List.length_range] at h1
    refine Nat.le_trans ?_ h1
    exact Nat.mul_le_mul_right _ (Nat.le_add_right _ _)
/-- A number among the arguments, opened. -/
theorem openInt {H : Type} {P : Program} {enc : TypeId × Value → H} {W : World} {b0 : Nat} {t : TypeId} {k : IntKind} {v : Value} {d : DataW H} {p : List MemPlace} (ht : P.underlying t = some (.int k)) (hv : Value.okWide P W .any b0 t v) (h : DataW.Trod enc P W 0 (fun _ => true) true t v d p) :
    ∃ n : Int, v = .int k n ∧ (Lit.int k n).wf = true := by
  obtain ⟨n, rfl⟩ := okWide_int ht hv
  obtain ⟨fuel, hf⟩ := h
  obtain ⟨n', hc, _, hs⟩ := DataW.trod_int ht hf
  obtain rfl : n = n' := by simpa [Value.cells] using hc
  exact ⟨n, rfl, hs⟩
set_option maxRecDepth 100000 in
theorem openRawS {H : Type} {enc : TypeId × Value → H} {W : World} {b0 : Nat} {v : Value} {d : DataW H} {p : List MemPlace} (hv : Value.okWide Tryd.prog W .any b0 28 v) (h : DataW.Trod enc Tryd.prog W 0 (fun _ => true) true 28 v d p) (hw : (DataW.weights Tryd.prog 28 d).all (· ≤ reachBytes) = true) :
    ∃ g : GD, v = g.val ∧ ReadsG W g ∧ (g.nts.length ≤ 4000000000000 ∧ g.ets.length ≤ 4000000000000 ∧ g.ns.length ≤ 2932031007401 ∧ g.es.length ≤ 2199023255551) ∧ (g.VA = none → g.vc = 0) ∧ (g.UA = none → g.uc = 0) := by
  obtain ⟨cs, rfl, hsz⟩ := okWide_struct Tryd.underlying28 hv
  have hC : Tryd.prog.cellsOf 28 = 4 := by kernel_rfl
  obtain ⟨l⟩ := cs
  match l, hsz.trans hC with
  | [c0, c1, c2, c3], _ =>
    obtain ⟨fuel, hf⟩ := h
    obtain ⟨xs, n, _, hx, _, hlen, hg⟩ := DataW.trod_struct Tryd.underlying28 hf
    match xs, hlen with
    | [y0, y1, y2, y3], _ =>
      have kT : Tryd.prog.cellsOf 24 = 1 := by kernel_rfl
      have kN : Tryd.prog.cellsOf 25 = 1 := by kernel_rfl
      have kE : Tryd.prog.cellsOf 26 = 1 := by kernel_rfl
      have h0 : DataW.trod enc Tryd.prog W 0 (fun _ => true) true n 24 [c0] = some y0 := by simpa [Value.cells, kT] using hg 0 _ rfl
      have h1 : DataW.trod enc Tryd.prog W 0 (fun _ => true) true n 24 [c1] = some y1 := by simpa [Value.cells, kT] using hg 1 _ rfl
      have h2 : DataW.trod enc Tryd.prog W 0 (fun _ => true) true n 25 [c2] = some y2 := by simpa [Value.cells, kT, kN] using hg 2 _ rfl
      have h3 : DataW.trod enc Tryd.prog W 0 (fun _ => true) true n 26 [c3] = some y3 := by simpa [Value.cells, kT, kN, kE] using hg 3 _ rfl
      obtain ⟨NA, nts, nc, rfl, g0, u0⟩ := readsT_open h0
      obtain ⟨EA, ets, ec, rfl, g1, u1⟩ := readsT_open h1
      obtain ⟨VA, ns, vc, rfl, g2, u2, z2⟩ := readsN_open h2
      obtain ⟨UA, es, uc, rfl, g3, u3, z3⟩ := readsE_open h3
      refine ⟨⟨NA, nts, nc, EA, ets, ec, VA, ns, vc, UA, es, uc⟩, rfl, ⟨g0, g1, g2, g3⟩, ?_, z2, z3⟩
      simp only [Prod.mk.injEq] at hx
      rw [hx.1] at hw
      rw [DataW.weights, Tryd.underlying28] at hw
      simp only [List.map_cons, List.map_nil, DataW.weightsEach] at hw
      have k0 := (all_app hw).1
      have k1 := (all_app (all_app hw).2).1
      have k2 := (all_app (all_app (all_app hw).2).2).1
      have k3 := (all_app (all_app (all_app (all_app hw).2).2).2).1
      have m0 := slice_room Tryd.underlying24 h0 k0
      have m1 := slice_room Tryd.underlying24 h1 k1
      have m2 := slice_room Tryd.underlying25 h2 k2
      have m3 := slice_room Tryd.underlying26 h3 k3
      have bT : Tryd.prog.bytesOf 41 = 40 := by kernel_rfl
      have bN : Tryd.prog.bytesOf 52 = 48 := by kernel_rfl
      have bE : Tryd.prog.bytesOf 55 = 64 := by kernel_rfl
      have bR : reachBytes = 140737488351232 := rfl
      rw [bT, bR] at m0 m1
      rw [bN, bR] at m2
      rw [bE, bR] at m3
      show nts.length ≤ 4000000000000 ∧ ets.length ≤ 4000000000000 ∧ ns.length ≤ 2932031007401 ∧ es.length ≤ 2199023255551
      omega
end Go.Proofs.YtffifhinhemkdaaDoor
