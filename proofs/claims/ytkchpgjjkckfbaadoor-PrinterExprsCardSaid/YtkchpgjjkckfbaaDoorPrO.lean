/- An expression that came in, opened: as the walks read it. -/
import Derived.Test.YtkchpgjjkckfbaaDoorRowW
import Derived.Test.YtkchpgjjkckfbaaDoorPrP
import Derived.Deep.Slices
import Derived.Deep.DeepHandedRow
set_option linter.unusedVariables false
set_option linter.unusedSimpArgs false
namespace Go.Proofs.YtkchpgjjkckfbaaDoor
open Go.Joins Go.ChangeShapes Go.WideShapes Go.ChangeAt Go.RowKit Go.Deep

theorem all_app {l r : List Nat} (h : (l ++ r).all (· ≤ reachBytes) = true) : l.all (· ≤ reachBytes) = true ∧ r.all (· ≤ reachBytes) = true := by
  rw [List.all_append, Bool.and_eq_true] at h
  exact h
theorem each_first {H : Type} {P : Program} {t : TypeId} {ts : List TypeId} {d : DataW H} {ds : List (DataW H)} (hk : (DataW.weightsEach P (t :: ts) (d :: ds)).all (· ≤ reachBytes) = true) : (DataW.weights P t d).all (· ≤ reachBytes) = true ∧ (DataW.weightsEach P ts ds).all (· ≤ reachBytes) = true := by
  rw [DataW.weightsEach] at hk
  exact all_app hk
theorem all_mem {H : Type} {P : Program} {e : TypeId} : ∀ (l : List (DataW H)), (DataW.weightsAll P e l).all (· ≤ reachBytes) = true → ∀ d ∈ l, (DataW.weights P e d).all (· ≤ reachBytes) = true
  | [], _, d, hd => by cases hd
  | x :: r, h, d, hd => by
    rw [DataW.weightsAll] at h
    have h2 := all_app h
    rcases List.mem_cons.1 hd with rfl | hd
    · exact h2.1
    · exact all_mem r h2.2 d hd
theorem str_size {H : Type} {P : Program} {t : TypeId} {s : ByteArray} (h : (DataW.weights P t (.lit (.string s.data.toList) : DataW H)).all (· ≤ reachBytes) = true) : s.size ≤ 140737488351232 := by
  rw [DataW.weights] at h
  have h1 : s.data.toList.length ≤ reachBytes := by simpa using h
  exact h1
theorem spot_cell {W : World} {p : Addr} {v : Value} (h : W.cell? p = some v) : p.spot = none := by
  unfold World.cell? at h
  split at h
  · split at h
    · cases h
    · rename_i hs
      simpa using hs
  · cases h
theorem lt_cell {W : World} {p : Addr} {v : Value} (h : W.cell? p = some v) : p.block < W.heap.size := World.block_lt_of_cell? W p h
theorem add_cell (p : Addr) (i : Nat) (h : p.spot = none) : p.add i = ⟨p.block, p.off + i, none⟩ := by
  obtain ⟨b, o, sp⟩ := p
  simp only at h
  subst h
  unfold Addr.add
  split <;> simp_all
theorem wf_i64 {n : Int} (h : (Lit.int .i64 n).wf = true) : -9223372036854775808 ≤ n ∧ n ≤ 9223372036854775807 := by simpa [Lit.wf, IntKind.min, IntKind.max, IntKind.signed, IntKind.bits] using h
set_option maxRecDepth 100000 in
theorem openVX {H : Type} {enc : TypeId × Value → H} {W : World} {fuel : Nat} {cs : List Value} {x : DataW H × List MemPlace} (hl : cs.length = 5) (h : DataW.trod enc Tryd.prog W 0 (fun _ => true) true fuel 27 cs = some x) (hw : (DataW.weights Tryd.prog 27 x.1).all (· ≤ reachBytes) = true) :
    ∃ v : VX, cs = v.cells ∧ v.s.size ≤ 140737488351232 ∧ (-9223372036854775808 ≤ v.k ∧ v.k ≤ 9223372036854775807) ∧ (-9223372036854775808 ≤ v.n ∧ v.n ≤ 9223372036854775807) ∧ ReadsI W v.A v.p := by
  obtain ⟨xs, n, _, hx, _, hlen, hg⟩ := DataW.trod_struct Tryd.underlying27 h
  match cs, hl, xs, hlen with
  | [c0, c1, c2, c3, c4], _, [y0, y1, y2, y3, y4], _ =>
    have k0 : Tryd.prog.cellsOf 24 = 1 := by kernel_rfl
    have h0 : DataW.trod enc Tryd.prog W 0 (fun _ => true) true n 24 [c0] = some y0 := by simpa [k0] using hg 0 _ rfl
    have k1 : Tryd.prog.cellsOf 4 = 1 := by kernel_rfl
    have h1 : DataW.trod enc Tryd.prog W 0 (fun _ => true) true n 4 [c1] = some y1 := by simpa [k1] using hg 1 _ rfl
    have k2 : Tryd.prog.cellsOf 2 = 1 := by kernel_rfl
    have h2 : DataW.trod enc Tryd.prog W 0 (fun _ => true) true n 2 [c2] = some y2 := by simpa [k2] using hg 2 _ rfl
    have k3 : Tryd.prog.cellsOf 9 = 1 := by kernel_rfl
    have h3 : DataW.trod enc Tryd.prog W 0 (fun _ => true) true n 9 [c3] = some y3 := by simpa [k3] using hg 3 _ rfl
    have k4 : Tryd.prog.cellsOf 25 = 1 := by kernel_rfl
    have h4 : DataW.trod enc Tryd.prog W 0 (fun _ => true) true n 25 [c4] = some y4 := by simpa [k4] using hg 4 _ rfl
    rw [hx] at hw
    rw [DataW.weights, Tryd.underlying27] at hw
    simp only [List.map_cons, List.map_nil] at hw
    have w3 := (each_first (each_first (each_first (each_first hw).2).2).2).1
    obtain ⟨v0, e0, _, q0⟩ := DataW.trod_int Tryd.underlying24 h0
    obtain ⟨v1, e1, _⟩ := DataW.trod_bool Tryd.underlying4 h1
    obtain ⟨v2, e2, _, q2⟩ := DataW.trod_int Tryd.underlying2 h2
    obtain ⟨v3, e3, x3, q3⟩ := DataW.trod_string Tryd.underlying9 h3
    obtain ⟨A, q, c, rfl, hr⟩ := readsI_open Tryd.underlying25 Tryd.underlying2 (by kernel_rfl) h4
    rw [x3] at w3
    simp at e0 e1 e2 e3
    subst e0 e1 e2 e3
    exact ⟨⟨v0, v1, v2, v3, A, q, c⟩, rfl, str_size w3, wf_i64 q0, wf_i64 q2, hr⟩
set_option maxRecDepth 100000 in
theorem openX {H : Type} {enc : TypeId × Value → H} {W : World} : ∀ (fuel : Nat) {cs : List Value} {x : DataW H × List MemPlace}, cs.length = 9 → DataW.trod enc Tryd.prog W 0 (fun _ => true) true fuel 29 cs = some x → (DataW.weights Tryd.prog 29 x.1).all (· ≤ reachBytes) = true →
    ∃ v : XD, cs = v.cells ∧ ReadsXD W v := by
  intro fuel
  induction fuel using Nat.strongRecOn with
  | _ fuel ih =>
    intro cs x hl h hw
    obtain ⟨xs, n, hfu, hx, _, hlen, hg⟩ := DataW.trod_struct Tryd.underlying29 h
    match cs, hl, xs, hlen with
    | [c0, c1, c2, c3, d0, d1, d2, d3, d4], _, [y0, y1, y2, y3, y4], _ =>
      have k0 : Tryd.prog.cellsOf 22 = 1 := by kernel_rfl
      have h0 : DataW.trod enc Tryd.prog W 0 (fun _ => true) true n 22 [c0] = some y0 := by simpa [k0] using hg 0 _ rfl
      have k1 : Tryd.prog.cellsOf 23 = 1 := by kernel_rfl
      have h1 : DataW.trod enc Tryd.prog W 0 (fun _ => true) true n 23 [c1] = some y1 := by simpa [k1] using hg 1 _ rfl
      have k2 : Tryd.prog.cellsOf 9 = 1 := by kernel_rfl
      have h2 : DataW.trod enc Tryd.prog W 0 (fun _ => true) true n 9 [c2] = some y2 := by simpa [k2] using hg 2 _ rfl
      have h3 : DataW.trod enc Tryd.prog W 0 (fun _ => true) true n 9 [c3] = some y3 := by simpa [k2] using hg 3 _ rfl
      have k4 : Tryd.prog.cellsOf 27 = 5 := by kernel_rfl
      have h4 : DataW.trod enc Tryd.prog W 0 (fun _ => true) true n 27 [d0, d1, d2, d3, d4] = some y4 := by simpa [k4] using hg 4 _ rfl
      rw [hx] at hw
      rw [DataW.weights, Tryd.underlying29] at hw
      simp only [List.map_cons, List.map_nil] at hw
      have w1 := (each_first (each_first hw).2).1
      have w2 := (each_first (each_first (each_first hw).2).2).1
      have w3 := (each_first (each_first (each_first (each_first hw).2).2).2).1
      have w4 := (each_first (each_first (each_first (each_first (each_first hw).2).2).2).2).1
      obtain ⟨v0, e0, _, q0⟩ := DataW.trod_int Tryd.underlying22 h0
      obtain ⟨v2, e2, x2, q2⟩ := DataW.trod_string Tryd.underlying9 h2
      obtain ⟨v3, e3, x3, q3⟩ := DataW.trod_string Tryd.underlying9 h3
      obtain ⟨v, ev, hvs, hvk, hvn, hvp⟩ := openVX rfl h4 w4
      rw [x2] at w2
      rw [x3] at w3
      simp at e0 e2 e3
      subst e0 e2 e3
      simp only [VX.cells, List.cons.injEq] at ev
      obtain ⟨rfl, rfl, rfl, rfl, rfl, _⟩ := ev
      rcases DataW.trod_slice Tryd.underlying23 h1 with ⟨hcs, _⟩ | ⟨a, len, cap, elems, rest, n2, hn2, hcs, hx1, hb, hlc, hcm, hel, hat, _, _⟩
      · obtain rfl : c1 = .slice none 0 0 := by simpa using hcs
        exact ⟨.mk v0 none [] 0 v2 v3 v, rfl, .mk (wf_i64 q0) (by simp) (str_size w2) (str_size w3) hvs hvk hvn hvp (fun j hj => absurd hj (by simp)) (fun k hk => by cases hk)⟩
      · obtain rfl : c1 = .slice (some a) len cap := by simpa using hcs
        have kE : Tryd.prog.cellsOf 29 = 9 := by kernel_rfl
        rw [kE] at hat
        rw [hx1, DataW.weights, Tryd.underlying23] at w1
        simp only [List.all_cons, Bool.and_eq_true] at w1
        have we := (all_app w1.2).1
        have each2 : ∀ i, i < len → ∃ k : XD, W.cells? 0 (a.add (i * 9)) 9 = some k.cells ∧ ReadsXD W k := fun i hi => by
          have hi2 : i < elems.length := by omega
          have hh := hat i hi
          rw [List.getElem?_eq_getElem hi2] at hh
          obtain ⟨cs', g1, g2⟩ := Option.bind_eq_some_iff.1 hh
          obtain ⟨_, hl9, _⟩ := World.cells?_some g1
          obtain ⟨k, rfl, hk⟩ := ih n2 (by omega) hl9 g2 (all_mem _ we _ (List.mem_map.2 ⟨_, List.getElem_mem hi2, rfl⟩))
          exact ⟨k, g1, hk⟩
        have hin : Inhabited XD := ⟨XD.zero⟩
        obtain ⟨V, hV⟩ := choose_lt each2
        have hgd : ∀ j, j < len → ((List.range len).map V).getD j XD.zero = V j := fun j hj => by simp [List.getD, hj]
        refine ⟨.mk v0 (some a) ((List.range len).map V) cap v2 v3 v, by simp [XD.cells, XD.op, XD.A, XD.ks, XD.c, XD.nm, XD.pr, XD.v, VX.cells], .mk (wf_i64 q0) (by unfold maxLen at hcm; simp; omega) (str_size w2) (str_size w3) hvs hvk hvn hvp (fun j hj => ?_) (fun k hk => ?_)⟩
        · have hj' : j < len := by simpa using hj
          rw [hgd j hj']
          obtain ⟨g0, _⟩ := hV j hj'
          obtain ⟨_, hl9, hcc⟩ := World.cells?_some g0
          have q0 := hcc 0 (by omega)
          have hs2 : (a.add (j * 9)).spot = none := by
            have s0 := spot_cell (h := q0.trans (List.getElem?_eq_getElem (by omega)))
            revert s0
            generalize a.add (j * 9) = p
            obtain ⟨b, o, sp⟩ := p
            unfold Addr.add
            intro s0
            split at s0 <;> first | exact s0 | simp_all
          refine ⟨a, rfl, ?_, hs2, fun i hi => ?_⟩
          · have q1 := lt_cell (h := q0.trans (List.getElem?_eq_getElem (by omega)))
            rw [add_cell _ _ hs2] at q1
            exact q1
          · have q := hcc i hi
            rw [add_cell _ _ hs2] at q
            exact q
        · obtain ⟨j, hj, rfl⟩ := List.mem_map.1 hk
          exact (hV j (List.mem_range.1 hj)).2
end Go.Proofs.YtkchpgjjkckfbaaDoor
