/- Rows of rows: what append makes of them; regions in which two operations may come first. -/
import Derived.Test.YtgaiedcjcoebeaaCsOwn
set_option linter.unusedVariables false
set_option linter.unusedSimpArgs false
namespace Go.Proofs.Ytgaiedcjcoebeaa
open Go.RowKit

theorem info_row : (Try.prog.info? 24).map (fun i => (i.zero, i.size, i.bytes)) = some (some (.slice none 0 0), 1, 24) := by kernel_rfl
abbrev rowCells (ts : List R3) : List Value := ts.map R3.val
theorem of_if {c : Prop} [Decidable c] {A B : Prop} (hc : c) (h : A) : if c then A else B := by rw [if_pos hc]; exact h
/-- The world is given a name. -/
theorem name_world {P : Program} {md : Region.Mode} {ops : Array Oper} {Q : Exit → Act → World → Prop} {S : World → Prop} {fuel : Nat} {listed : Array Bool} {a : Act} {F : World → Prop} {W0 : World} (h0 : F W0)
    (h : ∀ W, F W → wpAnyH P md ops Q S fuel listed a W) : wpAnyH P md ops Q S fuel listed a W0 := h W0 h0
/-- Either of two may come. -/
theorem two_step {P : Program} {ops : Array Oper} {Q : Exit → Act → World → Prop} {S : World → Prop} {md : Region.Mode} {i j : Nat} {oi oj : Oper} {fuel : Nat} {listed : Array Bool} {a : Act} {w : World} (hr : Region.ready md ops listed = [i, j]) (hi : nthOp ops.toList i = some oi) (hj : nthOp ops.toList j = some oj)
    (h : ∀ K' : Act → World → Prop, Shut (∀ a w, S w → (S w → wpAnyH P md ops Q S fuel (listed.setIfInBounds i true) a w) → K' a w) → if Region.wanted oi (yielded ops a.tmps) = true then Oper.wp P oi a w K' Q else K' (a.put oi.dst undef) w)
    (h2 : ∀ K' : Act → World → Prop, Shut (∀ a w, S w → (S w → wpAnyH P md ops Q S fuel (listed.setIfInBounds j true) a w) → K' a w) → if Region.wanted oj (yielded ops a.tmps) = true then Oper.wp P oj a w K' Q else K' (a.put oj.dst undef) w) :
    wpAnyH P md ops Q S (fuel + 1) listed a w :=
  wpAnyH_ready hr (by simp) (AllReadyH.cons (nthOp_at hi) h (AllReadyH.cons (nthOp_at hj) h2 AllReadyH.nil))
theorem own_empty (W : World) (B : Nat) (hB : B ≤ W.heap.size) : (W.alloc (.cells #[] 24)).ownsRow B 24 1 (.slice (some ⟨W.heap.size, 0, none⟩) 0 0) 0 [] :=
  ⟨by simp, .inr ⟨W.heap.size, 0, #[], rfl, hB, by simpa using heap_alloc_new W _, Nat.le_refl _, by decide, by simp, by simp⟩⟩
/-- An own row of rows, as it is read. -/
theorem own_rowsL {W : World} {B : Nat} {v : Value} {ts : List R3} (h : W.ownsRow B 24 1 v ts.length (rowCells ts)) (he : ∀ r ∈ ts, ReadsI W r.A r.l) (hc : ∀ r ∈ ts, r.l.length ≤ r.c) :
    ∃ (A : Option Addr) (cap : Nat), v = .slice A ts.length cap ∧ ReadsL W A ts := by
  have h' := h
  rcases h with ⟨hl, ⟨rfl, h0⟩ | ⟨g, cap, cur, rfl, hg, hh, hn, hm, hs, htk⟩⟩
  · rw [h0]
    exact ⟨none, 0, rfl, ⟨by omega, fun j hj => absurd hj (by omega), he, hc⟩⟩
  · refine ⟨_, cap, rfl, ⟨by unfold maxLen at hm; omega, fun j hj => ⟨_, rfl, (Array.getElem?_eq_some_iff.1 hh).1, ?_⟩, he, hc⟩⟩
    exact h'.cells (g := g) rfl j (ts.getD j r30).val (by simp [List.getD, hj])
/-- An append of rows to an own row of rows. -/
theorem append_rows {W : World} {o : Oper} {a : Act} {K : Act → World → Prop} {Q : Exit → Act → World → Prop} (s x : Operand)
    (ho : o.op = .call { callee := .builtin .append, args := #[s, x], argTypes := #[22, 22] }) (B : Nat) (v : Value) (n : Nat) (xs : List Value) (hs : a.eval s = v) (hown : W.ownsRow B 24 1 v n xs)
    (ad : Addr) (q cq : Nat) (hx : a.eval x = .slice (some ad) q cq) (ts : List R3) (hq : ts.length = q) (hc : ∀ j, j < ts.length → W.cell? (ad.add j) = some (ts.getD j r30).val) (hn : n + q ≤ 5864062014805) (hB : B ≤ W.heap.size)
    (h : ∀ v' w', w'.ownsRow B 24 1 v' (n + q) (xs ++ rowCells ts) → Below B W w' → W.grownBy w' v.ownBlock → K (a.put o.dst v') w') : o.wp Try.prog a W K Q := by
  obtain ⟨i0, hi, hz0, hz1, hz2⟩ := info_parts info_row
  refine wp_append_own W s x 22 ho B 24 i0 (.slice none 0 0) 1 24 Try.underlying22 hi hz0 hz1 hz2 rfl (by decide) v n xs hs hown ad q cq (rowCells ts) hx (by simp [hq]) ?c1 ?c2 ?c3 ?c4 hB ?_
  case c1 =>
    intro j u hj
    have hjl : j < ts.length := by
      have := (List.getElem?_eq_some_iff.1 hj).1
      simpa using this
    have hu : u = (ts.getD j r30).val := by
      rw [List.getElem?_map, List.getElem?_eq_getElem hjl, Option.map_some, Option.some.injEq] at hj
      rw [← hj, List.getD_eq_getElem?_getD, List.getElem?_eq_getElem hjl]
      rfl
    rw [hu]
    exact hc j hjl
  case c2 => intro u hu; obtain ⟨r, _, rfl⟩ := List.mem_map.1 hu; rfl
  case c3 => unfold maxLen; omega
  case c4 => omega
  intro v' w' h1 h2 _
  exact h v' w' h1 (below_grow (w0 := W) (Below.refl B W) hB h2 (fun k e => (hown.lt k e).1)) h2
open Go.Joins Go.ChangeShapes Go.WideShapes Go.ChangeAt Go.Deep in
/-- How long a slice of rows that came in is. -/
theorem rows_room {H : Type} {enc : TypeId × Value → H} {W : World} {a : Option Addr} {len cap : Nat} {d : DataW H} {p : List MemPlace}
    (h : DataW.Trod enc Try.prog W 0 (fun _ => true) true 22 (.slice a len cap) d p) : len ≤ cap ∧ ((DataW.weights Try.prog 22 d).all (· ≤ reachBytes) = true → len ≤ 5864062014634) := by
  obtain ⟨fuel, hf⟩ := h
  have hf : DataW.trod enc Try.prog W 0 (fun _ => true) true fuel 22 [.slice a len cap] = some (d, p) := hf
  rcases open_slice1 Try.underlying22 cells_row hf with ⟨hcs, hx⟩ | ⟨a', len', cap', m, n, V, D, Pl, hcs, _, hl, hm, hmm, hx, hel⟩
  · simp at hcs
    omega
  · simp at hcs
    obtain ⟨_, rfl, rfl⟩ := hcs
    refine ⟨hl, fun hw => ?_⟩
    simp only [Prod.mk.injEq] at hx
    rw [hx.1] at hw
    simp only [DataW.weights, Try.underlying22, bytes_row] at hw
    rw [List.all_cons, Bool.and_eq_true, decide_eq_true_iff] at hw
    have e : reachBytes = 140737488351232 := rfl
    have h1 := hw.1
    rw [e] at h1
    simp only [List.length_map, List.length_range] at h1
    omega
end Go.Proofs.Ytgaiedcjcoebeaa
