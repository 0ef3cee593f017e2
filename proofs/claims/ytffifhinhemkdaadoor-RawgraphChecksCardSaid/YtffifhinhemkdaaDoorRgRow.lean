/- Rows of records that a law has made: they can be read. -/
import Derived.Test.YtffifhinhemkdaaDoorRgOpen
import Derived.Laws.AppendOwn
set_option linter.unusedVariables false
set_option linter.unusedSimpArgs false
namespace Go.Proofs.YtffifhinhemkdaaDoor
open Go.RowKit

theorem flat_len {α : Type} (f : α → List Value) (st : Nat) (hf : ∀ x, (f x).length = st) : ∀ l : List α, (l.flatMap f).length = l.length * st
  | [] => by simp
  | x :: r => by
    rw [List.flatMap_cons, List.length_append, flat_len f st hf r, hf, List.length_cons, Nat.add_mul]
    omega
theorem flat_at {α : Type} (f : α → List Value) (st : Nat) (d : α) (hf : ∀ x, (f x).length = st) : ∀ (l : List α) (j i : Nat), j < l.length → i < st → (l.flatMap f)[j * st + i]? = (f (l.getD j d))[i]?
  | [], j, i, h, _ => by simp at h
  | x :: r, 0, i, h, hi => by
    rw [List.flatMap_cons, Nat.zero_mul, Nat.zero_add, List.getElem?_append_left (by rw [hf]; exact hi)]
    rfl
  | x :: r, j + 1, i, h, hi => by
    have e : (j + 1) * st + i = (f x).length + (j * st + i) := by rw [hf, Nat.add_mul]; omega
    rw [List.flatMap_cons, e, List.getElem?_append_right (by omega), Nat.add_sub_cancel_left, flat_at f st d hf r j i (by simpa using h) hi]
    rfl
theorem add_zero_ (g m : Nat) : (⟨g, 0, none⟩ : Addr).add m = ⟨g, m, none⟩ := by
  unfold Addr.add
  split <;> simp_all
theorem own_rows {α : Type} (f : α → List Value) (st : Nat) (d : α) (hf : ∀ x, (f x).length = st) {W : World} {B : Nat} {e : TypeId} {v : Value} {l : List α} (h : W.ownsRow B e st v l.length (l.flatMap f)) (hp : 0 < st) :
    ∃ A c, v = .slice A l.length c ∧ ∀ j, j < l.length → ∃ a, A = some a ∧ (a.add (j * st)).block < W.heap.size ∧ (a.add (j * st)).spot = none ∧ ∀ i, i < st → W.cell? ⟨(a.add (j * st)).block, (a.add (j * st)).off + i, none⟩ = (f (l.getD j d))[i]? := by
  obtain ⟨hl, hs⟩ := h
  rcases hs with ⟨rfl, h0⟩ | ⟨g, cap, cur, rfl, hg, hh, hn, hm, hsz, htk⟩
  · exact ⟨none, 0, by rw [h0], fun j hj => by omega⟩
  · refine ⟨some ⟨g, 0, none⟩, cap, rfl, fun j hj => ⟨_, rfl, ?_, ?_, fun i hi => ?_⟩⟩
    · rw [add_zero_]
      exact (Array.getElem?_eq_some_iff.1 hh).1
    · rw [add_zero_]
    · rw [add_zero_]
      have hx := flat_at f st d hf l j i hj hi
      have hlt : j * st + i < (l.flatMap f).length := by
        rw [flat_len f st hf]
        have : (j + 1) * st ≤ l.length * st := Nat.mul_le_mul_right _ hj
        rw [Nat.add_mul] at this
        omega
      have hc := World.ownsRow.cells (base := B) (e := e) (size := st) ⟨hl, .inr ⟨g, cap, cur, rfl, hg, hh, hn, hm, hsz, htk⟩⟩ (g := g) rfl (j * st + i) _ (List.getElem?_eq_getElem hlt)
      rw [add_zero_] at hc
      rw [← hx, List.getElem?_eq_getElem hlt]
      exact hc
theorem cellsED_len (x : ED) : (cellsED x).length = 5 := rfl
theorem cellsND_len (x : ND) : (cellsND x).length = 3 := rfl
theorem readsE_own {W : World} {B : Nat} {v : Value} {es : List ED} (h : W.ownsRow B 55 5 v es.length (es.flatMap cellsED)) (hl : es.length ≤ 9223372036854775807) (hg : ∀ x ∈ es, goodED W x) : ∃ A c, v = .slice A es.length c ∧ ReadsE W A es := by
  obtain ⟨A, c, rfl, hrow⟩ := own_rows cellsED 5 ED.zero cellsED_len h (by decide)
  exact ⟨A, c, rfl, hl, fun j hj => by
    obtain ⟨a, e, h1, h2, h3⟩ := hrow j hj
    have e0 : (⟨(a.add (j * 5)).block, (a.add (j * 5)).off + 0, none⟩ : Addr) = a.add (j * 5) := by
      rw [← h2]
      rfl
    have r0 := h3 0 (by omega)
    rw [e0] at r0
    exact ⟨a, e, h1, h2, r0, h3 1 (by omega), h3 2 (by omega), h3 3 (by omega), h3 4 (by omega)⟩, fun x hx => (hg x hx).1, fun x hx => (hg x hx).2.1, fun x hx => (hg x hx).2.2⟩
theorem readsN_own {W : World} {B : Nat} {v : Value} {ns : List ND} (h : W.ownsRow B 52 3 v ns.length (ns.flatMap cellsND)) (hl : ns.length ≤ 9223372036854775807) (hg : ∀ x ∈ ns, goodND W x) : ∃ A c, v = .slice A ns.length c ∧ ReadsN W A ns := by
  obtain ⟨A, c, rfl, hrow⟩ := own_rows cellsND 3 ND.zero cellsND_len h (by decide)
  exact ⟨A, c, rfl, hl, fun j hj => by
    obtain ⟨a, e, h1, h2, h3⟩ := hrow j hj
    have e0 : (⟨(a.add (j * 3)).block, (a.add (j * 3)).off + 0, none⟩ : Addr) = a.add (j * 3) := by
      rw [← h2]
      rfl
    have r0 := h3 0 (by omega)
    rw [e0] at r0
    exact ⟨a, e, h1, h2, r0, h3 1 (by omega), h3 2 (by omega)⟩, fun x hx => (hg x hx).1, fun x hx => (hg x hx).2⟩
theorem spot_of_add (p : Addr) (m : Nat) (h : (p.add (0 * m)).spot = none) : p.spot = none := by
  obtain ⟨b, o, sp⟩ := p
  rw [Nat.zero_mul] at h
  unfold Addr.add at h
  simpa using h
/-- What a row that came in holds, cell by cell: what an append of it all wants. -/
theorem newsE {W : World} {ad : Addr} {es : List ED} (h : ReadsE W (some ad) es) : ∀ j u, (es.flatMap cellsED)[j]? = some u → W.cell? (ad.add j) = some u := by
  intro j u hu
  obtain ⟨hlt, _⟩ := List.getElem?_eq_some_iff.1 hu
  rw [flat_len cellsED 5 cellsED_len] at hlt
  have hq : j / 5 < es.length := by omega
  have hj : j = j / 5 * 5 + j % 5 := by omega
  have hi : j % 5 < 5 := by omega
  obtain ⟨a0, e0, hh0⟩ := h.row 0 (by omega)
  cases e0
  have hs := spot_of_add _ _ hh0.spot
  obtain ⟨a, e, hh⟩ := h.row (j / 5) hq
  cases e
  have e1 : ad.add j = ⟨ad.block, ad.off + j, none⟩ := add_cell _ _ hs
  have e2 : ad.add (j / 5 * 5) = ⟨ad.block, ad.off + j / 5 * 5, none⟩ := add_cell _ _ hs
  have hx := flat_at cellsED 5 ED.zero cellsED_len es (j / 5) (j % 5) hq hi
  rw [← hj, hu] at hx
  have c0 := hh.c0
  have c1 := hh.c1
  have c2 := hh.c2
  have c3 := hh.c3
  have c4 := hh.c4
  rw [e2] at c0 c1 c2 c3 c4
  rw [e1]
  have ho : ad.off + j = ad.off + j / 5 * 5 + j % 5 := by omega
  rw [ho]
  generalize j % 5 = i at hx hi
  rw [hx]
  match i, hi with
  | 0, _ => exact c0
  | 1, _ => exact c1
  | 2, _ => exact c2
  | 3, _ => exact c3
  | 4, _ => exact c4
theorem newsN {W : World} {ad : Addr} {ns : List ND} (h : ReadsN W (some ad) ns) : ∀ j u, (ns.flatMap cellsND)[j]? = some u → W.cell? (ad.add j) = some u := by
  intro j u hu
  obtain ⟨hlt, _⟩ := List.getElem?_eq_some_iff.1 hu
  rw [flat_len cellsND 3 cellsND_len] at hlt
  have hq : j / 3 < ns.length := by omega
  have hj : j = j / 3 * 3 + j % 3 := by omega
  have hi : j % 3 < 3 := by omega
  obtain ⟨a0, e0, hh0⟩ := h.row 0 (by omega)
  cases e0
  have hs := spot_of_add _ _ hh0.spot
  obtain ⟨a, e, hh⟩ := h.row (j / 3) hq
  cases e
  have e1 : ad.add j = ⟨ad.block, ad.off + j, none⟩ := add_cell _ _ hs
  have e2 : ad.add (j / 3 * 3) = ⟨ad.block, ad.off + j / 3 * 3, none⟩ := add_cell _ _ hs
  have hx := flat_at cellsND 3 ND.zero cellsND_len ns (j / 3) (j % 3) hq hi
  rw [← hj, hu] at hx
  have c0 := hh.c0
  have c1 := hh.c1
  have c2 := hh.c2
  rw [e2] at c0 c1 c2
  rw [e1]
  have ho : ad.off + j = ad.off + j / 3 * 3 + j % 3 := by omega
  rw [ho]
  generalize j % 3 = i at hx hi
  rw [hx]
  match i, hi with
  | 0, _ => exact c0
  | 1, _ => exact c1
  | 2, _ => exact c2
theorem oneE (es : List ED) : ∀ u ∈ es.flatMap cellsED, u.oneCell' = true := by
  intro u hu
  obtain ⟨x, _, hx⟩ := List.mem_flatMap.1 hu
  simp only [cellsED, List.mem_cons, List.not_mem_nil, or_false] at hx
  rcases hx with rfl | rfl | rfl | rfl | rfl <;> rfl
theorem oneN (ns : List ND) : ∀ u ∈ ns.flatMap cellsND, u.oneCell' = true := by
  intro u hu
  obtain ⟨x, _, hx⟩ := List.mem_flatMap.1 hu
  simp only [cellsND, List.mem_cons, List.not_mem_nil, or_false] at hx
  rcases hx with rfl | rfl | rfl <;> rfl
end Go.Proofs.YtffifhinhemkdaaDoor
