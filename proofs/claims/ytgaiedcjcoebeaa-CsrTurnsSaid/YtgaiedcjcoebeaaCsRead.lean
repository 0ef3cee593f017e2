/- Lists of numbers, as they are read: a slice of slices. -/
import Derived.Test.YtgaiedcjcoebeaaCsQ
import Derived.Test.YtgaiedcjcoebeaaRowW
set_option linter.unusedVariables false
set_option linter.unusedSimpArgs false
namespace Go.Proofs.Ytgaiedcjcoebeaa
open Go.RowKit

/-- A list's slice: where it lies, its numbers, its room. -/
structure R3 where
  A : Option Addr
  l : List Int
  c : Nat
def R3.val (r : R3) : Value := .slice r.A r.l.length r.c
def r30 : R3 := ⟨none, [], 0⟩
theorem spot_of {W : World} {p : Addr} {v : Value} (h : W.cell? p = some v) : p.spot = none := by
  unfold World.cell? at h
  split at h
  · split at h
    · cases h
    · rename_i h2
      cases hs : p.spot
      · rfl
      · rw [hs] at h2; simp at h2
  · cases h
/-- A slice of lists, as it is read. -/
structure ReadsL (W : World) (A : Option Addr) (rs : List R3) : Prop where
  len : rs.length ≤ 9223372036854775807
  row : ∀ j, j < rs.length → ∃ ad, A = some ad ∧ ad.block < W.heap.size ∧ W.cell? (ad.add j) = some (rs.getD j r30).val
  each : ∀ r ∈ rs, ReadsI W r.A r.l
  cap : ∀ r ∈ rs, r.l.length ≤ r.c
theorem ReadsL.below {W W' : World} {A : Option Addr} {rs : List R3} (h : ReadsL W A rs) (hb : Below W.heap.size W W') : ReadsL W' A rs where
  len := h.len
  row := fun j hj => by
    obtain ⟨ad, e, hl, hc⟩ := h.row j hj
    exact ⟨ad, e, by have := hb.size; omega, (hb.cell (World.block_lt_of_cell? W _ hc)).trans hc⟩
  each := fun r hr => (h.each r hr).below hb
  cap := h.cap
abbrev lsOf (rs : List R3) : List (List Int) := rs.map R3.l
theorem lsOf_getD (rs : List R3) (i : Nat) (hi : i < rs.length) : (lsOf rs).getD i [] = (rs.getD i r30).l := by simp [List.getD, hi]
theorem getD_mem (rs : List R3) (i : Nat) (hi : i < rs.length) : rs.getD i r30 ∈ rs := by
  rw [List.getD_eq_getElem?_getD, List.getElem?_eq_getElem hi]
  exact List.getElem_mem hi
/-- The lists are not greater than what comes in may be. -/
structure Small (rs : List R3) : Prop where
  rows : rs.length ≤ 5864062014805
  nums : ∀ r ∈ rs, r.l.length ≤ 17592186044416
theorem bytes_int : Try.prog.bytesOf 3 = 8 := by kernel_rfl
theorem bytes_row : Try.prog.bytesOf 24 = 24 := by kernel_rfl
theorem cells_int : Try.prog.cellsOf 3 = 1 := by kernel_rfl
theorem cells_row : Try.prog.cellsOf 24 = 1 := by kernel_rfl
open Go.Joins Go.ChangeShapes Go.WideShapes Go.ChangeAt Go.Deep in
theorem readsI_openW {H : Type} {enc : TypeId × Value → H} {W : World} {fuel : Nat} {c : Value} {x : DataW H × List MemPlace}
    (h : DataW.trod enc Try.prog W 0 (fun _ => true) true fuel 24 [c] = some x) : ∃ (A : Option Addr) (p : List Int) (k : Nat), c = .slice A p.length k ∧ ReadsI W A p ∧ p.length ≤ k ∧ ((DataW.weights Try.prog 24 x.1).all (· ≤ reachBytes) = true → p.length ≤ 17592186044416) := by
  rcases open_ints Try.underlying24 Try.underlying3 cells_int h with ⟨hcs, hx⟩ | ⟨a, len, cap, zs, hcs, _, hl, hm, hz, hx, hcell, hwz⟩
  · obtain rfl : c = .slice none 0 0 := by simpa using hcs
    exact ⟨none, [], 0, rfl, ⟨by decide, fun h => absurd h (by decide)⟩, Nat.le_refl _, fun _ => by decide⟩
  · obtain rfl : c = .slice (some a) len cap := by simpa using hcs
    have hzl : zs.length = cap := by simpa using hz
    have hp : (zs.take len).length = len := by rw [List.length_take, Nat.min_eq_left (by omega)]
    refine ⟨some a, zs.take len, cap, by rw [hp], ⟨?_, fun h0 => ⟨a, rfl, fun j hj => ?_⟩⟩, by rw [hp]; exact hl, fun hw => ?_⟩
    · unfold maxLen at hm
      rw [hp]
      omega
    · rw [hp] at hj
      rw [hcell j (by omega)]
      simp [List.getD, List.getElem?_take, hj]
    · rw [hx] at hw
      simp only [DataW.weights, Try.underlying24, bytes_int] at hw
      rw [List.all_cons, Bool.and_eq_true, decide_eq_true_iff] at hw
      have h1 := hw.1
      have e : reachBytes = 140737488351232 := rfl
      rw [e] at h1
      simp only [lits, List.length_map] at h1
      rw [hp] at h1 ⊢
      omega
theorem all_app {l r : List Nat} {B : Nat} (h : (l ++ r).all (· ≤ B) = true) : l.all (· ≤ B) = true ∧ r.all (· ≤ B) = true := by
  rw [List.all_append, Bool.and_eq_true] at h
  exact h
theorem weightsAll_mem {H : Type} {P : Program} {e : TypeId} {B : Nat} : ∀ {l : List (DataW H)}, (DataW.weightsAll P e l).all (· ≤ B) = true → ∀ d ∈ l, (d.weights P e).all (· ≤ B) = true
  | [], _, d, hd => by cases hd
  | x :: r, h, d, hd => by
    rw [DataW.weightsAll] at h
    rcases List.mem_cons.1 hd with rfl | hd
    · exact (all_app h).1
    · exact weightsAll_mem (all_app h).2 d hd
open Go.Joins Go.ChangeShapes Go.WideShapes Go.ChangeAt Go.Deep in
/-- A slice of lists that came in, opened. -/
theorem readsL_open {H : Type} {enc : TypeId × Value → H} {W : World} {fuel : Nat} {c : Value} {x : DataW H × List MemPlace}
    (h : DataW.trod enc Try.prog W 0 (fun _ => true) true fuel 22 [c] = some x) : ∃ (A : Option Addr) (rs : List R3) (k : Nat), c = .slice A rs.length k ∧ ReadsL W A rs ∧ ((DataW.weights Try.prog 22 x.1).all (· ≤ reachBytes) = true → Small rs) := by
  rcases open_slice1 Try.underlying22 cells_row h with ⟨hcs, hx⟩ | ⟨a, len, cap, m, n, V, D, Pl, hcs, _, hl, hm, hmm, hx, hel⟩
  · obtain rfl : c = .slice none 0 0 := by simpa using hcs
    exact ⟨none, [], 0, rfl, ⟨by simp, fun j hj => absurd hj (by simp), fun r hr => (nomatch hr), fun r hr => (nomatch hr)⟩, fun _ => ⟨by simp, fun r hr => by cases hr⟩⟩
  · obtain rfl : c = .slice (some a) len cap := by simpa using hcs
    have hml : len ≤ m := by rw [hmm]; simp; exact hl
    have hin : ∀ i, i < len → ∃ r : R3, V i = r.val ∧ ReadsI W r.A r.l ∧ r.l.length ≤ r.c ∧ ((DataW.weights Try.prog 24 (D i)).all (· ≤ reachBytes) = true → r.l.length ≤ 17592186044416) := fun i hi => by
      obtain ⟨A, p, k, e, hr, hk, hw⟩ := readsI_openW (hel i (by omega)).2
      exact ⟨⟨A, p, k⟩, e, hr, hk, hw⟩
    haveI : Inhabited R3 := ⟨r30⟩
    obtain ⟨F, hF⟩ := choose_lt (α := R3) (p := fun i r => V i = r.val ∧ ReadsI W r.A r.l ∧ r.l.length ≤ r.c ∧ ((DataW.weights Try.prog 24 (D i)).all (· ≤ reachBytes) = true → r.l.length ≤ 17592186044416)) hin
    have hln : ((List.range len).map F).length = len := by simp
    refine ⟨some a, (List.range len).map F, cap, by rw [hln], ⟨?_, fun j hj => ⟨a, rfl, ?_, ?_⟩, fun r hr => ?_, fun r hr => ?_⟩, fun hw => ?_⟩
    · rw [hln]; unfold maxLen at hm; omega
    · rw [hln] at hj
      have hc := (hel j (by omega)).1
      have := World.block_lt_of_cell? W _ hc
      have hb : (a.add j).block = a.block := by unfold Addr.add; split <;> rfl
      rw [hb] at this
      exact this
    · rw [hln] at hj
      rw [(hel j (by omega)).1, (hF j hj).1]
      simp [List.getD, hj]
    · obtain ⟨i, hi, rfl⟩ := List.mem_map.1 hr
      exact (hF i (by simpa using hi)).2.1
    · obtain ⟨i, hi, rfl⟩ := List.mem_map.1 hr
      exact (hF i (by simpa using hi)).2.2.1
    · rw [hx] at hw
      simp only [DataW.weights, Try.underlying22, bytes_row] at hw
      rw [List.all_cons, Bool.and_eq_true, decide_eq_true_iff] at hw
      have e : reachBytes = 140737488351232 := rfl
      refine ⟨?_, fun r hr => ?_⟩
      · have h1 := hw.1
        rw [e] at h1
        simp only [List.length_map, List.length_range] at h1
        rw [hln]
        omega
      · obtain ⟨i, hi, rfl⟩ := List.mem_map.1 hr
        have h2 := (all_app hw.2).1
        exact (hF i (by simpa using hi)).2.2.2 (weightsAll_mem h2 (D i) (List.mem_map.2 ⟨i, hi, rfl⟩))
end Go.Proofs.Ytgaiedcjcoebeaa
