/- What rising lists have in common, and the way that csr.Meet takes: no program in sight. -/
import Derived.Test.YtgaiedcjcoebeaaVal0
set_option linter.unusedVariables false
set_option linter.unusedSimpArgs false
namespace Go.Proofs.Ytgaiedcjcoebeaa
open Go.RowKit

/-- A list that rises. -/
abbrev Up (l : List Int) : Prop := l.Pairwise (· < ·)
/-- What lists have in common: of the first one, what stands in each other one. -/
def commonL : List (List Int) → List Int
  | [] => []
  | x :: r => x.filter fun v => r.all fun l => l.contains v
theorem mem_common (ls : List (List Int)) (hne : ls ≠ []) (v : Int) : v ∈ commonL ls ↔ ∀ i, i < ls.length → v ∈ ls.getD i [] := by
  match ls, hne with
  | x :: r, _ =>
    unfold commonL
    rw [List.mem_filter, List.all_eq_true]
    constructor
    · rintro ⟨h1, h2⟩ i hi
      match i, hi with
      | 0, _ => exact h1
      | i + 1, hi =>
        have hi' : i < r.length := by simpa using hi
        have := h2 (r[i]) (List.getElem_mem hi')
        simpa [List.getD, hi'] using this
    · intro h
      refine ⟨by simpa using h 0 (by simp), fun l hl => ?_⟩
      obtain ⟨i, hi, rfl⟩ := List.getElem_of_mem hl
      have := h (i + 1) (by simpa using hi)
      simpa [List.getD, hi] using this
theorem up_common (ls : List (List Int)) (h : ∀ l ∈ ls, Up l) : Up (commonL ls) := by
  match ls with
  | [] => exact List.Pairwise.nil
  | x :: r => exact (h x (by simp)).filter _
/-- The first place from p on whose number is not below n. -/
def seekL (l : List Int) (p : Nat) (n : Int) : Nat := p + ((l.drop p).takeWhile (fun x => decide (x < n))).length
theorem seekL_ge (l : List Int) (p : Nat) (n : Int) : p ≤ seekL l p n := Nat.le_add_right _ _
theorem seekL_le (l : List Int) (p : Nat) (n : Int) (h : p ≤ l.length) : seekL l p n ≤ l.length := by
  have := List.takeWhile_sublist (l := l.drop p) (fun x => decide (x < n)) |>.length_le
  rw [List.length_drop] at this
  unfold seekL
  omega
theorem takeWhile_take : ∀ (q : Int → Bool) (l : List Int), l.takeWhile q = l.take (l.takeWhile q).length
  | q, [] => by simp
  | q, x :: t => by
    rw [List.takeWhile_cons]
    split
    · rw [List.length_cons, List.take_succ_cons, ← takeWhile_take q t]
    · simp
theorem of_takeWhile (q : Int → Bool) : ∀ (l : List Int) (v : Int), v ∈ l.takeWhile q → q v = true
  | [], v, h => by simp at h
  | x :: t, v, h => by
    rw [List.takeWhile_cons] at h
    split at h
    · rcases List.mem_cons.1 h with rfl | h
      · assumption
      · exact of_takeWhile q t v h
    · simp at h
theorem seekL_below (l : List Int) (p : Nat) (n : Int) (j : Nat) (h0 : p ≤ j) (h1 : j < seekL l p n) (v : Int) (hv : l[j]? = some v) : v < n := by
  have hlt : j - p < ((l.drop p).takeWhile (fun x => decide (x < n))).length := by unfold seekL at h1; omega
  have hg : ((l.drop p).takeWhile (fun x => decide (x < n)))[j - p]? = some v := by
    rw [takeWhile_take]
    rw [List.getElem?_take, if_pos hlt, List.getElem?_drop, show p + (j - p) = j by omega]
    exact hv
  have hm := List.mem_of_getElem? hg
  have := of_takeWhile _ _ _ hm
  exact of_decide_eq_true this
theorem seekL_at (l : List Int) (p : Nat) (n : Int) (v : Int) (hv : l[seekL l p n]? = some v) : n ≤ v := by
  unfold seekL at hv
  rw [← List.getElem?_drop] at hv
  have key : ∀ (m : List Int) (v : Int), m[(m.takeWhile (fun x => decide (x < n))).length]? = some v → n ≤ v := by
    intro m
    induction m with
    | nil => intro v h; simp at h
    | cons x t ih =>
      intro v h
      rw [List.takeWhile_cons] at h
      by_cases hx : x < n
      · rw [if_pos (by simpa using hx)] at h
        simp only [List.length_cons, List.getElem?_cons_succ] at h
        exact ih v h
      · rw [if_neg (by simpa using hx)] at h
        simp at h
        omega
  exact key _ v hv
/-- The place is told by these two. -/
theorem seekL_eq (l : List Int) (p : Nat) (n : Int) (q : Nat) (h0 : p ≤ q) (h1 : q ≤ l.length) (hb : ∀ j v, p ≤ j → j < q → l[j]? = some v → v < n) (ha : ∀ v, l[q]? = some v → n ≤ v) : seekL l p n = q := by
  have hl := seekL_le l p n (by omega)
  have hg := seekL_ge l p n
  rcases Nat.lt_trichotomy (seekL l p n) q with h | h | h
  · exfalso
    have hlt : seekL l p n < l.length := by omega
    have e : l[seekL l p n]? = some l[seekL l p n] := List.getElem?_eq_getElem hlt
    have := seekL_at l p n _ e
    have := hb _ _ hg h e
    omega
  · exact h
  · exfalso
    have hlt : q < l.length := by omega
    have e : l[q]? = some l[q] := List.getElem?_eq_getElem hlt
    have := seekL_below l p n q h0 h _ e
    have := ha _ e
    omega
theorem mem_drop_iff (l : List Int) (p : Nat) (v : Int) : v ∈ l.drop p ↔ ∃ j, p ≤ j ∧ l[j]? = some v := by
  rw [List.mem_iff_getElem?]
  constructor
  · rintro ⟨i, hi⟩
    rw [List.getElem?_drop] at hi
    exact ⟨p + i, by omega, hi⟩
  · rintro ⟨j, hj, h⟩
    exact ⟨j - p, by rw [List.getElem?_drop, show p + (j - p) = j by omega]; exact h⟩
theorem up_lt {l : List Int} (h : Up l) {i j : Nat} {x y : Int} (hij : i < j) (hx : l[i]? = some x) (hy : l[j]? = some y) : x < y := by
  obtain ⟨h1, rfl⟩ := List.getElem?_eq_some_iff.1 hx
  obtain ⟨h2, rfl⟩ := List.getElem?_eq_some_iff.1 hy
  exact List.pairwise_iff_getElem.1 h i j h1 h2 hij
theorem up_ge {l : List Int} (h : Up l) {p : Nat} {x v : Int} (hx : l[p]? = some x) (hv : v ∈ l.drop p) : x ≤ v := by
  obtain ⟨j, hj, e⟩ := (mem_drop_iff l p v).1 hv
  rcases Nat.lt_or_eq_of_le hj with h1 | rfl
  · exact Int.le_of_lt (up_lt h h1 hx e)
  · rw [hx] at e; simp at e; omega
/-- How far list i lies behind list k, going round. -/
def dist (m k i : Nat) : Nat := if i < k then k - i else k + m - i
/-- What holds at the head of each round of csr.Meet. -/
structure MeetI (ls : List (List Int)) (k : Nat) (ats : List Nat) (same : Nat) (n : Int) (out : List Int) : Prop where
  len : ats.length = ls.length
  kl : k < ls.length
  sl : same < ls.length
  at_ : ∀ i, i < ls.length → ats.getD i 0 ≤ (ls.getD i []).length
  rest : ∃ r, commonL ls = out ++ r ∧ (∀ v ∈ r, ∀ i, i < ls.length → v ∈ (ls.getD i []).drop (ats.getD i 0)) ∧ (0 < same → ∀ v ∈ r, n ≤ v)
  gone : ∀ v ∈ out, ∃ i, i < ls.length ∧ v ∉ (ls.getD i []).drop (ats.getD i 0)
  here : ∀ i, i < ls.length → dist ls.length k i ≤ same → (ls.getD i [])[ats.getD i 0]? = some n
  low : same = 0 → out ≠ [] → ∀ i, i < ls.length → ∀ v ∈ (ls.getD i []).drop (ats.getD i 0), n ≤ v
theorem meet_start (ls : List (List Int)) (hne : ls ≠ []) : MeetI ls 0 (List.replicate ls.length 0) 0 0 [] where
  len := by simp
  kl := List.length_pos_iff.2 hne
  sl := List.length_pos_iff.2 hne
  at_ := fun i hi => by simp [List.getD, hi]
  rest := ⟨commonL ls, rfl, fun v hv i hi => by
    have := (mem_common ls hne v).1 hv i hi
    simpa [List.getD, List.getElem?_replicate, hi] using this, fun h => absurd h (by omega)⟩
  gone := fun v hv => by cases hv
  here := fun i hi hd => by unfold dist at hd; split at hd <;> omega
  low := fun _ h => absurd rfl h
theorem getD_set (ats : List Nat) (k p i : Nat) (hk : k < ats.length) : (ats.set k p).getD i 0 = if i = k then p else ats.getD i 0 := by
  by_cases h : i = k
  · subst h
    simp [List.getD, hk]
  · rw [if_neg h]
    simp [List.getD, List.getElem?_set, Ne.symm h]
/-- The place in list k after the search. -/
def placeL (ls : List (List Int)) (k : Nat) (ats : List Nat) (same : Nat) (n : Int) : Nat := if 0 < same then seekL (ls.getD k []) (ats.getD k 0) n else ats.getD k 0
/-- The end: list k has nothing more. -/
theorem meet_end {ls : List (List Int)} {k : Nat} {ats : List Nat} {same : Nat} {n : Int} {out : List Int} (h : MeetI ls k ats same n out) (he : (ls.getD k []).length ≤ placeL ls k ats same n) : commonL ls = out := by
  obtain ⟨r, hc, h1, h2⟩ := h.rest
  suffices r = [] by rw [hc, this, List.append_nil]
  cases r with
  | nil => rfl
  | cons v r =>
    exfalso
    have hv := h1 v (by simp) k h.kl
    obtain ⟨j, hj, e⟩ := (mem_drop_iff _ _ _).1 hv
    have hjl := (List.getElem?_eq_some_iff.1 e).1
    unfold placeL at he
    by_cases hs : 0 < same
    · rw [if_pos hs] at he
      have := seekL_below _ _ n j hj (by omega) v e
      have := h2 hs v (by simp)
      omega
    · rw [if_neg hs] at he
      omega
theorem place_ge {ls : List (List Int)} {k : Nat} {ats : List Nat} {same : Nat} {n : Int} : ats.getD k 0 ≤ placeL ls k ats same n := by
  unfold placeL
  split
  · exact seekL_ge _ _ _
  · exact Nat.le_refl _
/-- What is left of the common ones stands from the new place on. -/
theorem place_rest {ls : List (List Int)} {k : Nat} {ats : List Nat} {same : Nat} {n : Int} {out : List Int} (h : MeetI ls k ats same n out) {r : List Int}
    (h1 : ∀ v ∈ r, ∀ i, i < ls.length → v ∈ (ls.getD i []).drop (ats.getD i 0)) (h2 : 0 < same → ∀ v ∈ r, n ≤ v) : ∀ v ∈ r, v ∈ (ls.getD k []).drop (placeL ls k ats same n) := by
  intro v hv
  have hd := h1 v hv k h.kl
  unfold placeL
  by_cases hs : 0 < same
  · rw [if_pos hs]
    obtain ⟨j, hj, e⟩ := (mem_drop_iff _ _ _).1 hd
    refine (mem_drop_iff _ _ _).2 ⟨j, ?_, e⟩
    rcases Nat.lt_or_ge j (seekL (ls.getD k []) (ats.getD k 0) n) with hlt | hge
    · have := seekL_below _ _ n j hj hlt v e
      have := h2 hs v hv
      omega
    · exact hge
  · rw [if_neg hs]
    exact hd
theorem dist_next {m k i : Nat} (hk : k < m) (hi : i < m) : dist m (if k + 1 = m then 0 else k + 1) i = if i = k then 1 else dist m k i + 1 := by
  unfold dist
  repeat' split
  all_goals omega
theorem dist_le {m k i : Nat} (hk : k < m) (hi : i < m) : 1 ≤ dist m k i ∧ dist m k i ≤ m := by
  unfold dist
  split <;> omega
theorem dist_self {m k : Nat} (hk : k < m) : dist m k k = m := by
  unfold dist
  rw [if_neg (by omega)]
  omega
/-- A round that tells nothing: the number stands in one list more, or is another one. -/
theorem meet_step {ls : List (List Int)} (hup : ∀ l ∈ ls, Up l) {k : Nat} {ats : List Nat} {same : Nat} {n : Int} {out : List Int} (h : MeetI ls k ats same n out) (v : Int)
    (hv : (ls.getD k [])[placeL ls k ats same n]? = some v) (same' : Nat) (hs' : same' = if same = 0 ∨ v ≠ n then 1 else same + 1) (hlt : same' < ls.length) :
    MeetI ls (if k + 1 = ls.length then 0 else k + 1) (ats.set k (placeL ls k ats same n)) same' v out where
  len := by rw [List.length_set]; exact h.len
  kl := by have := h.kl; split <;> omega
  sl := hlt
  at_ := fun i hi => by
    rw [getD_set _ _ _ _ (by rw [h.len]; exact h.kl)]
    split
    · rename_i e; subst e
      have := (List.getElem?_eq_some_iff.1 hv).1
      omega
    · exact h.at_ i hi
  rest := by
    obtain ⟨r, hc, h1, h2⟩ := h.rest
    have hpr := place_rest h h1 h2
    refine ⟨r, hc, fun x hx i hi => ?_, fun _ x hx => ?_⟩
    · rw [getD_set _ _ _ _ (by rw [h.len]; exact h.kl)]
      split
      · rename_i e; subst e
        exact hpr x hx
      · exact h1 x hx i hi
    · have hm : ls.getD k [] ∈ ls := by
        rw [List.getD_eq_getElem?_getD, List.getElem?_eq_getElem h.kl]
        exact List.getElem_mem h.kl
      exact up_ge (hup _ hm) hv (hpr x hx)
  gone := fun x hx => by
    obtain ⟨i, hi, hn⟩ := h.gone x hx
    refine ⟨i, hi, fun hd => hn ?_⟩
    rw [getD_set _ _ _ _ (by rw [h.len]; exact h.kl)] at hd
    split at hd
    · rename_i e; subst e
      obtain ⟨j, hj, e⟩ := (mem_drop_iff _ _ _).1 hd
      exact (mem_drop_iff _ _ _).2 ⟨j, Nat.le_trans place_ge hj, e⟩
    · exact hd
  here := fun i hi hd => by
    rw [dist_next h.kl hi] at hd
    rw [getD_set _ _ _ _ (by rw [h.len]; exact h.kl)]
    by_cases e : i = k
    · subst e
      rw [if_pos rfl]
      exact hv
    · rw [if_neg e] at hd ⊢
      have hdl := dist_le h.kl hi
      by_cases hc : same = 0 ∨ v ≠ n
      · rw [if_pos hc] at hs'
        omega
      · rw [if_neg hc] at hs'
        have hvn : v = n := by
          by_cases hh : v = n
          · exact hh
          · exact absurd (.inr hh) hc
        rw [hvn]
        exact h.here i hi (by omega)
  low := fun h0 => by
    exfalso
    split at hs' <;> omega
/-- A round that tells the number: it stands in all lists. -/
theorem meet_tell {ls : List (List Int)} (hup : ∀ l ∈ ls, Up l) {k : Nat} {ats : List Nat} {same : Nat} {n : Int} {out : List Int} (h : MeetI ls k ats same n out) (v : Int)
    (hv : (ls.getD k [])[placeL ls k ats same n]? = some v) (hs' : (if same = 0 ∨ v ≠ n then 1 else same + 1) = ls.length) :
    MeetI ls (if k + 1 = ls.length then 0 else k + 1) (ats.set k (placeL ls k ats same n + 1)) 0 v (out ++ [v]) := by
  have hne : ls ≠ [] := by have := h.kl; intro e; rw [e] at this; simp at this
  have hm : ∀ i, i < ls.length → ls.getD i [] ∈ ls := fun i hi => by
    rw [List.getD_eq_getElem?_getD, List.getElem?_eq_getElem hi]
    exact List.getElem_mem hi
  have hkl := (List.getElem?_eq_some_iff.1 hv).1
  -- the number stands in each other list where that one is
  have hall : ∀ i, i < ls.length → i ≠ k → (ls.getD i [])[ats.getD i 0]? = some v := fun i hi hik => by
    have hdl := dist_le h.kl hi
    have hne2 : dist ls.length k i ≤ ls.length - 1 := by
      unfold dist at hdl ⊢
      have := h.kl
      split <;> omega
    by_cases hc : same = 0 ∨ v ≠ n
    · rw [if_pos hc] at hs'
      omega
    · rw [if_neg hc] at hs'
      have hvn : v = n := by
        by_cases hh : v = n
        · exact hh
        · exact absurd (.inr hh) hc
      rw [hvn]
      exact h.here i hi (by omega)
  obtain ⟨r, hc, h1, h2⟩ := h.rest
  have hpr := place_rest h h1 h2
  have hin : v ∈ commonL ls := (mem_common ls hne v).2 fun i hi => by
    by_cases e : i = k
    · subst e; exact List.mem_of_getElem? hv
    · exact List.mem_of_getElem? (hall i hi e)
  have hout : v ∉ out := fun hx => by
    obtain ⟨i, hi, hn⟩ := h.gone v hx
    apply hn
    by_cases e : i = k
    · subst e
      exact (mem_drop_iff _ _ _).2 ⟨_, place_ge, hv⟩
    · exact (mem_drop_iff _ _ _).2 ⟨_, Nat.le_refl _, hall i hi e⟩
  have hr : v ∈ r := by
    rw [hc] at hin
    rcases List.mem_append.1 hin with hx | hx
    · exact absurd hx hout
    · exact hx
  have hge : ∀ x ∈ r, v ≤ x := fun x hx => up_ge (hup _ (hm k h.kl)) hv (hpr x hx)
  have hupc := up_common ls hup
  rw [hc] at hupc
  have hur : Up r := (List.pairwise_append.1 hupc).2.1
  obtain ⟨r', rfl⟩ : ∃ r', r = v :: r' := by
    cases r with
    | nil => cases hr
    | cons y r' =>
      rcases List.mem_cons.1 hr with rfl | hy
      · exact ⟨r', rfl⟩
      · have := (List.pairwise_cons.1 hur).1 v hy
        have := hge y (by simp)
        omega
  have hgt : ∀ x ∈ r', v < x := (List.pairwise_cons.1 hur).1
  refine ⟨by rw [List.length_set]; exact h.len, by have := h.kl; split <;> omega, by have := h.kl; omega, fun i hi => ?_, ⟨r', by rw [hc]; simp, fun x hx i hi => ?_, fun h0 => absurd h0 (by omega)⟩, fun x hx => ?_, fun i hi hd => ?_, fun _ _ i hi x hx => ?_⟩
  · rw [getD_set _ _ _ _ (by rw [h.len]; exact h.kl)]
    split
    · rename_i e; subst e; omega
    · exact h.at_ i hi
  · rw [getD_set _ _ _ _ (by rw [h.len]; exact h.kl)]
    split
    · rename_i e; subst e
      obtain ⟨j, hj, e⟩ := (mem_drop_iff _ _ _).1 (hpr x (by simp [hx]))
      refine (mem_drop_iff _ _ _).2 ⟨j, ?_, e⟩
      rcases Nat.lt_or_eq_of_le hj with h3 | rfl
      · exact h3
      · rw [hv] at e
        have := hgt x hx
        simp at e
        omega
    · exact h1 x (by simp [hx]) i hi
  · rcases List.mem_append.1 hx with hx | hx
    · obtain ⟨i, hi, hn⟩ := h.gone x hx
      refine ⟨i, hi, fun hd => hn ?_⟩
      rw [getD_set _ _ _ _ (by rw [h.len]; exact h.kl)] at hd
      split at hd
      · rename_i e; subst e
        obtain ⟨j, hj, e⟩ := (mem_drop_iff _ _ _).1 hd
        exact (mem_drop_iff _ _ _).2 ⟨j, by have := place_ge (ls := ls) (k := i) (ats := ats) (same := same) (n := n); omega, e⟩
      · exact hd
    · simp only [List.mem_singleton] at hx
      subst hx
      refine ⟨k, h.kl, fun hd => ?_⟩
      rw [getD_set _ _ _ _ (by rw [h.len]; exact h.kl), if_pos rfl] at hd
      obtain ⟨j, hj, e⟩ := (mem_drop_iff _ _ _).1 hd
      have := up_lt (hup _ (hm k h.kl)) (show placeL ls k ats same n < j by omega) hv e
      omega
  · have := dist_le (m := ls.length) (k := if k + 1 = ls.length then 0 else k + 1) (by have := h.kl; split <;> omega) hi
    omega
  · rw [getD_set _ _ _ _ (by rw [h.len]; exact h.kl)] at hx
    split at hx
    · rename_i e; subst e
      obtain ⟨j, hj, e⟩ := (mem_drop_iff _ _ _).1 hx
      exact Int.le_of_lt (up_lt (hup _ (hm i hi)) (show placeL ls i ats same n < j by omega) hv e)
    · rename_i e
      exact up_ge (hup _ (hm i hi)) (hall i hi e) hx
/-- How many numbers are left to pass. -/
def leftN : List (List Int) → List Nat → Nat
  | l :: ls, a :: as => (l.length - a) + leftN ls as
  | _, _ => 0
/-- How many numbers are greater than one. -/
def overN (ls : List (List Int)) (n : Int) : Nat := (ls.map fun l => (l.filter fun x => decide (n < x)).length).sum
def allN (ls : List (List Int)) : Nat := (ls.map List.length).sum
theorem over_le (ls : List (List Int)) (n : Int) : overN ls n ≤ allN ls := by
  unfold overN allN
  induction ls with
  | nil => simp
  | cons l ls ih =>
    have := List.length_filter_le (fun x => decide (n < x)) l
    simp
    omega
theorem filter_mono (l : List Int) {a b : Int} (h : a ≤ b) : (l.filter fun x => decide (b < x)).length ≤ (l.filter fun x => decide (a < x)).length := by
  induction l with
  | nil => simp
  | cons x t ih =>
    simp only [List.filter_cons]
    by_cases hb : b < x
    · have ha : a < x := by omega
      simp [hb, ha]; exact ih
    · by_cases ha : a < x
      · simp [hb, ha]; omega
      · simp [hb, ha]; exact ih
theorem over_mono (ls : List (List Int)) {a b : Int} (h : a ≤ b) : overN ls b ≤ overN ls a := by
  unfold overN
  induction ls with
  | nil => simp
  | cons l ls ih =>
    have := filter_mono l h
    simp
    omega
theorem filter_less (l : List Int) {a b : Int} (h : a < b) (hm : b ∈ l) : (l.filter fun x => decide (b < x)).length < (l.filter fun x => decide (a < x)).length := by
  induction l with
  | nil => cases hm
  | cons x t ih =>
    simp only [List.filter_cons]
    rcases List.mem_cons.1 hm with rfl | hm
    · have := filter_mono t (Int.le_of_lt h)
      simp [h]; omega
    · have := ih hm
      by_cases hb : b < x
      · have ha : a < x := by omega
        simp [hb, ha]; exact this
      · by_cases ha : a < x
        · simp [hb, ha]; omega
        · simp [hb, ha]; exact this
theorem over_less (ls : List (List Int)) {a b : Int} (h : a < b) (k : Nat) (hk : k < ls.length) (hm : b ∈ ls.getD k []) : overN ls b < overN ls a := by
  unfold overN
  induction ls generalizing k with
  | nil => simp at hk
  | cons l ls ih =>
    match k with
    | 0 =>
      have := filter_less l h (by simpa using hm)
      have := over_mono ls (Int.le_of_lt h)
      unfold overN at this
      simp
      omega
    | k + 1 =>
      have := ih k (by simpa using hk) (by simpa using hm)
      have := filter_mono l (Int.le_of_lt h)
      simp
      omega
theorem left_le : ∀ (ls : List (List Int)) (ats : List Nat), leftN ls ats ≤ allN ls
  | [], ats => by simp [leftN]
  | l :: ls, [] => by simp [leftN]
  | l :: ls, a :: as => by
    have := left_le ls as
    simp [leftN, allN] at this ⊢
    omega
theorem left_set : ∀ (ls : List (List Int)) (ats : List Nat) (k p : Nat), ats.length = ls.length → k < ls.length → ats.getD k 0 ≤ p →
    leftN ls (ats.set k p) ≤ leftN ls ats ∧ (ats.getD k 0 < p → ats.getD k 0 < (ls.getD k []).length → leftN ls (ats.set k p) < leftN ls ats)
  | [], ats, k, p, _, hk, _ => by simp at hk
  | l :: ls, [], k, p, hl, _, _ => by simp at hl
  | l :: ls, a :: as, 0, p, hl, hk, hp => by
    simp [leftN] at hp ⊢
    omega
  | l :: ls, a :: as, k + 1, p, hl, hk, hp => by
    have := left_set ls as k p (by simpa using hl) (by simpa using hk) (by simpa using hp)
    simp [leftN] at this ⊢
    omega
/-- What grows less with each round. -/
def mu (ls : List (List Int)) (ats : List Nat) (same : Nat) (n : Int) (out : List Int) : Nat :=
  leftN ls ats * ((allN ls + 2) * (ls.length + 1)) + (if same = 0 ∧ out = [] then allN ls + 1 else overN ls n) * (ls.length + 1) + (ls.length - same)
theorem mu_left {ls : List (List Int)} {ats ats' : List Nat} {s s' : Nat} {n n' : Int} {o o' : List Int} (h : leftN ls ats' < leftN ls ats) : mu ls ats' s' n' o' < mu ls ats s n o := by
  have h1 : (leftN ls ats' + 1) * ((allN ls + 2) * (ls.length + 1)) ≤ leftN ls ats * ((allN ls + 2) * (ls.length + 1)) := Nat.mul_le_mul_right _ h
  have h2 : (if s' = 0 ∧ o' = [] then allN ls + 1 else overN ls n') * (ls.length + 1) ≤ (allN ls + 1) * (ls.length + 1) := Nat.mul_le_mul_right _ (by have := over_le ls n'; split <;> omega)
  have h3 : (allN ls + 2) * (ls.length + 1) = (allN ls + 1) * (ls.length + 1) + (ls.length + 1) := by rw [← Nat.succ_mul]
  rw [Nat.succ_mul] at h1
  unfold mu
  omega
theorem mu_over {ls : List (List Int)} {ats ats' : List Nat} {s s' : Nat} {n n' : Int} {o o' : List Int} (h : leftN ls ats' ≤ leftN ls ats)
    (h2 : (if s' = 0 ∧ o' = [] then allN ls + 1 else overN ls n') < (if s = 0 ∧ o = [] then allN ls + 1 else overN ls n)) : mu ls ats' s' n' o' < mu ls ats s n o := by
  have h1 : leftN ls ats' * ((allN ls + 2) * (ls.length + 1)) ≤ leftN ls ats * ((allN ls + 2) * (ls.length + 1)) := Nat.mul_le_mul_right _ h
  have h3 : ((if s' = 0 ∧ o' = [] then allN ls + 1 else overN ls n') + 1) * (ls.length + 1) ≤ (if s = 0 ∧ o = [] then allN ls + 1 else overN ls n) * (ls.length + 1) := Nat.mul_le_mul_right _ h2
  rw [Nat.succ_mul] at h3
  unfold mu
  omega
theorem mu_same {ls : List (List Int)} {ats ats' : List Nat} {s s' : Nat} {n n' : Int} {o o' : List Int} (h : leftN ls ats' ≤ leftN ls ats)
    (h2 : (if s' = 0 ∧ o' = [] then allN ls + 1 else overN ls n') ≤ (if s = 0 ∧ o = [] then allN ls + 1 else overN ls n)) (h3 : s < s') (h4 : s < ls.length) : mu ls ats' s' n' o' < mu ls ats s n o := by
  have h1 : leftN ls ats' * ((allN ls + 2) * (ls.length + 1)) ≤ leftN ls ats * ((allN ls + 2) * (ls.length + 1)) := Nat.mul_le_mul_right _ h
  have h5 : (if s' = 0 ∧ o' = [] then allN ls + 1 else overN ls n') * (ls.length + 1) ≤ (if s = 0 ∧ o = [] then allN ls + 1 else overN ls n) * (ls.length + 1) := Nat.mul_le_mul_right _ h2
  unfold mu
  omega
theorem mu_step {ls : List (List Int)} (hup : ∀ l ∈ ls, Up l) {k : Nat} {ats : List Nat} {same : Nat} {n : Int} {out : List Int} (h : MeetI ls k ats same n out) (v : Int)
    (hv : (ls.getD k [])[placeL ls k ats same n]? = some v) (same' : Nat) (hs' : same' = if same = 0 ∨ v ≠ n then 1 else same + 1) (hlt : same' < ls.length) :
    mu ls (ats.set k (placeL ls k ats same n)) same' v out < mu ls ats same n out := by
  have hl := (left_set ls ats k (placeL ls k ats same n) h.len h.kl place_ge).1
  have hs1 : ¬ (same' = 0 ∧ out = []) := by rintro ⟨e, _⟩; split at hs' <;> omega
  have hov := over_le ls v
  by_cases h0 : same = 0
  · rw [if_pos (.inl h0)] at hs'
    refine mu_same hl ?_ (by omega) (by have := h.kl; omega)
    rw [if_neg hs1]
    by_cases ho : out = []
    · rw [if_pos ⟨h0, ho⟩]; omega
    · rw [if_neg (fun e => ho e.2)]
      refine over_mono ls (h.low h0 ho k h.kl v ?_)
      exact (mem_drop_iff _ _ _).2 ⟨_, place_ge, hv⟩
  · by_cases hvn : v = n
    · rw [if_neg (by simp [h0, hvn])] at hs'
      refine mu_same hl ?_ (by omega) (by have := h.sl; omega)
      rw [if_neg hs1, if_neg (fun e => h0 e.1), hvn]
      exact Nat.le_refl _
    · have hge : n ≤ v := by
        unfold placeL at hv
        rw [if_pos (by omega)] at hv
        exact seekL_at _ _ _ _ hv
      refine mu_over hl ?_
      rw [if_neg hs1, if_neg (fun e => h0 e.1)]
      exact over_less ls (by omega) k h.kl (List.mem_of_getElem? hv)
theorem mu_tell {ls : List (List Int)} {k : Nat} {ats : List Nat} {same : Nat} {n : Int} {out : List Int} (h : MeetI ls k ats same n out) (v : Int)
    (hv : (ls.getD k [])[placeL ls k ats same n]? = some v) (s' : Nat) (n' : Int) (o' : List Int) : mu ls (ats.set k (placeL ls k ats same n + 1)) s' n' o' < mu ls ats same n out := by
  have hp := place_ge (ls := ls) (k := k) (ats := ats) (same := same) (n := n)
  have hkl := (List.getElem?_eq_some_iff.1 hv).1
  exact mu_left ((left_set ls ats k (placeL ls k ats same n + 1) h.len h.kl (by omega)).2 (by omega) (by omega))
end Go.Proofs.Ytgaiedcjcoebeaa
