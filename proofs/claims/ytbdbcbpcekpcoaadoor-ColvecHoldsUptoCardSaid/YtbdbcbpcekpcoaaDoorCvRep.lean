/- A column and the values that it has; At of anything. -/
import Derived.Test.YtbdbcbpcekpcoaaDoorCvAtP
import Derived.Test.YtbdbcbpcekpcoaaDoorCvDi
set_option linter.unusedVariables false
set_option linter.unusedSimpArgs false
namespace Go.Proofs.YtbdbcbpcekpcoaaDoor
open Go.RowKit Go.Maps

/-- The paths of values, one behind the other. -/
def hpL (vs : List V5) : List Int := vs.flatMap (·.p)
theorem hpL_snoc (vs : List V5) (v : V5) : hpL (vs ++ [v]) = hpL vs ++ v.p := by simp [hpL]
/-- A column has these values. -/
structure Rep (k : Int) (S : VS) (vs : List V5) : Prop where
  kind : S.k = k
  nulls : S.nl = vs.map fun v => v.k == 0
  bools : k = 1 → S.bl = vs.map (·.b)
  ints : (k = 2 ∨ k = 4 ∨ k = 5) → S.il = vs.map (·.n)
  texts : k = 3 → S.il.length = vs.length ∧ ∀ i, i < vs.length → (vs.getD i V5.zero).k = 3 → ∃ q, S.il.getD i 0 = ((q : Nat) : Int) ∧ q < S.dl.length ∧ S.dl.getD q ByteArray.empty = (vs.getD i V5.zero).s
  paths : k = 6 → S.hp = hpL vs ∧ S.il.length = vs.length ∧ ∀ i, i < vs.length → S.il.getD i 0 = ((hpL (vs.take (i + 1))).length : Int)
theorem rep_new (k : Int) : Rep k (VS.new k) [] :=
  ⟨rfl, rfl, fun _ => rfl, fun _ => rfl, fun _ => ⟨rfl, fun i hi => absurd hi (by simp)⟩, fun _ => ⟨rfl, rfl, fun i hi => absurd hi (by simp)⟩⟩
theorem getD_snoc_lt {α : Type} (l : List α) (x d : α) (i : Nat) (h : i < l.length) : (l ++ [x]).getD i d = l.getD i d := by
  rw [List.getD_eq_getElem?_getD, List.getD_eq_getElem?_getD, List.getElem?_append_left h]
theorem getD_snoc_eq {α : Type} (l : List α) (x d : α) : (l ++ [x]).getD l.length d = x := by
  simp [List.getD]
theorem idx_at (l : List ByteArray) (t : ByteArray) (h : t.data.toList ∈ keysL l) : (keysL l).idxOf t.data.toList < l.length ∧ l.getD ((keysL l).idxOf t.data.toList) ByteArray.empty = t := by
  have h1 := List.idxOf_lt_length_of_mem h
  have hl : (keysL l).length = l.length := by simp [keysL]
  have h2 := List.getElem_idxOf h1
  refine ⟨by omega, ?_⟩
  have h3 : (keysL l).idxOf t.data.toList < l.length := by omega
  rw [List.getD_eq_getElem?_getD, List.getElem?_eq_getElem h3]
  simp only [Option.getD_some]
  apply ba_ext
  refine Eq.trans ?_ h2
  exact (List.getElem_map (fun s : ByteArray => s.data.toList)).symm
theorem rep_push {k : Int} {S : VS} {vs : List V5} (hk : 1 ≤ k ∧ k ≤ 6) (h : Rep k S vs) (v : V5) (hf : fitsV k v = true) : Rep k (pushV S v) (vs ++ [v]) := by
  have hfk : v.k = k ∨ v.k = 0 := by
    unfold fitsV at hf
    simp only [Bool.and_eq_true, Bool.or_eq_true, beq_iff_eq] at hf
    exact hf.2
  have hS := h.kind
  refine ⟨by rw [push_k]; exact hS, by rw [push_len, h.nulls, List.map_append]; rfl, fun e => ?_, fun e => ?_, fun e => ?_, fun e => ?_⟩
  · rw [pushV, if_neg (by omega), if_pos (by omega)]
    simp only [h.bools e, List.map_append]
    rfl
  · rw [pushV, if_neg (by omega), if_neg (by omega), if_neg (by omega)]
    simp only [h.ints e, List.map_append]
    rfl
  · obtain ⟨hl, hq⟩ := h.texts e
    rw [pushV, if_neg (by omega), if_neg (by omega)]
    by_cases h3 : v.k = 3
    · rw [if_pos h3]
      refine ⟨by simp [hl], fun i hi h3' => ?_⟩
      rw [List.length_append, List.length_cons, List.length_nil] at hi
      by_cases hlt : i < vs.length
      · rw [getD_snoc_lt _ _ _ _ hlt] at h3' ⊢
        rw [getD_snoc_lt _ _ _ _ (by omega)]
        obtain ⟨q, h1, h2, h4⟩ := hq i hlt h3'
        refine ⟨q, h1, ?_, ?_⟩
        · dsimp only
          split
          · exact h2
          · rw [List.length_append]; omega
        · dsimp only
          split
          · exact h4
          · rw [getD_snoc_lt _ _ _ _ h2]; exact h4
      · obtain rfl : i = vs.length := by omega
        rw [getD_snoc_eq]
        dsimp only
        rw [← hl, getD_snoc_eq]
        by_cases hin : v.s.data.toList ∈ keysL S.dl
        · rw [if_pos hin]
          obtain ⟨g1, g2⟩ := idx_at S.dl v.s hin
          exact ⟨_, rfl, g1, g2⟩
        · rw [if_neg hin, idx_none S.dl _ hin]
          exact ⟨_, rfl, by simp, getD_snoc_eq _ _ _⟩
    · rw [if_neg h3]
      refine ⟨by simp [hl], fun i hi h3' => ?_⟩
      rw [List.length_append, List.length_cons, List.length_nil] at hi
      by_cases hlt : i < vs.length
      · rw [getD_snoc_lt _ _ _ _ hlt] at h3' ⊢
        rw [getD_snoc_lt _ _ _ _ (by omega)]
        exact hq i hlt h3'
      · obtain rfl : i = vs.length := by omega
        rw [getD_snoc_eq] at h3'
        exact absurd h3' h3
  · obtain ⟨hh, hl, hi⟩ := h.paths e
    rw [pushV, if_pos (by omega)]
    refine ⟨by rw [hpL_snoc]; simp only [hh], by simp [hl], fun i hi' => ?_⟩
    rw [List.length_append, List.length_cons, List.length_nil] at hi'
    by_cases hlt : i < vs.length
    · rw [getD_snoc_lt _ _ _ _ (by omega), List.take_append_of_le_length (by omega)]
      exact hi i hlt
    · obtain rfl : i = vs.length := by omega
      rw [← hl, getD_snoc_eq, hl, List.take_of_length_le (by simp), hpL_snoc, hh]
theorem rep_ofL (k : Int) (hk : 1 ≤ k ∧ k ≤ 6) : ∀ (n : Nat) (vs : List V5), vs.length = n → (∀ v ∈ vs, fitsV k v = true) → Rep k (ofL k vs) vs
  | 0, vs, h, _ => by
    obtain rfl : vs = [] := List.length_eq_zero_iff.1 h
    exact rep_new k
  | n + 1, vs, h, hf => by
    rcases List.eq_nil_or_concat vs with rfl | ⟨r, v, rfl⟩
    · simp at h
    · rw [List.concat_eq_append] at h hf ⊢
      have e : ofL k (r ++ [v]) = pushV (ofL k r) v := by rw [ofL, ofL, List.foldl_append]; rfl
      rw [e]
      exact rep_push hk (rep_ofL k hk n r (by simpa using h) (fun u hu => hf u (by simp [hu]))) v (hf v (by simp))
/-- Two values are alike, but for where a path lies. -/
def Eq5 (u v : V5) : Prop := u.k = v.k ∧ u.n = v.n ∧ u.b = v.b ∧ u.s = v.s ∧ u.p = v.p
theorem path_part (vs : List V5) (i : Nat) (hi : i < vs.length) : ((hpL vs).drop (hpL (vs.take i)).length).take ((hpL (vs.take (i + 1))).length - (hpL (vs.take i)).length) = (vs.getD i V5.zero).p ∧ (hpL (vs.take (i + 1))).length = (hpL (vs.take i)).length + (vs.getD i V5.zero).p.length ∧ (hpL (vs.take (i + 1))).length ≤ (hpL vs).length := by
  have e1 : vs.take (i + 1) = vs.take i ++ [vs.getD i V5.zero] := by
    rw [List.take_add_one, List.getD_eq_getElem?_getD, List.getElem?_eq_getElem hi]
    rfl
  have e2 : hpL (vs.take (i + 1)) = hpL (vs.take i) ++ (vs.getD i V5.zero).p := by rw [e1, hpL_snoc]
  have e3 : hpL vs = hpL (vs.take i) ++ ((vs.getD i V5.zero).p ++ hpL (vs.drop (i + 1))) := by
    have : vs = vs.take (i + 1) ++ vs.drop (i + 1) := (List.take_append_drop _ _).symm
    have h2 : hpL vs = hpL (vs.take (i + 1)) ++ hpL (vs.drop (i + 1)) := by
      rw [hpL, hpL, hpL, ← List.flatMap_append, List.take_append_drop]
    rw [h2, e2, List.append_assoc]
  refine ⟨?_, by rw [e2, List.length_append], ?_⟩
  · rw [e2, List.length_append, Nat.add_sub_cancel_left]
    conv => lhs; arg 2; rw [e3]
    rw [List.drop_left, List.take_left]
  · rw [e2]
    conv => rhs; rw [e3]
    simp only [List.length_append]
    omega
end Go.Proofs.YtbdbcbpcekpcoaaDoor
