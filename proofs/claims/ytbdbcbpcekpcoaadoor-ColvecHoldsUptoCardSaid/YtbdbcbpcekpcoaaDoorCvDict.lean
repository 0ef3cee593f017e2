/- The texts' places, as a map holds them: no program in sight. -/
import Derived.Test.YtbdbcbpcekpcoaaDoorCvVec
import Derived.Maps.Views
import Derived.Maps.OwnSet
set_option linter.unusedVariables false
set_option linter.unusedSimpArgs false
namespace Go.Proofs.YtbdbcbpcekpcoaaDoor
open Go.RowKit Go.Maps

def keysL (l : List ByteArray) : List (List UInt8) := l.map fun s => s.data.toList
theorem keysL_snoc (l : List ByteArray) (t : ByteArray) : keysL (l ++ [t]) = keysL l ++ [t.data.toList] := by simp [keysL]
theorem dictD_snoc : ∀ (l : List ByteArray) (t : ByteArray) (i : Nat) (D : DataW Unit), dictD (l ++ [t]) i D = (dictD l i D).put (.string t.data.toList) (.lit (.int .i64 ((i + l.length : Nat) : Int)))
  | [], t, i, D => by simp [dictD]
  | u :: r, t, i, D => by
    rw [List.cons_append, dictD, dictD, dictD_snoc r t (i + 1) _]
    congr 3
    rw [List.length_cons]
    congr 1
    omega
theorem dictD_isMap : ∀ (l : List ByteArray) (i : Nat) (D : DataW Unit), IsMap D → IsMap (dictD l i D)
  | [], _, D, h => h
  | u :: r, i, D, h => dictD_isMap r (i + 1) _ (h.put _ _)
theorem dict_has : ∀ (n : Nat) (l : List ByteArray) (t : List UInt8), l.length = n → Maps.has (dictD l 0 (.map [])) (.string t) = decide (t ∈ keysL l)
  | 0, l, t, h => by
    obtain rfl : l = [] := List.length_eq_zero_iff.1 h
    rfl
  | n + 1, l, t, h => by
    rcases List.eq_nil_or_concat l with rfl | ⟨r, u, rfl⟩
    · simp at h
    · rw [List.concat_eq_append] at h ⊢
      rw [dictD_snoc, keysL_snoc]
      by_cases hu : t = u.data.toList
      · subst hu
        rw [has_put_same (dictD_isMap _ _ _ isMap_empty) (by trivial)]
        simp
      · rw [has_put_other (by intro e; cases e; exact hu rfl), dict_has n r t (by simpa using h)]
        simp [hu]
theorem dict_at : ∀ (n : Nat) (l : List ByteArray) (t : List UInt8) (z : DataW Unit), l.length = n → (keysL l).Nodup → t ∈ keysL l → (dictD l 0 (.map [])).atKey (.string t) z = .lit (.int .i64 ((keysL l).idxOf t : Int))
  | 0, l, t, z, h, _, ht => by
    obtain rfl : l = [] := List.length_eq_zero_iff.1 h
    cases ht
  | n + 1, l, t, z, h, hn, ht => by
    rcases List.eq_nil_or_concat l with rfl | ⟨r, u, rfl⟩
    · simp at h
    · rw [List.concat_eq_append] at h hn ht ⊢
      rw [keysL_snoc] at hn ht ⊢
      rw [dictD_snoc]
      have hl : (keysL r).length = r.length := by simp [keysL]
      by_cases hu : t = u.data.toList
      · subst hu
        have hnot : u.data.toList ∉ keysL r := fun hm => by
          rw [List.nodup_append] at hn
          exact hn.2.2 _ hm _ (by simp) rfl
        rw [atKey_put_same (dictD_isMap _ _ _ isMap_empty) (by trivial), List.idxOf_append, if_neg hnot, hl]
        simp
      · have htr : t ∈ keysL r := by
          rw [List.mem_append] at ht
          rcases ht with ht | ht
          · exact ht
          · simp at ht
            exact absurd ht hu
        rw [atKey_put_other (by intro e; cases e; exact hu rfl), dict_at n r t z (by simpa using h) (List.nodup_append.1 hn).1 htr, List.idxOf_append, if_pos htr]
theorem idx_none (l : List ByteArray) (t : List UInt8) (h : t ∉ keysL l) : (keysL l).idxOf t = l.length := by
  rw [List.idxOf_eq_length h]
  simp [keysL]
end Go.Proofs.YtbdbcbpcekpcoaaDoor
