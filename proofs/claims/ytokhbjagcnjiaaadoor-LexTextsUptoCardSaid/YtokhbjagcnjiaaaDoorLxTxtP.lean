/- Any text that may be, between quotes, is read as it: no program in sight. -/
import Derived.Test.YtokhbjagcnjiaaaDoorLxRa
import Derived.Test.YtokhbjagcnjiaaaDoorLxQuoR
set_option linter.unusedVariables false
set_option linter.unusedSimpArgs false
namespace Go.Proofs.YtokhbjagcnjiaaaDoor
open Go.RowKit

theorem qtext_valid : ∀ (f : Nat) (l : List UInt8), l.length ≤ f → Lib.validD l = true → Lib.validD (qtext l) = true
  | 0, l, hl, _ => by
    obtain rfl : l = [] := List.length_eq_zero_iff.1 (by omega)
    rfl
  | f + 1, [], _, _ => rfl
  | f + 1, b :: t, hl, hv => by
    have hne : (b :: t) ≠ [] := by simp
    rw [Lib.validD_step _ hne] at hv
    by_cases hbad : (Lib.decodeL (b :: t)).1 = 65533 ∧ (Lib.decodeL (b :: t)).2 = 1
    · rw [if_pos hbad] at hv; cases hv
    rw [if_neg hbad] at hv
    have hw := Lib.decodeL_width (b :: t)
    have ih := qtext_valid f _ (by rw [List.length_drop]; simp at hl ⊢; omega) hv
    by_cases hlow : b.toNat < 128
    · rw [Lib.decodeL_ascii b t hlow] at ih
      simp only [List.drop_succ_cons, List.drop_zero] at ih
      rw [qtext]
      unfold qbyte
      split
      · rw [List.cons_append, List.cons_append, List.nil_append, Lib.validD_cons 92 _ (by decide), Lib.validD_cons b _ hlow]
        exact ih
      split
      · rw [List.cons_append, List.cons_append, List.nil_append, Lib.validD_cons 92 _ (by decide), Lib.validD_cons 110 _ (by decide)]
        exact ih
      · rw [List.cons_append, List.nil_append, Lib.validD_cons b _ hlow]
        exact ih
    · have hhi := decodeL_high b t hlow
      have he := Lib.encode_decode (b :: t) hne hbad
      have hle := Lib.decodeL_le (b :: t) hne
      have hh : ∀ x ∈ (b :: t).take (Lib.decodeL (b :: t)).2, 128 ≤ x.toNat := by
        rw [← he]
        exact encode_high _ (by omega)
      have hlen : ((b :: t).take (Lib.decodeL (b :: t)).2).length = (Lib.decodeL (b :: t)).2 := by rw [List.length_take]; omega
      have e1 := decode_keeps b t (qtext ((b :: t).drop (Lib.decodeL (b :: t)).2)) hbad
      conv => lhs; rw [← List.take_append_drop (Lib.decodeL (b :: t)).2 (b :: t)]
      rw [qtext_append, qtext_high _ hh]
      have hne2 : (b :: t).take (Lib.decodeL (b :: t)).2 ++ qtext ((b :: t).drop (Lib.decodeL (b :: t)).2) ≠ [] := by
        intro h
        have := congrArg List.length h
        rw [List.length_append, hlen] at this
        simp at this
        omega
      rw [Lib.validD_step _ hne2, ← e1, if_neg hbad, List.drop_left' hlen]
      exact ih
/-- What stands between quotes is read back, byte by byte. -/
theorem textR_qtext (L : List UInt8) : ∀ (l : List UInt8) (n : Nat) (acc : List UInt8), textR L (qtext l ++ [39]) n acc = if Lib.validD (L.take (n + (qtext l).length)) then (acc ++ l, n + (qtext l).length + 1) else ([], 0)
  | [], n, acc => by
    rw [qtext, List.nil_append, textR_cons, if_pos rfl]
    simp
  | b :: t, n, acc => by
    rw [qtext]
    unfold qbyte
    split
    · rename_i h
      show textR L (92 :: b :: (qtext t ++ [39])) n acc = (if Lib.validD (L.take (n + (92 :: b :: qtext t).length)) then (acc ++ b :: t, n + (92 :: b :: qtext t).length + 1) else ([], 0))
      rw [textR_cons, if_neg (by decide), if_pos rfl]
      simp only
      rw [if_pos h, textR_qtext L t]
      simp only [List.length_cons, List.append_assoc, List.cons_append, List.nil_append]
      rw [show n + 2 + (qtext t).length = n + ((qtext t).length + 1 + 1) by omega]
    · rename_i h
      split
      · rename_i h10
        subst h10
        show textR L (92 :: 110 :: (qtext t ++ [39])) n acc = (if Lib.validD (L.take (n + (92 :: 110 :: qtext t).length)) then (acc ++ 10 :: t, n + (92 :: 110 :: qtext t).length + 1) else ([], 0))
        rw [textR_cons, if_neg (by decide), if_pos rfl]
        simp only
        rw [if_neg (by decide), if_pos trivial, textR_qtext L t]
        simp only [List.length_cons, List.append_assoc, List.cons_append, List.nil_append]
        rw [show n + 2 + (qtext t).length = n + ((qtext t).length + 1 + 1) by omega]
      · show textR L (b :: (qtext t ++ [39])) n acc = (if Lib.validD (L.take (n + (b :: qtext t).length)) then (acc ++ b :: t, n + (b :: qtext t).length + 1) else ([], 0))
        rw [textR_cons, if_neg (fun e => h (.inl e)), if_neg (fun e => h (.inr e)), textR_qtext L t]
        simp only [List.length_cons, List.append_assoc, List.cons_append, List.nil_append]
        rw [show n + 1 + (qtext t).length = n + ((qtext t).length + 1) by omega]
/-- The law, without the program. -/
theorem texts_plain (l : List UInt8) (hv : Lib.validD l = true) (hq : (quoR l).length ≤ 4096) : lexL (quoR l) = ([(4, l, 0, 0)], 0, 0) := by
  have hql : quotL (quoR l) = (l, (qtext l).length + 2) := by
    unfold quoR
    rw [← text_quot, textR_qtext, if_pos]
    · simp; omega
    · rw [Nat.add_comm, List.take_succ_cons, List.take_left', Lib.validD_cons 39 _ (by decide)]
      · exact qtext_valid _ l (Nat.le_refl _) hv
      · rfl
  have hlen : (quoR l).length = (qtext l).length + 2 := by simp [quoR]
  have hd : (Lib.decodeL (quoR l)).1 = 39 := by unfold quoR; rw [Lib.decodeL_ascii 39 _ (by decide)]; rfl
  have hw : ∀ p, wordL (quoR l) p = (0, (4, l, 0, p), (qtext l).length + 2) := fun p => by
    rw [wordL, hd, if_neg (by decide), if_neg (by decide), if_pos rfl, hql, if_neg (by simp)]
  rw [lexL, if_neg (by omega), hlen]
  have hc : quoR l = 39 :: (qtext l ++ [39]) := rfl
  rw [hc, lexF_word _ _ _ _ _ (by decide), ← hc, hw, if_neg (by simp)]
  simp only [List.nil_append]
  rw [lexF, show (quoR l).drop ((qtext l).length + 2) = [] from List.drop_of_length_le (by omega), List.drop_nil, if_pos rfl]
  rfl
end Go.Proofs.YtokhbjagcnjiaaaDoor
