/- The reference's text is the lexer's: no program in sight. -/
import Derived.Test.YtokhbjagcnjiaaaDoorLxR7
import Derived.Test.YtokhbjagcnjiaaaDoorQuoP
import Derived.Test.YtokhbjagcnjiaaaDoorLxR5
set_option linter.unusedVariables false
set_option linter.unusedSimpArgs false
namespace Go.Proofs.YtokhbjagcnjiaaaDoor
open Go.RowKit

/-- What is read whole out of a text's beginning is what is read out of the text. -/
theorem decodeL_pre (l : List UInt8) (k : Nat) (hk : 1 ≤ k) (hkl : k ≤ l.length) (h : ¬ ((Lib.decodeL (l.take k)).1 = 65533 ∧ (Lib.decodeL (l.take k)).2 = 1)) : Lib.decodeL l = Lib.decodeL (l.take k) := by
  revert h
  rw [Lib.decodeL_N l, Lib.decodeL_N (l.take k)]
  match l, k, hk, hkl with
  | [], k, h1, h2 => simp at h2; omega
  | b0 :: t, 1, _, _ =>
    show ¬ ((Lib.decodeN 1 b0.toNat 0 0 0).1 = 65533 ∧ (Lib.decodeN 1 b0.toNat 0 0 0).2 = 1) → Lib.decodeN (t.length + 1) b0.toNat _ _ _ = Lib.decodeN 1 b0.toNat 0 0 0
    intro h
    by_cases h0 : b0.toNat < 128
    · simp [Lib.decodeN, h0]
    · exact absurd (by simp [Lib.decodeN, h0]) h
  | b0 :: b1 :: t, 2, _, _ =>
    show ¬ ((Lib.decodeN 2 b0.toNat b1.toNat 0 0).1 = 65533 ∧ (Lib.decodeN 2 b0.toNat b1.toNat 0 0).2 = 1) → Lib.decodeN (t.length + 1 + 1) b0.toNat b1.toNat _ _ = Lib.decodeN 2 b0.toNat b1.toNat 0 0
    intro h
    by_cases h0 : b0.toNat < 128
    · simp [Lib.decodeN, h0]
    by_cases h1 : b0.toNat / 32 = 6 ∧ b1.toNat / 64 = 2
    · simp [Lib.decodeN, h0, h1]
    · exact absurd (by simp [Lib.decodeN, h0, h1]) h
  | b0 :: b1 :: b2 :: t, 3, _, _ =>
    show ¬ ((Lib.decodeN 3 b0.toNat b1.toNat b2.toNat 0).1 = 65533 ∧ (Lib.decodeN 3 b0.toNat b1.toNat b2.toNat 0).2 = 1) → Lib.decodeN (t.length + 1 + 1 + 1) b0.toNat b1.toNat b2.toNat _ = Lib.decodeN 3 b0.toNat b1.toNat b2.toNat 0
    intro h
    by_cases h0 : b0.toNat < 128
    · simp [Lib.decodeN, h0]
    by_cases h1 : b0.toNat / 32 = 6 ∧ b1.toNat / 64 = 2
    · simp [Lib.decodeN, h0, h1]
    by_cases h2 : b0.toNat / 16 = 14 ∧ b1.toNat / 64 = 2 ∧ b2.toNat / 64 = 2
    · have e : ¬ b0.toNat / 32 = 6 := by omega
      simp [Lib.decodeN, h0, h2, e]
    · exact absurd (by simp [Lib.decodeN, h0, h1, h2]) h
  | b0 :: b1 :: b2 :: b3 :: t, k + 4, _, hk =>
    intro h
    show Lib.decodeN (t.length + 1 + 1 + 1 + 1) b0.toNat b1.toNat b2.toNat b3.toNat = Lib.decodeN ((t.take k).length + 1 + 1 + 1 + 1) b0.toNat b1.toNat b2.toNat b3.toNat
    simp [Lib.decodeN]
theorem decodeN_w1 (n b0 b1 b2 b3 : Nat) (h : (Lib.decodeN n b0 b1 b2 b3).2 = 1) (h0 : ¬ b0 < 128) : (Lib.decodeN n b0 b1 b2 b3).1 = 65533 := by
  unfold Lib.decodeN at h ⊢
  repeat' split
  all_goals simp_all
theorem decodeN_w2 (n b0 b1 b2 b3 : Nat) (h : (Lib.decodeN n b0 b1 b2 b3).2 = 2) : Lib.decodeN 2 b0 b1 0 0 = Lib.decodeN n b0 b1 b2 b3 := by
  by_cases h0 : b0 < 128
  · simp [Lib.decodeN, h0] at h
  by_cases h1 : b0 / 32 = 6 ∧ (1 < n ∧ b1 / 64 = 2)
  · simp [Lib.decodeN, h0, h1]
  · exfalso
    unfold Lib.decodeN at h
    rw [if_neg h0, if_neg h1] at h
    repeat' split at h
    all_goals simp at h
theorem decodeN_w3 (n b0 b1 b2 b3 : Nat) (h : (Lib.decodeN n b0 b1 b2 b3).2 = 3) : Lib.decodeN 3 b0 b1 b2 0 = Lib.decodeN n b0 b1 b2 b3 := by
  by_cases h0 : b0 < 128
  · simp [Lib.decodeN, h0] at h
  by_cases h1 : b0 / 32 = 6 ∧ (1 < n ∧ b1 / 64 = 2)
  · exfalso
    unfold Lib.decodeN at h
    rw [if_neg h0, if_pos h1] at h
    split at h <;> simp at h
  by_cases h2 : b0 / 16 = 14 ∧ (1 < n ∧ b1 / 64 = 2) ∧ (2 < n ∧ b2 / 64 = 2)
  · have e : ¬ b0 / 32 = 6 := by omega
    simp [Lib.decodeN, h0, h2, e]
  · exfalso
    unfold Lib.decodeN at h
    rw [if_neg h0, if_neg h1, if_neg h2] at h
    repeat' split at h
    all_goals simp at h
theorem decodeN_w4 (n b0 b1 b2 b3 : Nat) (h : (Lib.decodeN n b0 b1 b2 b3).2 = 4) : Lib.decodeN 4 b0 b1 b2 b3 = Lib.decodeN n b0 b1 b2 b3 := by
  by_cases h0 : b0 < 128
  · simp [Lib.decodeN, h0] at h
  by_cases h1 : b0 / 32 = 6 ∧ (1 < n ∧ b1 / 64 = 2)
  · exfalso
    unfold Lib.decodeN at h
    rw [if_neg h0, if_pos h1] at h
    split at h <;> simp at h
  by_cases h2 : b0 / 16 = 14 ∧ (1 < n ∧ b1 / 64 = 2) ∧ (2 < n ∧ b2 / 64 = 2)
  · exfalso
    unfold Lib.decodeN at h
    rw [if_neg h0, if_neg h1, if_pos h2] at h
    split at h <;> simp at h
  by_cases h3 : b0 / 8 = 30 ∧ (1 < n ∧ b1 / 64 = 2) ∧ (2 < n ∧ b2 / 64 = 2) ∧ (3 < n ∧ b3 / 64 = 2)
  · have e : ¬ b0 / 32 = 6 := by omega
    have e2 : ¬ b0 / 16 = 14 := by omega
    simp [Lib.decodeN, h0, h3, e, e2]
  · exfalso
    unfold Lib.decodeN at h
    rw [if_neg h0, if_neg h1, if_neg h2, if_neg h3] at h
    simp at h
theorem decodeN_w5 (n b0 b1 b2 b3 : Nat) : (Lib.decodeN n b0 b1 b2 b3).2 ≤ 4 := by
  unfold Lib.decodeN
  repeat' split
  all_goals simp
theorem decodeL_own (l : List UInt8) (hne : l ≠ []) (h : ¬ ((Lib.decodeL l).1 = 65533 ∧ (Lib.decodeL l).2 = 1)) : Lib.decodeL (l.take (Lib.decodeL l).2) = Lib.decodeL l := by
  have hle := Lib.decodeL_le l hne
  have hw := Lib.decodeL_width l
  obtain ⟨b, t, rfl⟩ : ∃ b t, l = b :: t := by cases l with | nil => exact absurd rfl hne | cons b t => exact ⟨b, t, rfl⟩
  have h5 : (Lib.decodeL (b :: t)).2 ≤ 4 := by rw [Lib.decodeL_N]; exact decodeN_w5 _ _ _ _ _
  by_cases h0 : b.toNat < 128
  · rw [Lib.decodeL_ascii b t h0]
    exact Lib.decodeL_ascii b [] h0
  obtain ⟨k, hk⟩ : ∃ k, (Lib.decodeL (b :: t)).2 = k := ⟨_, rfl⟩
  rw [hk] at h hle hw h5 ⊢
  have hN := Lib.decodeL_N (b :: t)
  rcases (show k = 1 ∨ k = 2 ∨ k = 3 ∨ k = 4 by omega) with rfl | rfl | rfl | rfl
  · rw [hN] at hk h
    exact absurd ⟨decodeN_w1 _ _ _ _ _ hk h0, rfl⟩ h
  · rw [hN] at hk
    rw [Lib.decodeL_N, hN, ← decodeN_w2 _ _ _ _ _ hk]
    match t, hle with
    | b1 :: t, _ => rfl
  · rw [hN] at hk
    rw [Lib.decodeL_N, hN, ← decodeN_w3 _ _ _ _ _ hk]
    match t, hle with
    | b1 :: b2 :: t, _ => rfl
    | [_], hle => simp at hle
  · rw [hN] at hk
    rw [Lib.decodeL_N, hN, ← decodeN_w4 _ _ _ _ _ hk]
    match t, hle with
    | b1 :: b2 :: b3 :: t, _ => rfl
    | [_, _], hle => simp at hle
    | [_], hle => simp at hle
theorem decode_keeps (b : UInt8) (t x : List UInt8) (h : ¬ ((Lib.decodeL (b :: t)).1 = 65533 ∧ (Lib.decodeL (b :: t)).2 = 1)) : Lib.decodeL (b :: t) = Lib.decodeL ((b :: t).take (Lib.decodeL (b :: t)).2 ++ x) := by
  have hne : (b :: t) ≠ [] := by simp
  have hle := Lib.decodeL_le (b :: t) hne
  have hw := Lib.decodeL_width (b :: t)
  have e1 : Lib.decodeL ((b :: t).take (Lib.decodeL (b :: t)).2) = Lib.decodeL (b :: t) := by
    exact decodeL_own _ hne h
  have hlen : ((b :: t).take (Lib.decodeL (b :: t)).2).length = (Lib.decodeL (b :: t)).2 := by rw [List.length_take]; omega
  have e2 := decodeL_pre ((b :: t).take (Lib.decodeL (b :: t)).2 ++ x) (Lib.decodeL (b :: t)).2 hw (by rw [List.length_append, hlen]; omega)
  rw [List.take_left' hlen, e1] at e2
  exact (e2 h).symm
theorem dead_pre (b : UInt8) (t : List UInt8) (h : (Lib.decodeL (b :: t)).1 = 65533 ∧ (Lib.decodeL (b :: t)).2 = 1) (k : Nat) (hk : 1 ≤ k) : Lib.validD ((b :: t).take k) = false := by
  have hne : (b :: t).take k ≠ [] := by
    obtain ⟨j, rfl⟩ : ∃ j, k = j + 1 := ⟨k - 1, by omega⟩
    simp
  rw [Lib.validD_step _ hne]
  by_cases hkl : k ≤ (b :: t).length
  · by_cases hb : (Lib.decodeL ((b :: t).take k)).1 = 65533 ∧ (Lib.decodeL ((b :: t).take k)).2 = 1
    · rw [if_pos hb]
    · rw [decodeL_pre _ k hk hkl hb] at h
      exact absurd h hb
  · rw [List.take_of_length_le (by omega), if_pos h]
/-- Nothing is read where no beginning is UTF-8. -/
theorem textR_dead (L : List UInt8) : ∀ (m : Nat) (l : List UInt8) (n : Nat) (acc : List UInt8), l.length ≤ m → (∀ i, n ≤ i → Lib.validD (L.take i) = false) → textR L l n acc = ([], 0)
  | _, [], n, acc, _, _ => textR_nil L n acc
  | 0, c :: t, n, acc, hm, _ => by simp at hm
  | m + 1, c :: t, n, acc, hm, h => by
    rw [textR_cons]
    have hm2 : t.length ≤ m := by simp at hm; exact hm
    split
    · rw [h n (Nat.le_refl _), if_neg (by simp)]
    split
    · split
      · rfl
      · rename_i d t'
        have hm3 : t'.length ≤ m := by simp at hm2; omega
        have h2 : ∀ acc', textR L t' (n + 2) acc' = ([], 0) := fun acc' => textR_dead L m t' (n + 2) acc' hm3 (fun i hi => h i (by omega))
        split
        · exact h2 _
        split
        · exact h2 _
        · rfl
    · exact textR_dead L m t (n + 1) _ hm2 (fun i hi => h i (by omega))
theorem textR_high (L : List UInt8) : ∀ (hs t : List UInt8) (n : Nat) (acc : List UInt8), (∀ x ∈ hs, 128 ≤ x.toNat) → textR L (hs ++ t) n acc = textR L t (n + hs.length) (acc ++ hs)
  | [], t, n, acc, _ => by simp
  | x :: hs, t, n, acc, h => by
    have hx := h x (by simp)
    have h39 : x ≠ 39 := by rintro rfl; exact absurd hx (by decide)
    have h92 : x ≠ 92 := by rintro rfl; exact absurd hx (by decide)
    rw [List.cons_append, textR_cons, if_neg h39, if_neg h92, textR_high L hs t (n + 1) _ (fun y hy => h y (by simp [hy]))]
    congr 1
    · simp; omega
    · simp
theorem bad_iff (l : List UInt8) (hne : l ≠ []) : ((Lib.decodeL l).1 = 65533 ∧ Lib.hasPrefix l [239, 191, 189] = false) ↔ ((Lib.decodeL l).1 = 65533 ∧ (Lib.decodeL l).2 = 1) := by
  have hp : Lib.hasPrefix l [239, 191, 189] = true ↔ l.take 3 = bad3 := by
    unfold Lib.hasPrefix bad3
    match l with
    | [] => simp [List.isPrefixOf]
    | [a] => simp [List.isPrefixOf]
    | [a, b] => simp [List.isPrefixOf]
    | a :: b :: c :: t =>
      simp [List.isPrefixOf]
      constructor
      · rintro ⟨rfl, rfl, rfl⟩; exact ⟨rfl, rfl, rfl⟩
      · rintro ⟨rfl, rfl, rfl⟩; exact ⟨rfl, rfl, rfl⟩
  constructor
  · rintro ⟨h1, h2⟩
    exact ⟨h1, decodeL_not_bad3 l hne h1 (fun h => by rw [hp.2 h] at h2; cases h2)⟩
  · rintro ⟨h1, h2⟩
    refine ⟨h1, ?_⟩
    cases h : Lib.hasPrefix l [239, 191, 189]
    · rfl
    · have := decodeL_bad3 l (hp.1 h)
      rw [this] at h2
      cases h2
theorem u8_ne {b : UInt8} {k : Nat} (hk : k < 256) (h : b ≠ UInt8.ofNat k) : b.toNat ≠ k := fun e => h (by
  apply UInt8.toNat.inj
  show b.toNat = (UInt8.ofNat k).toNat
  rw [UInt8.toNat_ofNat']
  omega)
/-- What stands behind a backslash. -/
def afterR (L : List UInt8) (n : Nat) (acc : List UInt8) : List UInt8 → List UInt8 × Nat
  | [] => ([], 0)
  | d :: t' => if d = 39 ∨ d = 92 then textR L t' (n + 1) (acc ++ [d]) else if d = 110 then textR L t' (n + 1) (acc ++ [10]) else ([], 0)
theorem quot_text (L : List UInt8) : ∀ (f : Nat) (l pre acc : List UInt8), l.length ≤ f → L = pre ++ l → 1 ≤ pre.length → (∀ x, Lib.validD (pre ++ x) = Lib.validD x) →
    quotF f pre.length false acc l = textR L l pre.length acc ∧ quotF f pre.length true acc l = afterR L pre.length acc l
  | 0, l, pre, acc, hf, hL, hp, hv => by
    obtain rfl : l = [] := List.length_eq_zero_iff.1 (by omega)
    exact ⟨by rw [textR_nil]; rfl, rfl⟩
  | f + 1, [], pre, acc, hf, hL, hp, hv => ⟨by rw [quotF_nil, textR_nil], by rw [quotF_nil]; rfl⟩
  | f + 1, b :: t, pre, acc, hf, hL, hp, hv => by
    have hne : (b :: t) ≠ [] := by simp
    have hf2 : t.length ≤ f := by simp at hf; exact hf
    have hp0 : ¬ pre.length = 0 := by omega
    by_cases hbad : (Lib.decodeL (b :: t)).1 = 65533 ∧ (Lib.decodeL (b :: t)).2 = 1
    · have hb := (bad_iff _ hne).2 hbad
      have hhi : 128 ≤ b.toNat := by
        rcases Nat.lt_or_ge b.toNat 128 with h | h
        · rw [Lib.decodeL_ascii b t h] at hbad
          omega
        · exact h
      have h39 : b ≠ 39 := by rintro rfl; exact absurd hhi (by decide)
      have h92 : b ≠ 92 := by rintro rfl; exact absurd hhi (by decide)
      have h110 : b ≠ 110 := by rintro rfl; exact absurd hhi (by decide)
      have hq : ∀ bh, quotF (f + 1) pre.length bh acc (b :: t) = ([], 0) := fun bh => by
        rw [quotF, if_neg hne, if_neg hp0, if_pos hb]
      refine ⟨?_, ?_⟩
      · rw [hq, textR_cons, if_neg h39, if_neg h92, textR_dead L t.length t _ _ (Nat.le_refl _)]
        intro i hi
        rw [hL, List.take_append, List.take_of_length_le (by omega), hv]
        exact dead_pre b t hbad _ (by omega)
      · rw [hq, afterR, if_neg (by simp [h39, h92]), if_neg h110]
    · have hnb : ¬ ((Lib.decodeL (b :: t)).1 = 65533 ∧ Lib.hasPrefix (b :: t) [239, 191, 189] = false) := fun h => hbad ((bad_iff _ hne).1 h)
      by_cases hlow : b.toNat < 128
      · have hd := Lib.decodeL_ascii b t hlow
        have henc := encode_low b hlow
        have hv2 : ∀ x, Lib.validD (pre ++ [b] ++ x) = Lib.validD x := fun x => by
          rw [List.append_assoc, hv]
          exact Lib.validD_cons b x hlow
        have ih := fun acc' => quot_text L f t (pre ++ [b]) acc' hf2 (by rw [hL]; simp) (by simp) hv2
        simp only [List.length_append, List.length_singleton] at ih
        have hdr : (b :: t).drop 1 = t := rfl
        refine ⟨?_, ?_⟩
        · rw [quotF, if_neg hne, if_neg hp0, if_neg hnb, hd, textR_cons]
          simp only [hdr, Bool.false_eq_true, false_and, if_false, true_and]
          by_cases h39 : b = 39
          · subst h39
            have e := hv []
            rw [List.append_nil] at e
            rw [if_pos rfl, if_pos (show (39 : UInt8).toNat = 39 from rfl), hL, List.take_left, e, Lib.validD_nil, if_pos rfl]
          · have n39 := u8_ne (k := 39) (by omega) h39
            rw [if_neg h39, if_neg n39]
            by_cases h92 : b = 92
            · subst h92
              rw [if_pos rfl, if_pos (show (92 : UInt8).toNat = 92 from rfl), (ih acc).2]
              cases t <;> rfl
            · have n92 := u8_ne (k := 92) (by omega) h92
              rw [if_neg h92, if_neg n92, henc, (ih _).1]
        · rw [quotF, if_neg hne, if_neg hp0, if_neg hnb, hd, afterR]
          simp only [hdr, true_and, Bool.true_eq_false, false_and, if_false]
          by_cases h110 : b = 110
          · subst h110
            rw [if_pos (show (110 : UInt8).toNat = 110 from rfl), if_neg (by decide), if_pos rfl, (ih _).1]
          · have n110 := u8_ne (k := 110) (by omega) h110
            rw [if_neg n110]
            by_cases h : b = 39 ∨ b = 92
            · rw [if_pos h, if_neg (by rcases h with rfl | rfl <;> decide), henc, (ih _).1]
            · have n39 := u8_ne (k := 39) (by omega) (fun e => h (.inl e))
              have n92 := u8_ne (k := 92) (by omega) (fun e => h (.inr e))
              rw [if_neg h, if_neg h110, if_pos ⟨n39, n92⟩]
      · have hhi := decodeL_high b t hlow
        have henc := Lib.encode_decode (b :: t) hne hbad
        have hle := Lib.decodeL_le (b :: t) hne
        have hw := Lib.decodeL_width (b :: t)
        have hh : ∀ x ∈ (b :: t).take (Lib.decodeL (b :: t)).2, 128 ≤ x.toNat := by
          rw [← henc]
          exact encode_high _ (by omega)
        have h39 : b ≠ 39 := by rintro rfl; exact absurd (by decide) hlow
        have h92 : b ≠ 92 := by rintro rfl; exact absurd (by decide) hlow
        have h110 : b ≠ 110 := by rintro rfl; exact absurd (by decide) hlow
        refine ⟨?_, ?_⟩
        · have hv2 : ∀ x, Lib.validD (pre ++ (b :: t).take (Lib.decodeL (b :: t)).2 ++ x) = Lib.validD x := fun x => by
            rw [List.append_assoc, hv]
            have hlen : ((b :: t).take (Lib.decodeL (b :: t)).2).length = (Lib.decodeL (b :: t)).2 := by rw [List.length_take]; omega
            have e1 : Lib.decodeL (b :: t) = Lib.decodeL ((b :: t).take (Lib.decodeL (b :: t)).2 ++ x) := decode_keeps b t x hbad
            have hne2 : (b :: t).take (Lib.decodeL (b :: t)).2 ++ x ≠ [] := by
              intro h
              have := congrArg List.length h
              rw [List.length_append, hlen] at this
              simp at this
              omega
            rw [Lib.validD_step _ hne2, ← e1, if_neg hbad, List.drop_left' hlen]
          have ih := fun acc' => quot_text L f ((b :: t).drop (Lib.decodeL (b :: t)).2) (pre ++ (b :: t).take (Lib.decodeL (b :: t)).2) acc' (by rw [List.length_drop]; simp at hf ⊢; omega) (by rw [hL, List.append_assoc, List.take_append_drop]) (by rw [List.length_append]; omega) hv2
          have hlen : ((b :: t).take (Lib.decodeL (b :: t)).2).length = (Lib.decodeL (b :: t)).2 := by rw [List.length_take]; omega
          rw [List.length_append, hlen] at ih
          rw [quotF, if_neg hne, if_neg hp0, if_neg hnb, if_neg (by simp), if_neg (by simp), if_neg (by omega), if_neg (by omega), henc, (ih _).1]
          conv => rhs; rw [← List.take_append_drop (Lib.decodeL (b :: t)).2 (b :: t)]
          rw [textR_high L _ _ _ _ hh, hlen]
        · rw [quotF, if_neg hne, if_neg hp0, if_neg hnb, if_neg (by omega), if_pos ⟨rfl, by omega, by omega⟩, afterR, if_neg (by simp [h39, h92]), if_neg h110]
theorem text_quot (t : List UInt8) : textR (39 :: t) t 1 [] = quotL (39 :: t) := by
  have h := (quot_text (39 :: t) t.length t [39] [] (Nat.le_refl _) rfl (by simp) (fun x => Lib.validD_cons 39 x (by decide))).1
  have hd := Lib.decodeL_ascii 39 t (by decide)
  unfold quotL
  rw [List.length_cons, quotF, if_neg (by simp), if_pos rfl, hd]
  exact h.symm
end Go.Proofs.YtokhbjagcnjiaaaDoor
