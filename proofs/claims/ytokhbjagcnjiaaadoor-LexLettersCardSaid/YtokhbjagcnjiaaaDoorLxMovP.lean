/- How a text's words move with blanks: no program in sight. -/
import Derived.Test.YtokhbjagcnjiaaaDoorLxP
set_option linter.unusedVariables false
set_option linter.unusedSimpArgs false
namespace Go.Proofs.YtokhbjagcnjiaaaDoor
open Go.RowKit

theorem decodeL_app (l : List UInt8) (b : UInt8) (hne : l ≠ []) (hb : b.toNat < 128) : Lib.decodeL (l ++ [b]) = Lib.decodeL l := by
  have hq : ¬ (b.toNat / 64 = 2) := by omega
  rw [Lib.decodeL_N, Lib.decodeL_N]
  match l, hne with
  | [b0], _ =>
    show Lib.decodeN 2 b0.toNat b.toNat 0 0 = Lib.decodeN 1 b0.toNat 0 0 0
    simp [Lib.decodeN, hq]
  | [b0, b1], _ =>
    show Lib.decodeN 3 b0.toNat b1.toNat b.toNat 0 = Lib.decodeN 2 b0.toNat b1.toNat 0 0
    simp [Lib.decodeN, hq]
  | [b0, b1, b2], _ =>
    show Lib.decodeN 4 b0.toNat b1.toNat b2.toNat b.toNat = Lib.decodeN 3 b0.toNat b1.toNat b2.toNat 0
    simp [Lib.decodeN, hq]
  | b0 :: b1 :: b2 :: b3 :: t, _ =>
    show Lib.decodeN (t ++ [b]).length.succ.succ.succ.succ b0.toNat b1.toNat b2.toNat b3.toNat = Lib.decodeN t.length.succ.succ.succ.succ b0.toNat b1.toNat b2.toNat b3.toNat
    simp [Lib.decodeN]
theorem runL_ne (is : Int → Bool) (f : Nat) (l : List UInt8) (h : l ≠ []) : runL is (f + 1) l = if is (Lib.decodeL l).1 then (Lib.decodeL l).2 + runL is f (l.drop (Lib.decodeL l).2) else 0 := by
  rw [runL, if_neg h]
theorem runL_fuel (is : Int → Bool) : ∀ (f g : Nat) (l : List UInt8), l.length ≤ f → l.length ≤ g → runL is f l = runL is g l
  | 0, g, l, hf, hg => by
    obtain rfl : l = [] := List.length_eq_zero_iff.1 (by omega)
    rw [runL_nil, runL_nil]
  | f + 1, 0, l, hf, hg => by
    obtain rfl : l = [] := List.length_eq_zero_iff.1 (by omega)
    rw [runL_nil, runL_nil]
  | f + 1, g + 1, l, hf, hg => by
    by_cases hne : l = []
    · subst hne; rw [runL_nil, runL_nil]
    · have h1 := Lib.decodeL_width l
      have h2 : (l.drop (Lib.decodeL l).2).length ≤ f ∧ (l.drop (Lib.decodeL l).2).length ≤ g := by
        rw [List.length_drop]; omega
      rw [runL, runL, if_neg hne, if_neg hne, runL_fuel is f g _ h2.1 h2.2]
theorem runL_app (is : Int → Bool) (b : UInt8) (hb : b.toNat < 128) (his : is (b.toNat : Int) = false) : ∀ (f : Nat) (l : List UInt8), l.length ≤ f → runL is (f + 1) (l ++ [b]) = runL is f l
  | f, [], hf => by
    rw [runL_nil, List.nil_append, runL, if_neg (by simp), Lib.decodeL_ascii b [] hb, if_neg (by simp [his])]
  | 0, c :: t, hf => by simp at hf
  | f + 1, c :: t, hf => by
    have h1 := Lib.decodeL_width (c :: t)
    have h2 := Lib.decodeL_le (c :: t) (by simp)
    have h3 : ((c :: t).drop (Lib.decodeL (c :: t)).2).length ≤ f := by
      rw [List.length_drop]
      simp only [List.length_cons] at hf ⊢
      omega
    rw [runL_ne is (f + 1) (c :: t ++ [b]) (by simp), runL_ne is f (c :: t) (by simp), decodeL_app (c :: t) b (by simp) hb, List.drop_append_of_le_length h2, runL_app is b hb his f _ h3]
theorem runL_app' (is : Int → Bool) (b : UInt8) (hb : b.toNat < 128) (his : is (b.toNat : Int) = true) : ∀ (f : Nat) (l : List UInt8), l.length ≤ f → runL is (f + 1) (l ++ [b]) = if runL is f l = l.length then l.length + 1 else runL is f l
  | f, [], hf => by
    rw [runL_nil, List.nil_append, runL, if_neg (by simp), Lib.decodeL_ascii b [] hb, if_pos (by simp [his])]
    simp [runL_nil]
  | 0, c :: t, hf => by simp at hf
  | f + 1, c :: t, hf => by
    have h1 := Lib.decodeL_width (c :: t)
    have h2 := Lib.decodeL_le (c :: t) (by simp)
    have h3 : ((c :: t).drop (Lib.decodeL (c :: t)).2).length ≤ f := by
      rw [List.length_drop]
      simp only [List.length_cons] at hf ⊢
      omega
    have h4 := runL_le is f ((c :: t).drop (Lib.decodeL (c :: t)).2)
    rw [runL_ne is (f + 1) (c :: t ++ [b]) (by simp), runL_ne is f (c :: t) (by simp), decodeL_app (c :: t) b (by simp) hb, List.drop_append_of_le_length h2, runL_app' is b hb his f _ h3]
    rw [List.length_drop] at h4 ⊢
    have h5 : (c :: t).length = t.length + 1 := rfl
    split
    · split
      · rw [if_pos (by omega)]; omega
      · rw [if_neg (by omega)]
    · rw [if_neg (by omega)]
theorem runL_blank (b : UInt8) (l : List UInt8) (hb : b.toNat < 128) (his : blankB (b.toNat : Int) = true) : runL blankB (b :: l).length (b :: l) = 1 + runL blankB l.length l := by
  show runL blankB (l.length + 1) (b :: l) = _
  rw [runL, if_neg (by simp), Lib.decodeL_ascii b l hb, if_pos his]
  rfl
theorem hasPrefix_app2 (l : List UInt8) (b x y : UInt8) (hy : b ≠ y) : Lib.hasPrefix (l ++ [b]) [x, y] = Lib.hasPrefix l [x, y] := by
  have hy' : (y == b) = false := by simpa using fun h => hy h.symm
  match l with
  | [] => simp [Lib.hasPrefix, List.isPrefixOf]
  | [_] => simp [Lib.hasPrefix, List.isPrefixOf, hy']
  | _ :: _ :: t => simp [Lib.hasPrefix, List.isPrefixOf]
theorem hasPrefix_app3 (l : List UInt8) (b x y z : UInt8) (hy : b ≠ y) (hz : b ≠ z) (hne : l ≠ []) : Lib.hasPrefix (l ++ [b]) [x, y, z] = Lib.hasPrefix l [x, y, z] := by
  have hy' : (y == b) = false := by simpa using fun h => hy h.symm
  have hz' : (z == b) = false := by simpa using fun h => hz h.symm
  match l, hne with
  | [_], _ => simp [Lib.hasPrefix, List.isPrefixOf]
  | [_, _], _ => simp [Lib.hasPrefix, List.isPrefixOf, hz']
  | _ :: _ :: _ :: t, _ => simp [Lib.hasPrefix, List.isPrefixOf]
theorem signL_app (l : List UInt8) (b : UInt8) (hne : l ≠ []) (hb : b = 32 ∨ b = 9) : signL (l ++ [b]) = signL l := by
  have h1 : ∀ x y : UInt8, y = 62 ∨ y = 61 ∨ y = 46 → Lib.hasPrefix (l ++ [b]) [x, y] = Lib.hasPrefix l [x, y] := fun x y hy => hasPrefix_app2 l b x y (by rcases hb with rfl | rfl <;> rcases hy with rfl | rfl | rfl <;> decide)
  unfold signL
  rw [h1 60 62 (.inl rfl), h1 60 61 (.inr (.inl rfl)), h1 62 61 (.inr (.inl rfl)), h1 46 46 (.inr (.inr rfl))]
  match l, hne with
  | c :: t, _ => simp
theorem quotF_app (b : UInt8) (hb : b.toNat < 128) : ∀ (f i : Nat) (bh : Bool) (acc l : List UInt8), (quotF f i bh acc l).2 ≠ 0 → quotF (f + 1) i bh acc (l ++ [b]) = quotF f i bh acc l := by
  intro f
  induction f with
  | zero => intro i bh acc l h; simp [quotF] at h
  | succ f ih =>
    intro i bh acc l h
    have hne : l ≠ [] := by rintro rfl; simp [quotF] at h
    have h2 := Lib.decodeL_le l hne
    have hd := decodeL_app l b hne hb
    have hp : Lib.hasPrefix (l ++ [b]) [239, 191, 189] = Lib.hasPrefix l [239, 191, 189] := hasPrefix_app3 l b _ _ _ (by rintro rfl; exact absurd hb (by decide)) (by rintro rfl; exact absurd hb (by decide)) hne
    rw [quotF, if_neg hne] at h
    rw [quotF, if_neg (by simp), hd, hp, List.drop_append_of_le_length h2]
    conv => rhs; rw [quotF, if_neg hne]
    by_cases c0 : i = 0
    · simp only [if_pos c0] at h ⊢
      exact ih _ _ _ _ h
    simp only [if_neg c0] at h ⊢
    by_cases c1 : (Lib.decodeL l).1 = 65533 ∧ Lib.hasPrefix l [239, 191, 189] = false
    · simp only [if_pos c1] at h ⊢
    simp only [if_neg c1] at h ⊢
    by_cases c2 : bh = true ∧ (Lib.decodeL l).1 = 110
    · simp only [if_pos c2] at h ⊢
      exact ih _ _ _ _ h
    simp only [if_neg c2] at h ⊢
    by_cases c3 : bh = true ∧ (Lib.decodeL l).1 ≠ 39 ∧ (Lib.decodeL l).1 ≠ 92
    · simp only [if_pos c3] at h ⊢
    simp only [if_neg c3] at h ⊢
    by_cases c4 : bh = false ∧ (Lib.decodeL l).1 = 39
    · simp only [if_pos c4]
    simp only [if_neg c4] at h ⊢
    by_cases c5 : bh = false ∧ (Lib.decodeL l).1 = 92
    · simp only [if_pos c5] at h ⊢
      exact ih _ _ _ _ h
    simp only [if_neg c5] at h ⊢
    exact ih _ _ _ _ h
theorem wordL_app (l : List UInt8) (b : UInt8) (p : Int) (hne : l ≠ []) (hb : b = 32 ∨ b = 9) (h : (wordL l p).1 = 0) : wordL (l ++ [b]) p = wordL l p := by
  have hb1 : b.toNat < 128 := by rcases hb with rfl | rfl <;> decide
  have hb2 : nameB (b.toNat : Int) = false := by rcases hb with rfl | rfl <;> decide
  have hb3 : digitB (b.toNat : Int) = false := by rcases hb with rfl | rfl <;> decide
  have hl : (l ++ [b]).length = l.length + 1 := by simp
  have h1 := runL_le nameB l.length l
  have h2 := runL_le digitB l.length l
  unfold wordL at h ⊢
  rw [decodeL_app l b hne hb1, hl, runL_app nameB b hb1 hb2 _ _ (Nat.le_refl _), runL_app digitB b hb1 hb3 _ _ (Nat.le_refl _), List.take_append_of_le_length h1, List.take_append_of_le_length h2, signL_app l b hne hb]
  split
  · rfl
  rename_i c1
  rw [if_neg c1] at h
  split
  · rfl
  rename_i c2
  rw [if_neg c2] at h
  split
  · rename_i c3
    rw [if_pos c3] at h
    have hq : (quotL l).2 ≠ 0 := by
      intro e
      rw [if_pos e] at h
      cases h
    have : quotL (l ++ [b]) = quotL l := by
      unfold quotL
      rw [hl]
      exact quotF_app b hb1 _ _ _ _ _ hq
    rw [this]
  · rfl
theorem wordL_n (l : List UInt8) (p : Int) (hne : l ≠ []) (h : (wordL l p).1 = 0) : 1 ≤ (wordL l p).2.2 ∧ (wordL l p).2.2 ≤ l.length := by
  have h1 := runL_le nameB l.length l
  have h2 := runL_le digitB l.length l
  have h3 := quotL_le l
  have h4 := signL_le l
  unfold wordL at h ⊢
  split
  · rename_i c
    have h5 := runL_pos nameB l hne (by unfold nameB; rw [c]; rfl)
    rw [if_pos c] at h
    split
    · rename_i c2
      rw [if_pos c2] at h
      split
      · rename_i c3; rw [if_pos c3] at h; cases h
      · exact ⟨h5, h1⟩
    · exact ⟨h5, h1⟩
  rename_i c
  rw [if_neg c] at h
  split
  · rename_i c2
    have h5 := runL_pos digitB l hne c2
    rw [if_pos c2] at h
    split
    · rename_i c3; rw [c3] at h; cases h
    · exact ⟨h5, h2⟩
  rename_i c2
  rw [if_neg c2] at h
  split
  · rename_i c3
    rw [if_pos c3] at h
    split
    · rename_i c4; rw [if_pos c4] at h; cases h
    · rename_i c4; exact ⟨by show 1 ≤ (quotL l).2; omega, h3⟩
  rename_i c3
  rw [if_neg c3] at h
  split
  · rename_i c4; rw [if_pos c4] at h; cases h
  · rename_i c4
    exact ⟨List.length_pos_iff.2 c4, h4⟩
/-- A word, k bytes further on. -/
def shT (k : Nat) (t : Tok) : Tok := (t.1, t.2.1, t.2.2.1, t.2.2.2 + k)
theorem wordL_at (l : List UInt8) (p : Int) (k : Nat) : (wordL l (p + k)).1 = (wordL l p).1 ∧ (wordL l (p + k)).2.2 = (wordL l p).2.2 ∧ ((wordL l p).1 = 0 → (wordL l (p + k)).2.1 = shT k (wordL l p).2.1 ∧ (wordL l p).2.1.2.2.2 = p) := by
  unfold wordL shT
  repeat' split
  all_goals first | exact ⟨rfl, rfl, fun h => ⟨rfl, rfl⟩⟩ | exact ⟨rfl, rfl, fun h => by cases h⟩
theorem lexF_fuel : ∀ (f g a : Nat) (acc : List Tok) (l : List UInt8), l.length < f → l.length < g → lexF f a acc l = lexF g a acc l
  | 0, g, a, acc, l, hf, hg => by omega
  | f + 1, 0, a, acc, l, hf, hg => by omega
  | f + 1, g + 1, a, acc, l, hf, hg => by
    rw [lexF, lexF]
    split
    · rfl
    split
    · rfl
    rename_i c1 c2
    have h := wordL_n _ _ c1 (Decidable.not_not.1 c2)
    refine lexF_fuel f g _ _ _ ?_ ?_ <;> (rw [List.length_drop, List.length_drop]; rw [List.length_drop] at h; omega)
/-- All places, k bytes further on. -/
def shR (k : Nat) (r : List Tok × Nat × Int) : List Tok × Nat × Int := (r.1.map (shT k), (if r.2.2 = 0 then r.2.1 else r.2.1 + k), r.2.2)
theorem lexF_at (k : Nat) : ∀ (f a : Nat) (acc : List Tok) (l : List UInt8), lexF f (a + k) (acc.map (shT k)) l = shR k (lexF f a acc l)
  | 0, a, acc, l => by simp [lexF, shR]
  | f + 1, a, acc, l => by
    rw [lexF, lexF]
    have e : ((a + k + runL blankB l.length l : Nat) : Int) = ((a + runL blankB l.length l : Nat) : Int) + (k : Nat) := by omega
    have hw := wordL_at (l.drop (runL blankB l.length l)) ((a + runL blankB l.length l : Nat) : Int) k
    rw [e, hw.1, hw.2.1]
    split
    · simp [shR]
    split
    · rename_i c
      simp only [shR, List.map_nil, if_neg c]
      congr 2
      omega
    · rename_i c
      rw [(hw.2.2 (Decidable.not_not.1 c)).1, show acc.map (shT k) ++ [shT k (wordL (l.drop (runL blankB l.length l)) ((a + runL blankB l.length l : Nat) : Int)).2.1] = (acc ++ [(wordL (l.drop (runL blankB l.length l)) ((a + runL blankB l.length l : Nat) : Int)).2.1]).map (shT k) by simp,
        show a + k + runL blankB l.length l + (wordL (l.drop (runL blankB l.length l)) ((a + runL blankB l.length l : Nat) : Int)).2.2 = a + runL blankB l.length l + (wordL (l.drop (runL blankB l.length l)) ((a + runL blankB l.length l : Nat) : Int)).2.2 + k by omega]
      exact lexF_at k f _ _ _
theorem lexF_blank (b : UInt8) (hb : b.toNat < 128) (his : blankB (b.toNat : Int) = true) (f a : Nat) (acc : List Tok) (l : List UInt8) : lexF f a acc (b :: l) = lexF f (a + 1) acc l := by
  cases f with
  | zero => rfl
  | succ f =>
    rw [lexF, lexF, runL_blank b l hb his, show (b :: l).drop (1 + runL blankB l.length l) = l.drop (runL blankB l.length l) by rw [Nat.add_comm]; rfl, show a + (1 + runL blankB l.length l) = a + 1 + runL blankB l.length l by omega]
theorem lexF_blanks (b : UInt8) (hb : b.toNat < 128) (his : blankB (b.toNat : Int) = true) (f : Nat) (acc : List Tok) (l : List UInt8) : ∀ k a, lexF f a acc (List.replicate k b ++ l) = lexF f (a + k) acc l
  | 0, a => rfl
  | k + 1, a => by
    rw [List.replicate_succ, List.cons_append, lexF_blank b hb his, lexF_blanks b hb his f acc l k (a + 1)]
    congr 1
    omega
theorem lexF_app (b : UInt8) (hb : b = 32 ∨ b = 9) : ∀ (f a : Nat) (acc : List Tok) (l : List UInt8), l.length < f → (lexF f a acc l).2.2 = 0 → lexF (f + 1) a acc (l ++ [b]) = lexF f a acc l
  | 0, a, acc, l, hf, h => by omega
  | f + 1, a, acc, l, hf, h => by
    have hb1 : b.toNat < 128 := by rcases hb with rfl | rfl <;> decide
    have hb2 : blankB (b.toNat : Int) = true := by rcases hb with rfl | rfl <;> decide
    have hl : (l ++ [b]).length = l.length + 1 := by simp
    have hle := runL_le blankB l.length l
    rw [lexF] at h ⊢
    rw [hl, runL_app' blankB b hb1 hb2 _ _ (Nat.le_refl _)]
    conv => rhs; rw [lexF]
    by_cases c : l.drop (runL blankB l.length l) = []
    · have e : runL blankB l.length l = l.length := by
        have := congrArg List.length c
        rw [List.length_drop, List.length_nil] at this
        omega
      rw [if_pos e, if_pos (by rw [← hl, List.drop_length]), if_pos c]
    · have e : runL blankB l.length l ≠ l.length := by
        intro e
        rw [e, List.drop_length] at c
        exact c rfl
      rw [if_neg e, if_neg (by simp [List.drop_append_of_le_length hle]), if_neg c]
      rw [if_neg c] at h
      have c2 : (wordL (l.drop (runL blankB l.length l)) ((a + runL blankB l.length l : Nat) : Int)).1 = 0 := by
        refine Decidable.byContradiction fun c2 => ?_
        rw [if_pos c2] at h
        exact c2 h
      have hn := wordL_n _ _ c c2
      rw [if_neg (Decidable.not_not.2 c2)] at h
      rw [List.drop_append_of_le_length hle, wordL_app _ b _ c hb c2, if_neg (Decidable.not_not.2 c2), if_neg (Decidable.not_not.2 c2), List.drop_append_of_le_length hn.2]
      refine lexF_app b hb f _ _ _ ?_ h
      rw [List.length_drop]
      rw [List.length_drop] at hn
      rw [List.length_drop]
      omega
/-- The words' places rise, below hi. -/
def Rise (ts : List Tok) (hi : Nat) : Prop := ts.Pairwise (fun x y => x.2.2.2 < y.2.2.2) ∧ ∀ t ∈ ts, 0 ≤ t.2.2.2 ∧ t.2.2.2 < (hi : Int)
theorem lexF_rise : ∀ (f a : Nat) (acc : List Tok) (l : List UInt8), Rise acc a → Rise (lexF f a acc l).1 (a + l.length)
  | 0, a, acc, l, h => ⟨.nil, fun t ht => by simp [lexF] at ht⟩
  | f + 1, a, acc, l, h => by
    rw [lexF]
    have hle := runL_le blankB l.length l
    split
    · exact ⟨h.1, fun t ht => ⟨(h.2 t ht).1, by have := (h.2 t ht).2; omega⟩⟩
    split
    · exact ⟨.nil, fun t ht => by simp at ht⟩
    · rename_i c c2
      have c2' := Decidable.not_not.1 c2
      have hn := wordL_n _ _ c c2'
      have hw := ((wordL_at (l.drop (runL blankB l.length l)) ((a + runL blankB l.length l : Nat) : Int) 0).2.2 c2').2
      rw [List.length_drop] at hn
      have := lexF_rise f (a + runL blankB l.length l + (wordL (l.drop (runL blankB l.length l)) ((a + runL blankB l.length l : Nat) : Int)).2.2) (acc ++ [(wordL (l.drop (runL blankB l.length l)) ((a + runL blankB l.length l : Nat) : Int)).2.1])
        ((l.drop (runL blankB l.length l)).drop (wordL (l.drop (runL blankB l.length l)) ((a + runL blankB l.length l : Nat) : Int)).2.2) (by
          refine ⟨List.pairwise_append.2 ⟨h.1, List.pairwise_singleton _ _, fun x hx y hy => ?_⟩, fun t ht => ?_⟩
          · obtain rfl := List.mem_singleton.1 hy
            have := (h.2 x hx).2
            rw [hw]
            omega
          · rcases List.mem_append.1 ht with ht | ht
            · have := h.2 t ht
              exact ⟨this.1, by omega⟩
            · obtain rfl := List.mem_singleton.1 ht
              rw [hw]
              constructor <;> omega)
      rw [List.length_drop, List.length_drop] at this
      rwa [show a + runL blankB l.length l + (wordL (l.drop (runL blankB l.length l)) ((a + runL blankB l.length l : Nat) : Int)).2.2 + (l.length - runL blankB l.length l - (wordL (l.drop (runL blankB l.length l)) ((a + runL blankB l.length l : Nat) : Int)).2.2) = a + l.length by omega] at this
end Go.Proofs.YtokhbjagcnjiaaaDoor
