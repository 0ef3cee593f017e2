/- A key in small letters, great ones, or some of both, is the same word; with a sign behind it, it is none: no program in sight. -/
import Derived.Test.YtokhbjagcnjiaaaDoorLxRa
set_option linter.unusedVariables false
set_option linter.unusedSimpArgs false
namespace Go.Proofs.YtokhbjagcnjiaaaDoor
open Go.RowKit

/-- A byte that is a letter of the alphabet. -/
def Alpha (b : UInt8) : Prop := (65 ≤ b.toNat ∧ b.toNat ≤ 90) ∨ (97 ≤ b.toNat ∧ b.toNat ≤ 122)
theorem alpha_name (b : UInt8) (h : Alpha b) : letterB ((b.toNat : Nat) : Int) = true := by
  unfold Alpha at h
  simp [letterB]
  omega
/-- A run of a name goes over letters. -/
theorem runL_alpha : ∀ (l r : List UInt8), (∀ b ∈ l, Alpha b) → ∀ f, (l ++ r).length ≤ f → runL nameB f (l ++ r) = l.length + runL nameB r.length r
  | [], r, _, f, hf => by rw [List.nil_append, runL_fuel nameB f r.length r (by simpa using hf) (Nat.le_refl _)]; simp
  | b :: l, r, h, f, hf => by
    have hb := h b (by simp)
    have hlt : b.toNat < 128 := by unfold Alpha at hb; omega
    obtain ⟨g, rfl⟩ : ∃ g, f = g + 1 := ⟨f - 1, by simp at hf; omega⟩
    rw [List.cons_append, runL_ne nameB g _ (by simp), Lib.decodeL_ascii b _ hlt, if_pos (by unfold nameB; rw [alpha_name b hb]; rfl)]
    simp only [List.drop_succ_cons, List.drop_zero]
    rw [runL_alpha l r (fun x hx => h x (by simp [hx])) g (by simp at hf ⊢; omega)]
    simp; omega
theorem keys_alpha : ∀ k ∈ keysL, (∀ b ∈ k, 65 ≤ b.toNat ∧ b.toNat ≤ 90) ∧ 2 ≤ k.length ∧ k.length ≤ 8 := by decide +kernel
/-- Letters that are a key's, great or small. -/
structure IsKey (l k : List UInt8) : Prop where
  mem : k ∈ keysL
  up : l.map upB = k
  alpha : ∀ b ∈ l, Alpha b
theorem IsKey.len {l k : List UInt8} (h : IsKey l k) : l.length = k.length := by rw [← h.up]; simp
theorem key_one {l k : List UInt8} (h : IsKey l k) : keyL l = k := by
  unfold keyL
  rw [h.up, if_pos (List.contains_iff_mem.2 h.mem)]
theorem key_none (l r : List UInt8) : keyL (l ++ 95 :: r) = [] := by
  unfold keyL
  rw [if_neg]
  intro h
  have hm := List.contains_iff_mem.1 h
  have hb := (keys_alpha _ hm).1 95 (by
    rw [List.map_append, List.map_cons]
    exact List.mem_append_right _ (by rw [show upB 95 = 95 from by decide]; simp))
  exact absurd hb (by decide)
theorem alpha_head (l r : List UInt8) (hne : l ≠ []) (h : ∀ b ∈ l, Alpha b) : letterB (Lib.decodeL (l ++ r)).1 = true ∧ ∃ b t, l ++ r = b :: t ∧ blankB ((b.toNat : Nat) : Int) = false := by
  cases l with
  | nil => exact absurd rfl hne
  | cons b l =>
    have hb := h b (by simp)
    have hlt : b.toNat < 128 := by unfold Alpha at hb; omega
    rw [List.cons_append, Lib.decodeL_ascii b _ hlt]
    refine ⟨alpha_name b hb, b, _, rfl, ?_⟩
    unfold Alpha at hb
    simp [blankB]; omega
theorem letters_one {l k : List UInt8} (h : IsKey l k) : lexL l = ([(2, k, 0, 0)], 0, 0) := by
  have hk := keys_alpha _ h.mem
  have hlen := h.len
  have hne : l ≠ [] := by intro e; rw [e] at hlen; simp at hlen; omega
  obtain ⟨hl, b, t, hbt, hbl⟩ := alpha_head l [] hne h.alpha
  rw [List.append_nil] at hl hbt
  have hr : runL nameB l.length l = l.length := by
    have := runL_alpha l [] h.alpha l.length (by simp)
    rw [List.append_nil] at this
    rw [this]
    rfl
  have hkn : ¬ k = [] := by intro e; rw [e] at hk; simp at hk
  have hw : ∀ p, wordL l p = (0, (2, k, 0, p), l.length) := fun p => by
    rw [wordL, if_pos hl, hr, List.take_length, key_one h, if_neg hkn]
  obtain ⟨m, hm⟩ : ∃ m, l.length = m + 1 := ⟨l.length - 1, by have := List.length_pos_iff.2 hne; omega⟩
  rw [lexL, if_neg (by omega), hbt, lexF_word _ _ _ _ _ hbl, ← hbt, hw, if_neg (by simp)]
  simp only [List.nil_append, List.drop_length]
  rw [hm, lexF, List.drop_nil, if_pos rfl]
  rfl
theorem lexF_head : ∀ (f a : Nat) (acc : List Tok) (l : List UInt8), l.length < f → (lexF f a acc l).2.2 = 0 → ∃ r, (lexF f a acc l).1 = acc ++ r
  | 0, a, acc, l, h, _ => by omega
  | f + 1, a, acc, l, h, hz => by
    rw [lexF] at hz ⊢
    by_cases hnil : l.drop (runL blankB l.length l) = []
    · rw [if_pos hnil]
      exact ⟨[], by simp⟩
    rw [if_neg hnil] at hz ⊢
    by_cases hc : (wordL (l.drop (runL blankB l.length l)) ((a + runL blankB l.length l : Nat) : Int)).1 ≠ 0
    · rw [if_pos hc] at hz
      exact absurd hz hc
    rw [if_neg hc] at hz ⊢
    have hn := wordL_n _ _ hnil (Decidable.not_not.1 hc)
    have hlt : ((l.drop (runL blankB l.length l)).drop (wordL (l.drop (runL blankB l.length l)) ((a + runL blankB l.length l : Nat) : Int)).2.2).length < f := by
      rw [List.length_drop]
      rw [List.length_drop] at hn ⊢
      omega
    obtain ⟨r, hr⟩ := lexF_head f _ _ _ hlt hz
    exact ⟨_, by rw [hr, List.append_assoc]⟩
theorem letters_two {l k : List UInt8} (h : IsKey l k) (r : List UInt8) : (lexL (l ++ 95 :: r)).2.2 ≠ 0 ∨ ∃ t ts, (lexL (l ++ 95 :: r)).1 = t :: ts ∧ t.1 = 1 := by
  have hk := keys_alpha _ h.mem
  have hlen := h.len
  have hne : l ≠ [] := by intro e; rw [e] at hlen; simp at hlen; omega
  obtain ⟨hl, b, t, hbt, hbl⟩ := alpha_head l (95 :: r) hne h.alpha
  have hr := runL_alpha l (95 :: r) h.alpha (l ++ 95 :: r).length (Nat.le_refl _)
  have h1 : 1 ≤ runL nameB (95 :: r).length (95 :: r) := runL_pos nameB _ (by simp) (by rw [Lib.decodeL_ascii 95 r (by decide)]; decide)
  obtain ⟨m, hm⟩ : ∃ m, runL nameB (95 :: r).length (95 :: r) = m + 1 := ⟨_, (Nat.sub_add_cancel h1).symm⟩
  rw [hm] at hr
  have htk : (l ++ 95 :: r).take (l.length + (m + 1)) = l ++ 95 :: r.take m := by
    rw [List.take_append, List.take_of_length_le (by omega), show l.length + (m + 1) - l.length = m + 1 by omega, List.take_succ_cons]
  by_cases hbig : 4096 < (l ++ 95 :: r).length
  · left
    rw [lexL, if_pos hbig]
    simp
  rw [lexL, if_neg hbig]
  have hw : ∀ p, wordL (l ++ 95 :: r) p = if 32 < l.length + (m + 1) then (74, (0, [], 0, 0), 0) else (0, (1, l ++ 95 :: r.take m, 0, p), l.length + (m + 1)) := fun p => by
    rw [wordL, if_pos hl, hr, htk, key_none, if_pos rfl]
  have hlf : (l ++ 95 :: r).length < (l ++ 95 :: r).length + 1 := Nat.lt_succ_self _
  by_cases h32 : 32 < l.length + (m + 1)
  · left
    rw [hbt, lexF_word _ _ _ _ _ hbl, ← hbt, hw, if_pos h32, if_pos (by simp)]
    simp
  · by_cases hz : (lexF ((l ++ 95 :: r).length + 1) 0 [] (l ++ 95 :: r)).2.2 = 0
    · right
      have hz2 := hz
      rw [hbt, lexF_word _ _ _ _ _ hbl, ← hbt, hw, if_neg h32, if_neg (by simp)] at hz2 ⊢
      simp only at hz2 ⊢
      obtain ⟨q, hq⟩ := lexF_head _ _ _ _ (by rw [List.length_drop]; simp; omega) hz2
      exact ⟨_, q, by rw [hq]; rfl, rfl⟩
    · exact .inl hz
end Go.Proofs.YtokhbjagcnjiaaaDoor
