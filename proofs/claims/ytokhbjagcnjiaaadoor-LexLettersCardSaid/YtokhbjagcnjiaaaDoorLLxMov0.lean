/- Words for the laws that look at a text's words: how they are read, and how they move. -/
import Derived.Test.YtokhbjagcnjiaaaDoorLxHead
import Derived.Test.YtokhbjagcnjiaaaDoorLxMovP
set_option linter.unusedVariables false
set_option linter.unusedSimpArgs false
namespace Go.Proofs.YtokhbjagcnjiaaaDoor
open Go.RowKit

def tok0 : Tok := (0, [], 0, 0)
/-- Four cells that hold a word. -/
structure Holds4 (W : World) (ad : Addr) (t : Tok) : Prop where
  lt : ad.block < W.heap.size
  spot : ad.spot = none
  c0 : W.cell? ad = some (.int .i64 t.1)
  c1 : W.cell? ⟨ad.block, ad.off + 1, none⟩ = some (.string ⟨t.2.1.toArray⟩)
  c2 : W.cell? ⟨ad.block, ad.off + 2, none⟩ = some (.int .i64 t.2.2.1)
  c3 : W.cell? ⟨ad.block, ad.off + 3, none⟩ = some (.int .i64 t.2.2.2)
theorem Holds4.kept {W W' : World} {ad : Addr} {t : Tok} (h : Holds4 W ad t) (hb : Below W.heap.size W W') : Holds4 W' ad t :=
  ⟨by have := h.lt; have := hb.size; omega, h.spot, (hb.cell h.lt).trans h.c0, (hb.cell (p := ⟨ad.block, ad.off + 1, none⟩) h.lt).trans h.c1, (hb.cell (p := ⟨ad.block, ad.off + 2, none⟩) h.lt).trans h.c2, (hb.cell (p := ⟨ad.block, ad.off + 3, none⟩) h.lt).trans h.c3⟩
theorem toksCells_at : ∀ (ts : List Tok) (i j : Nat) (t : Tok), ts[i]? = some t → j < 4 → (toksCells ts)[i * 4 + j]? = (tokCells t)[j]?
  | [], i, j, t, h, hj => by simp at h
  | u :: r, 0, j, t, h, hj => by
    simp only [List.getElem?_cons_zero, Option.some.injEq] at h
    subst h
    rw [toksCells, Nat.zero_mul, Nat.zero_add, List.getElem?_append_left (by simpa [tokCells] using hj)]
  | u :: r, i + 1, j, t, h, hj => by
    simp only [List.getElem?_cons_succ] at h
    rw [toksCells, List.getElem?_append_right (by simp [tokCells]; omega), show (i + 1) * 4 + j - (tokCells u).length = i * 4 + j by simp [tokCells]; omega]
    exact toksCells_at r i j t h hj
/-- An own row of words, as a slice that is read. -/
theorem toks_held {W : World} {B : Nat} {v : Value} {ts : List Tok} (h : W.ownsRow B 29 4 v ts.length (toksCells ts)) :
    ∃ (A : Option Addr) (cap : Nat), v = .slice A ts.length cap ∧ ts.length ≤ 9223372036854775807 ∧ ∀ i, i < ts.length → ∃ ad, A = some ad ∧ Holds4 W (ad.add (i * 4)) (ts.getD i tok0) := by
  have h' := h
  rcases h with ⟨hl, ⟨rfl, h0⟩ | ⟨g, cap, cur, rfl, hg, hh, hn, hm, hs, htk⟩⟩
  · rw [h0]
    exact ⟨none, 0, rfl, by omega, fun j hj => absurd hj (by omega)⟩
  · refine ⟨_, cap, rfl, by unfold maxLen at hm; omega, fun i hi => ⟨_, rfl, ?_⟩⟩
    have hcs := h'.cells (g := g) rfl
    have hti : ts[i]? = some (ts.getD i tok0) := by rw [List.getD_eq_getElem?_getD, List.getElem?_eq_getElem hi]; rfl
    generalize ts.getD i tok0 = t at hti ⊢
    have hc : ∀ j, j < 4 → (toksCells ts)[i * 4 + j]? = (tokCells t)[j]? := fun j hj => toksCells_at ts i j t hti hj
    have e : ∀ n, (⟨g, 0, none⟩ : Addr).add n = ⟨g, n, none⟩ := fun n => by unfold Addr.add; split <;> simp_all
    have hcs' : ∀ j u, (toksCells ts)[j]? = some u → W.cell? ⟨g, j, none⟩ = some u := fun j u hj => by rw [← e j]; exact hcs j u hj
    rw [e]
    exact ⟨(Array.getElem?_eq_some_iff.1 hh).1, rfl, hcs' (i * 4) _ (hc 0 (by omega)), hcs' (i * 4 + 1) _ (hc 1 (by omega)), hcs' (i * 4 + 2) _ (hc 2 (by omega)), hcs' (i * 4 + 3) _ (hc 3 (by omega))⟩
theorem lexF_le : ∀ (f a : Nat) (acc : List Tok) (l : List UInt8), (lexF f a acc l).2.1 ≤ a + l.length
  | 0, a, acc, l => by simp [lexF]
  | f + 1, a, acc, l => by
    rw [lexF]
    have hle := runL_le blankB l.length l
    split
    · simp
    split
    · show a + runL blankB l.length l ≤ a + l.length
      omega
    · rename_i c c2
      have hn := wordL_n _ _ c (Decidable.not_not.1 c2)
      have := lexF_le f (a + runL blankB l.length l + (wordL (l.drop (runL blankB l.length l)) ((a + runL blankB l.length l : Nat) : Int)).2.2) (acc ++ [(wordL (l.drop (runL blankB l.length l)) ((a + runL blankB l.length l : Nat) : Int)).2.1])
        ((l.drop (runL blankB l.length l)).drop (wordL (l.drop (runL blankB l.length l)) ((a + runL blankB l.length l : Nat) : Int)).2.2)
      rw [List.length_drop] at hn
      rw [List.length_drop, List.length_drop] at this
      omega
theorem lexF_err : ∀ (f a : Nat) (acc : List Tok) (l : List UInt8), (lexF f a acc l).2.2 ≠ 0 → (lexF f a acc l).1 = []
  | 0, a, acc, l, h => rfl
  | f + 1, a, acc, l, h => by
    rw [lexF] at h ⊢
    by_cases c : l.drop (runL blankB l.length l) = []
    · rw [if_pos c] at h
      exact absurd rfl h
    · rw [if_neg c] at h ⊢
      by_cases c2 : (wordL (l.drop (runL blankB l.length l)) ((a + runL blankB l.length l : Nat) : Int)).1 ≠ 0
      · rw [if_pos c2]
      · rw [if_neg c2] at h ⊢
        exact lexF_err f _ _ _ h
/-- What the law LexMoves asks of a text's words. -/
theorem moves_plain (l : List UInt8) (k : Nat) (b : UInt8) (hl : l.length ≤ 4076) (hk : k ≤ 8) (hb : b = 32 ∨ b = 9) :
    ∃ (ts : List Tok) (at_ : Nat) (er : Int), lexL l = (ts, at_, er) ∧ lexL (List.replicate k b ++ l) = (ts.map (shT k), (if er = 0 then at_ else at_ + k), er) ∧ (er = 0 → lexL (l ++ [b]) = (ts, at_, er)) ∧ (er ≠ 0 → ts = []) ∧ at_ ≤ 4076 ∧ Rise ts l.length := by
  have hb1 : b.toNat < 128 := by rcases hb with rfl | rfl <;> decide
  have hb2 : blankB (b.toNat : Int) = true := by rcases hb with rfl | rfl <;> decide
  have h0 : lexL l = lexF (l.length + 1) 0 [] l := by rw [lexL, if_neg (by omega)]
  have h1 : lexL (List.replicate k b ++ l) = shR k (lexL l) := by
    rw [lexL, if_neg (by simp; omega), lexF_blanks b hb1 hb2, h0, ← lexF_at k _ _ _ _]
    exact lexF_fuel _ _ _ _ _ (by simp; omega) (by omega)
  have h2 : (lexL l).2.2 = 0 → lexL (l ++ [b]) = lexL l := fun h => by
    rw [h0] at h ⊢
    rw [lexL, if_neg (by simp; omega), show (l ++ [b]).length + 1 = l.length + 1 + 1 by simp]
    exact lexF_app b hb _ _ _ _ (by omega) h
  have h3 : (lexL l).2.2 ≠ 0 → (lexL l).1 = [] := fun h => by rw [h0] at h ⊢; exact lexF_err _ _ _ _ h
  have h4 : (lexL l).2.1 ≤ 4076 := by rw [h0]; have := lexF_le (l.length + 1) 0 [] l; omega
  have h5 : Rise (lexL l).1 l.length := by
    rw [h0]
    have := lexF_rise (l.length + 1) 0 [] l ⟨.nil, fun t ht => by cases ht⟩
    rwa [Nat.zero_add] at this
  generalize lexL l = r at h1 h2 h3 h4 h5 ⊢
  obtain ⟨ts, at_, er⟩ := r
  exact ⟨ts, at_, er, rfl, h1, h2, h3, h4, h5⟩
theorem Rise.before {ts : List Tok} {hi : Nat} (h : Rise ts hi) (i : Nat) (hi2 : i + 1 < ts.length) : (ts.getD i tok0).2.2.2 < (ts.getD (i + 1) tok0).2.2.2 := by
  rw [List.getD_eq_getElem?_getD, List.getD_eq_getElem?_getD, List.getElem?_eq_getElem hi2, List.getElem?_eq_getElem (by omega)]
  exact List.pairwise_iff_getElem.1 h.1 i (i + 1) (by omega) hi2 (by omega)
theorem Rise.range {ts : List Tok} {hi : Nat} (h : Rise ts hi) (i : Nat) (hi2 : i < ts.length) : 0 ≤ (ts.getD i tok0).2.2.2 ∧ (ts.getD i tok0).2.2.2 < (hi : Int) := by
  rw [List.getD_eq_getElem?_getD, List.getElem?_eq_getElem hi2]
  exact h.2 _ (List.getElem_mem _)
theorem shT_at (ts : List Tok) (k i : Nat) (hi : i < ts.length) : (ts.map (shT k)).getD i tok0 = shT k (ts.getD i tok0) := by
  rw [List.getD_eq_getElem?_getD, List.getD_eq_getElem?_getD, List.getElem?_map, List.getElem?_eq_getElem hi]
  rfl
end Go.Proofs.YtokhbjagcnjiaaaDoor
