/- A number written decimal, with noughts ahead, is read as it: no program in sight. -/
import Derived.Test.YtokhbjagcnjiaaaDoorLxRa
import Derived.Lib.ItoaMem
import Derived.Lib.ItoaLen
set_option linter.unusedVariables false
set_option linter.unusedSimpArgs false
namespace Go.Proofs.YtokhbjagcnjiaaaDoor
open Go.RowKit

theorem numD_append : ∀ (a b : List UInt8) (v : Int), numD (a ++ b) v = match numD a v with | none => none | some x => numD b x
  | [], b, v => by simp [numD]
  | c :: a, b, v => by
    rw [List.cons_append, numD, numD]
    split
    · rfl
    · exact numD_append a b _
theorem dig_nat (k : Nat) (h : k < 10) : ((UInt8.ofNat (48 + k)).toNat : Int) = 48 + k := by
  rw [UInt8.toNat_ofNat']
  omega
theorem numD_one (k : Nat) (h : k < 10) (v : Int) (hv0 : 0 ≤ v) (hv : 10 * v + k ≤ 9223372036854775807) : numD [UInt8.ofNat (48 + k)] v = some (10 * v + k) := by
  rw [numD, dig_nat k h, if_neg (by omega), numD]
  congr 1
  omega
theorem numD_dec (u : Nat) : u ≤ 9223372036854775807 → numD (Lib.decDigits u) 0 = some (u : Int) := by
  induction u using Nat.strongRecOn with
  | ind u ih =>
    intro hu
    by_cases h : u < 10
    · rw [Lib.decDigits_one h, numD_one u h 0 (by omega) (by omega)]
      congr 1
      omega
    · rw [Lib.decDigits, dif_neg h, numD_append, ih (u / 10) (by omega) (by omega)]
      simp only
      rw [numD_one (u % 10) (by omega) _ (by omega) (by omega)]
      congr 1
      omega
theorem numD_zero (l : List UInt8) : ∀ k, numD (List.replicate k 48 ++ l) 0 = numD l 0
  | 0 => rfl
  | k + 1 => by
    rw [List.replicate_succ, List.cons_append, numD, if_neg (by decide)]
    exact numD_zero l k
theorem dec_dig (u : Nat) : AllDig (Lib.decDigits u) := by
  induction u using Nat.strongRecOn with
  | ind u ih =>
    by_cases h : u < 10
    · rw [Lib.decDigits_one h]
      intro x hx
      simp only [List.mem_singleton] at hx
      subst hx
      have := dig_nat u h
      omega
    · rw [Lib.decDigits, dif_neg h]
      intro x hx
      rcases List.mem_append.1 hx with hx | hx
      · exact ih (u / 10) (by omega) x hx
      · simp only [List.mem_singleton] at hx
        subst hx
        have := dig_nat (u % 10) (by omega)
        omega
theorem dec_len (u : Nat) (h : u ≤ 9223372036854775807) : (Lib.decDigits u).length ≤ 1000 ∧ 1 ≤ (Lib.decDigits u).length := by
  have h1 := Lib.itoa_length_le (u : Int) (by omega) (by omega)
  rw [Lib.itoa_nonneg] at h1
  refine ⟨by omega, ?_⟩
  by_cases h10 : u < 10
  · rw [Lib.decDigits_one h10]; simp
  · rw [Lib.decDigits, dif_neg h10]; simp
theorem runL_digs (c : UInt8) (t : List UInt8) (hc : digitB ((c.toNat : Nat) : Int) = false) : ∀ ds : List UInt8, AllDig ds → runL digitB (ds ++ c :: t).length (ds ++ c :: t) = ds.length
  | [], _ => by rw [List.nil_append, runL_dig_cons, hc]; rfl
  | d :: ds, h => by
    have hd := h d (by simp)
    rw [List.cons_append, runL_dig_cons, if_pos (by simp [digitB]; omega), runL_digs c t hc ds (fun x hx => h x (by simp [hx]))]
    simp; omega
theorem word_a (p : Int) : wordL [97] p = (0, (1, [97], 0, p), 1) := by
  have h1 : letterB (Lib.decodeL [97]).1 = true := by decide +kernel
  have h2 : runL nameB ([97] : List UInt8).length [97] = 1 := by decide +kernel
  have h3 : keyL (([97] : List UInt8).take 1) = [] := by decide +kernel
  rw [wordL, if_pos h1, h2, if_pos h3, if_neg (by decide)]
  rfl
theorem dig_word (b : UInt8) (ds : List UInt8) (h : AllDig (b :: ds)) (c : UInt8) (t : List UInt8) (hc : digitB ((c.toNat : Nat) : Int) = false) (v : Int) (hv : numD (b :: ds) 0 = some v) (p : Int) :
    wordL (b :: ds ++ c :: t) p = (0, (3, [], v, p), (b :: ds).length) := by
  have hb := h b (by simp)
  have hd : (Lib.decodeL (b :: ds ++ c :: t)).1 = b.toNat := by rw [List.cons_append, Lib.decodeL_ascii b _ (by omega)]
  rw [wordL, hd, if_neg (by simp [letterB]; omega), if_pos (by simp [digitB]; omega), runL_digs c t hc (b :: ds) h, List.take_left, hv]
/-- The law, without the program. -/
theorem numbers_plain (n : Int) (h0 : 0 ≤ n) (h1 : n ≤ 9223372036854775807) (k : Nat) (hk : k ≤ 8) :
    lexL (List.replicate k 48 ++ Lib.itoa n ++ [32, 97]) = ([(3, [], n, 0), (1, [97], 0, (((List.replicate k 48 ++ Lib.itoa n).length + 1 : Nat) : Int))], 0, 0) := by
  obtain ⟨u, rfl⟩ := Int.eq_ofNat_of_zero_le h0
  rw [Lib.itoa_nonneg]
  have hl := dec_len u (by omega)
  have hv : numD (List.replicate k 48 ++ Lib.decDigits u) 0 = some (u : Int) := by rw [numD_zero, numD_dec u (by omega)]
  have hd : AllDig (List.replicate k 48 ++ Lib.decDigits u) := fun x hx => by
    rcases List.mem_append.1 hx with hx | hx
    · rw [List.eq_of_mem_replicate hx]; decide
    · exact dec_dig u x hx
  have hlen : (List.replicate k (48 : UInt8) ++ Lib.decDigits u).length = k + (Lib.decDigits u).length := by simp
  generalize List.replicate k (48 : UInt8) ++ Lib.decDigits u = ds at hv hd hlen ⊢
  match ds, hlen with
  | [], hlen => simp at hlen; omega
  | b :: ds, hlen =>
    have hb := hd b (by simp)
    rw [lexL, if_neg (by rw [List.length_append, hlen]; simp; omega)]
    have hnb : blankB ((b.toNat : Nat) : Int) = false := by simp [blankB]; omega
    rw [List.cons_append, lexF_word _ _ _ _ _ hnb, ← List.cons_append, dig_word b ds hd 32 [97] (by decide) _ hv, if_neg (by simp)]
    simp only [List.nil_append, Nat.zero_add]
    rw [List.drop_left]
    have hf : (b :: ds ++ ([32, 97] : List UInt8)).length = ((b :: ds).length + 1) + 1 := by simp
    rw [lexF_blank 32 (by decide) (by decide), hf, lexF_word _ _ _ _ _ (by decide), word_a, if_neg (by simp)]
    simp only [List.drop_succ_cons, List.drop_zero]
    rw [lexF, List.drop_nil, if_pos rfl]
    rfl
end Go.Proofs.YtokhbjagcnjiaaaDoor
