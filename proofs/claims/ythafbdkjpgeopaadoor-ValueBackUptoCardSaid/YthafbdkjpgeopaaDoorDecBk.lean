/- What was written is read as it was; cut off it is none: no program in sight. -/
import Derived.Test.YthafbdkjpgeopaaDoorDecW
import Derived.Test.YthafbdkjpgeopaaDoorEncS
set_option linter.unusedVariables false
set_option linter.unusedSimpArgs false
namespace Go.Proofs.YthafbdkjpgeopaaDoor
open Go.RowKit

theorem beI_octs (x : Int) (m : Nat) : ∀ k, k ≤ m → beI ((octs x m k).map intOf) = x / 2 ^ (8 * (m - k)) % 2 ^ (8 * k)
  | 0, _ => by simp [octs, beI]
  | k + 1, h => by
    rw [octs_succ, List.map_append, List.map_cons, List.map_nil]
    rw [beI_snoc, beI_octs x m k (by omega)]
    show _ * 256 + byteAt x (8 * (m - 1 - k)) = _
    unfold byteAt
    have e1 : 8 * (m - k) = 8 * (m - 1 - k) + 8 := by omega
    have e2 : m - (k + 1) = m - 1 - k := by omega
    rw [e1, e2, Int.pow_add, ← Int.ediv_ediv_of_nonneg (by exact Int.le_of_lt (Int.pow_pos (by decide)))]
    generalize x / 2 ^ (8 * (m - 1 - k)) = y
    have e3 : (2 : Int) ^ (8 * (k + 1)) = 256 * 2 ^ (8 * k) := by
      rw [show 8 * (k + 1) = 8 + 8 * k by omega, Int.pow_add]
      rfl
    rw [e3]
    have hM : (0 : Int) < 2 ^ (8 * k) := Int.pow_pos (by decide)
    generalize (2 : Int) ^ (8 * k) = M at hM
    show y / 256 % M * 256 + y % 256 = _
    have h1 := Int.mul_ediv_add_emod y 256
    have h2 := Int.mul_ediv_add_emod (y / 256) M
    have h3 := Int.emod_nonneg (y / 256) (show M ≠ 0 by omega)
    have h4 := Int.emod_lt_of_pos (y / 256) hM
    have h5 := Int.emod_nonneg y (show (256 : Int) ≠ 0 by omega)
    have h6 := Int.emod_lt_of_pos y (show (0 : Int) < 256 by omega)
    have h7 : y = (y / 256 % M * 256 + y % 256) + 256 * M * (y / 256 / M) := by
      have : 256 * M * (y / 256 / M) = 256 * (M * (y / 256 / M)) := Int.mul_assoc _ _ _
      rw [this]
      omega
    have h8 : y % (256 * M) = (y / 256 % M * 256 + y % 256) % (256 * M) := by
      conv => lhs; rw [h7]
      exact Int.add_mul_emod_self_left _ _ _
    rw [h8]
    exact (Int.emod_eq_of_lt (by omega) (by omega)).symm
theorem sgn_octs (x : Int) (h0 : -9223372036854775808 ≤ x) (h1 : x ≤ 9223372036854775807) : sgn (beI ((octs x 8 8).map intOf)) = x := by
  rw [beI_octs x 8 8 (Nat.le_refl _)]
  unfold sgn
  rw [IntKind.wrap_i64]
  have : (2 : Int) ^ (8 * (8 - 8)) = 1 := by decide
  rw [this]
  have : (2 : Int) ^ (8 * 8) = 18446744073709551616 := by decide
  rw [this]
  omega
theorem octs_nums_len (x : Int) (m k : Nat) : ((octs x m k).map intOf).length = k := by rw [List.length_map, octs_length]
theorem octL_nums (T : List Int) : ∀ (p : List Int) (_ : ∀ y ∈ p, 0 ≤ y ∧ y ≤ 1099511627776), (List.range p.length).map (fun j => sgn (beI ((((octL p).map intOf ++ T).drop (8 * j)).take 8))) = p
  | [], _ => rfl
  | x :: r, h => by
    have hx := h x (by simp)
    rw [List.length_cons, List.range_succ_eq_map, List.map_cons, List.map_map]
    have e0 : sgn (beI ((((octL (x :: r)).map intOf ++ T).drop (8 * 0)).take 8)) = x := by
      rw [octL, List.map_append, Nat.mul_zero, List.drop_zero, List.append_assoc, List.take_left' (octs_nums_len x 8 8)]
      exact sgn_octs x (by omega) (by omega)
    rw [e0]
    congr 1
    refine Eq.trans (List.map_congr_left fun j _ => ?_) (octL_nums T r (fun y hy => h y (by simp [hy])))
    show sgn (beI ((((octL (x :: r)).map intOf ++ T).drop (8 * (j + 1))).take 8)) = _
    rw [octL, List.map_append, List.append_assoc, show 8 * (j + 1) = 8 + 8 * j by omega, ← List.drop_drop, List.drop_left' (octs_nums_len x 8 8)]
theorem strOfNums_cells (s : ByteArray) : strOfNums ((Lib.strCells s).map intOf) = s := by
  obtain ⟨d⟩ := s
  simp only [strOfNums, Lib.strCells, List.map_map]
  congr 1
  refine Eq.trans (congrArg List.toArray ?_) (Array.toArray_toList (xs := d))
  refine Eq.trans (List.map_congr_left fun b _ => ?_) (List.map_id _)
  show UInt8.ofNat (Int.toNat (intOf (Value.int .u8 (b.toNat : Int)))) = b
  simp [intOf]
/-- The bytes of a thing, as numbers. -/
def encN (k : Int) (b : Bool) (n : Int) (s : ByteArray) (p : List Int) : List Int := (encL k b n s p).map intOf
theorem strCells_len (s : ByteArray) : ((Lib.strCells s).map intOf).length = s.size := by
  rw [Lib.strCells, List.map_map, List.length_map, Array.length_toList]
  rfl
/-- What stands where a thing was written. -/
theorem dec_back (k : Int) (b : Bool) (n : Int) (s : ByteArray) (p : List Int) (ahead behind : List Int) (hn : -9223372036854775808 ≤ n ∧ n ≤ 9223372036854775807) (h : rightB k b n s p = true) :
    decZ (ahead ++ encN k b n s p ++ behind) ahead.length = ⟨k, n, b, s, p, (ahead.length : Int) + (encN k b n s p).length, 0⟩ := by
  have hE : encL k b n s p = encB k b n s p := if_pos h
  have hN : encN k b n s p = (encB k b n s p).map intOf := by rw [encN, hE]
  obtain ⟨e, he⟩ : ∃ e, e = encN k b n s p := ⟨_, rfl⟩
  rw [← he]
  have hlen : (ahead ++ e ++ behind).length = ahead.length + e.length + behind.length := by simp; omega
  have hdrop : ∀ j, (ahead ++ e ++ behind).drop (ahead.length + j) = (e ++ behind).drop j := fun j => by
    rw [List.append_assoc, ← List.drop_drop, List.drop_left]
  have hget : ∀ j, (ahead ++ e ++ behind).getD (ahead.length + j) 0 = (e ++ behind).getD j 0 := fun j => by
    rw [List.append_assoc]
    simp [List.getD, List.getElem?_append_right]
  have hg0 := hget 0
  rw [Nat.add_zero] at hg0
  have hpos : 0 < e.length := by
    rw [he, hN, List.length_map]
    unfold encB
    split
    · simp
    split
    · simp
    split
    · simp
    split <;> simp
  rw [decZ, if_pos (by rw [hlen]; omega), Int.toNat_natCast]
  generalize hbs : ahead ++ e ++ behind = bs at hlen hdrop hget hg0 ⊢
  unfold decO
  rw [hg0]
  rw [hN] at he
  have hr := h
  rcases right_k h with rfl | rfl | rfl | ⟨rfl, h3⟩ | rfl | rfl | ⟨rfl, h6, h7⟩
  · simp [rightB] at h
    have e1 : e = [0] := he
    obtain ⟨⟨⟨rfl, rfl⟩, hs⟩, rfl⟩ := h
    have hs' : s = ⟨#[]⟩ := hs
    rw [hs', e1]
    rfl
  · simp [rightB] at h
    have e1 : e = [1, if b then 1 else 0] := by rw [he]; cases b <;> rfl
    obtain ⟨⟨rfl, hs⟩, rfl⟩ := h
    have hs' : s = ⟨#[]⟩ := hs
    have hd := hdrop 1
    rw [e1] at hlen hd ⊢
    rw [hs', hd]
    have hl : ahead.length + 1 + 1 ≤ bs.length := by rw [hlen]; first | (simp; done) | (simp; omega)
    cases b
    · simp [beI, hl]
    · simp [beI, hl]
  · simp [rightB] at h
    have e1 : e = 2 :: (octs n 8 8).map intOf := he
    obtain ⟨⟨rfl, hs⟩, rfl⟩ := h
    have hs' : s = ⟨#[]⟩ := hs
    have hd := hdrop 1
    rw [e1] at hlen hd ⊢
    rw [List.cons_append, List.drop_succ_cons, List.drop_zero] at hd
    have ht : (bs.drop (ahead.length + 1)).take 8 = (octs n 8 8).map intOf := by rw [hd, List.take_left' (octs_nums_len n 8 8)]
    have hl : ahead.length + 1 + 8 ≤ bs.length := by rw [hlen]; first | (simp [octs_length]; done) | (simp [octs_length]; omega)
    rw [ht, sgn_octs n hn.1 hn.2]
    rw [hs'] at hr ⊢
    simp [hl, hr, octs_length]
  · simp [rightB] at h
    have e1 : e = 3 :: ((octs s.size 4 4).map intOf ++ (Lib.strCells s).map intOf) := by rw [he]; simp [encB, intOf]
    obtain ⟨⟨⟨rfl, rfl⟩, rfl⟩, hs⟩ := h
    have hd := hdrop 1
    have hd5 := hdrop 5
    rw [e1] at hlen hd hd5 ⊢
    rw [List.cons_append, List.drop_succ_cons, List.drop_zero] at hd
    have ht : (bs.drop (ahead.length + 1)).take 4 = (octs s.size 4 4).map intOf := by rw [hd, List.append_assoc, List.take_left' (octs_nums_len _ 4 4)]
    have hd5' : (bs.drop (ahead.length + 5)).take s.size = (Lib.strCells s).map intOf := by
      rw [hd5, show (5 : Nat) = 4 + 1 by rfl, List.cons_append, List.drop_succ_cons, List.append_assoc, List.drop_left' (octs_nums_len _ 4 4), List.take_left' (strCells_len s)]
    have hb4 : beI ((octs s.size 4 4).map intOf) = (s.size : Int) := by
      rw [beI_octs _ 4 4 (Nat.le_refl _)]
      have : (2 : Int) ^ (8 * (4 - 4)) = 1 := by decide
      rw [this]
      have : (2 : Int) ^ (8 * 4) = 4294967296 := by decide
      rw [this]
      omega
    have hl : bs.length = ahead.length + (5 + s.size) + behind.length := by
      rw [hlen]
      simp only [List.length_cons, List.length_append, octs_nums_len, strCells_len]
      omega
    rw [ht, hb4, Int.toNat_natCast, hd5', strOfNums_cells]
    rw [if_neg (by simp [List.getD]), if_neg (by simp [List.getD]), if_neg (by simp [List.getD]), if_pos (by simp [List.getD]), if_pos ⟨by omega, by omega, by omega, hr⟩]
    congr 1
    simp only [List.length_cons, List.length_append, octs_nums_len, strCells_len]
    omega
  · simp [rightB] at h
    have e1 : e = 4 :: (octs n 8 8).map intOf := he
    obtain ⟨⟨⟨rfl, hs⟩, rfl⟩, hid⟩ := h
    have hs' : s = ⟨#[]⟩ := hs
    have hd := hdrop 1
    rw [e1] at hlen hd ⊢
    rw [List.cons_append, List.drop_succ_cons, List.drop_zero] at hd
    have ht : (bs.drop (ahead.length + 1)).take 8 = (octs n 8 8).map intOf := by rw [hd, List.take_left' (octs_nums_len n 8 8)]
    have hl : ahead.length + 1 + 8 ≤ bs.length := by rw [hlen]; first | (simp [octs_length]; done) | (simp [octs_length]; omega)
    rw [ht, sgn_octs n hn.1 hn.2]
    rw [hs'] at hr ⊢
    simp [hl, hr, octs_length]
  · simp [rightB] at h
    have e1 : e = 5 :: (octs n 8 8).map intOf := he
    obtain ⟨⟨⟨rfl, hs⟩, rfl⟩, hid⟩ := h
    have hs' : s = ⟨#[]⟩ := hs
    have hd := hdrop 1
    rw [e1] at hlen hd ⊢
    rw [List.cons_append, List.drop_succ_cons, List.drop_zero] at hd
    have ht : (bs.drop (ahead.length + 1)).take 8 = (octs n 8 8).map intOf := by rw [hd, List.take_left' (octs_nums_len n 8 8)]
    have hl : ahead.length + 1 + 8 ≤ bs.length := by rw [hlen]; first | (simp [octs_length]; done) | (simp [octs_length]; omega)
    rw [ht, sgn_octs n hn.1 hn.2]
    rw [hs'] at hr ⊢
    simp [hl, hr, octs_length]
  · simp [rightB] at h
    have e1 : e = 6 :: (p.length : Int) :: (octL p).map intOf := by rw [he]; simp [encB, intOf]
    obtain ⟨⟨⟨⟨⟨rfl, rfl⟩, hs⟩, hp0⟩, hp9⟩, hid⟩ := h
    have hs' : s = ⟨#[]⟩ := hs
    have hl8 : ((octL p).map intOf).length = 8 * p.length := by rw [List.length_map, octL_length]
    have hg1 := hget 1
    rw [e1] at hlen hg1 ⊢
    have hg1' : bs.getD (ahead.length + 1) 0 = (p.length : Int) := by rw [hg1]; simp [List.getD]
    have hl : bs.length = ahead.length + (2 + 8 * p.length) + behind.length := by
      rw [hlen]
      simp only [List.length_cons, hl8]
      omega
    have hnp : numsP bs (ahead.length + 2) p.length = p := by
      refine Eq.trans (List.map_congr_left fun j _ => ?_) (octL_nums behind p h7)
      rw [show ahead.length + 2 + 8 * j = ahead.length + (2 + 8 * j) by omega, hdrop, e1, show 2 + 8 * j = 8 * j + 1 + 1 by omega]
      rfl
    rw [hg1', Int.toNat_natCast, hnp]
    rw [hs'] at hr ⊢
    rw [if_neg (by simp [List.getD]), if_neg (by simp [List.getD]), if_neg (by simp [List.getD]), if_neg (by simp [List.getD]), if_pos (by simp [List.getD]), if_pos ⟨by omega, by omega, hr⟩]
    congr 1
    simp only [List.length_cons, hl8]
    omega
/-- Cut off, it is none. -/
theorem dec_cut (k : Int) (b : Bool) (n : Int) (s : ByteArray) (p : List Int) (q : Nat) (h : rightB k b n s p = true) (hq : q < (encN k b n s p).length) :
    decZ ((encN k b n s p).take q) 0 = D7.bad := by
  have hE : encL k b n s p = encB k b n s p := if_pos h
  have hN : encN k b n s p = (encB k b n s p).map intOf := by rw [encN, hE]
  rw [hN] at hq ⊢
  obtain ⟨e, he⟩ : ∃ e, e = (encB k b n s p).map intOf := ⟨_, rfl⟩
  rw [← he] at hq ⊢
  have hlen : (e.take q).length = q := by rw [List.length_take]; omega
  unfold decZ
  rw [hlen]
  by_cases h0 : q = 0
  · rw [if_neg (by omega)]
  rw [if_pos (by omega)]
  have hg0 : (e.take q).getD 0 0 = e.getD 0 0 := by simp [List.getD, List.getElem?_take, show 0 < q by omega]
  show decO (e.take q) 0 = D7.bad
  unfold decO
  rw [hg0, hlen]
  rcases right_k h with rfl | rfl | rfl | ⟨rfl, h3⟩ | rfl | rfl | ⟨rfl, h6, h7⟩
  · have e1 : e = [0] := he
    rw [e1] at hq
    simp at hq
    omega
  · have e1 : e = [1, if b then 1 else 0] := by rw [he]; cases b <;> rfl
    rw [e1] at hq ⊢
    simp at hq
    have : ¬ 2 ≤ q := by omega
    simp [this]
  · have e1 : e = 2 :: (octs n 8 8).map intOf := he
    rw [e1] at hq ⊢
    simp [octs_length] at hq
    have : ¬ 9 ≤ q := by omega
    simp [this]
  · have e1 : e = 3 :: ((octs s.size 4 4).map intOf ++ (Lib.strCells s).map intOf) := by rw [he]; simp [encB, intOf]
    have hl : e.length = 5 + s.size := by
      rw [e1]
      simp only [List.length_cons, List.length_append, octs_nums_len, strCells_len]
      omega
    rw [hl] at hq
    rw [if_neg (by rw [e1]; simp [List.getD]), if_neg (by rw [e1]; simp [List.getD]), if_neg (by rw [e1]; simp [List.getD]), if_pos (by rw [e1]; simp [List.getD])]
    refine if_neg (fun hc => ?_)
    obtain ⟨c1, c2, c3, c4⟩ := hc
    have ht : ((e.take q).drop (0 + 1)).take 4 = (octs s.size 4 4).map intOf := by
      rw [List.drop_take, List.take_take, show min 4 (q - (0 + 1)) = 4 by omega, e1, List.drop_succ_cons, List.drop_zero, List.take_left' (octs_nums_len _ 4 4)]
    have hb4 : beI ((octs s.size 4 4).map intOf) = (s.size : Int) := by
      rw [beI_octs _ 4 4 (Nat.le_refl _)]
      have : (2 : Int) ^ (8 * (4 - 4)) = 1 := by decide
      rw [this]
      have : (2 : Int) ^ (8 * 4) = 4294967296 := by decide
      rw [this]
      omega
    rw [ht, hb4] at c3
    omega
  · have e1 : e = 4 :: (octs n 8 8).map intOf := he
    rw [e1] at hq ⊢
    simp [octs_length] at hq
    have : ¬ 9 ≤ q := by omega
    simp [this]
  · have e1 : e = 5 :: (octs n 8 8).map intOf := he
    rw [e1] at hq ⊢
    simp [octs_length] at hq
    have : ¬ 9 ≤ q := by omega
    simp [this]
  · have e1 : e = 6 :: (p.length : Int) :: (octL p).map intOf := by rw [he]; simp [encB, intOf]
    have hl8 : ((octL p).map intOf).length = 8 * p.length := by rw [List.length_map, octL_length]
    have hl : e.length = 2 + 8 * p.length := by
      rw [e1]
      simp only [List.length_cons, hl8]
      omega
    rw [hl] at hq
    rw [if_neg (by rw [e1]; simp [List.getD]), if_neg (by rw [e1]; simp [List.getD]), if_neg (by rw [e1]; simp [List.getD]), if_neg (by rw [e1]; simp [List.getD]), if_pos (by rw [e1]; simp [List.getD])]
    refine if_neg (fun hc => ?_)
    obtain ⟨c1, c2, c3⟩ := hc
    have hg1 : (e.take q).getD (0 + 1) 0 = (p.length : Int) := by
      rw [e1]
      simp [List.getD, List.getElem?_take, show 1 < q by omega]
    rw [hg1] at c2
    omega
end Go.Proofs.YthafbdkjpgeopaaDoor
