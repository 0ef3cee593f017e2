/- Order is a line, and values are alike just where their bytes are: no program in sight. -/
import Derived.Test.YthafbdkjpgeopaaDoorOrd2
import Derived.Test.YthafbdkjpgeopaaDoorEncS
set_option linter.unusedVariables false
set_option linter.unusedSimpArgs false
namespace Go.Proofs.YthafbdkjpgeopaaDoor
open Go.RowKit

/-- What a line asks of how three things stand. -/
def Line3 (x y z : Int) : Prop := x ≤ 0 → y ≤ 0 → z ≤ 0 ∧ (z = 0 ↔ x = 0 ∧ y = 0)
theorem cmpI_line (a b c : Int) : Line3 (cmpI a b) (cmpI b c) (cmpI a c) := by
  unfold Line3 cmpI
  repeat' split
  all_goals omega
theorem cmpL_line : ∀ (a b c : List Int), Line3 (cmpL a b) (cmpL b c) (cmpL a c)
  | [], [], [] => by simp [Line3, cmpL]
  | [], [], _ :: _ => by simp [Line3, cmpL]
  | [], _ :: _, [] => by simp [Line3, cmpL]
  | [], _ :: _, _ :: _ => by simp [Line3, cmpL]
  | _ :: _, [], [] => by simp [Line3, cmpL]
  | _ :: _, [], _ :: _ => by simp [Line3, cmpL]
  | _ :: _, _ :: _, [] => by simp [Line3, cmpL]
  | x :: xs, y :: ys, z :: zs => by
    have ih := cmpL_line xs ys zs
    unfold Line3 at *
    simp only [cmpL]
    repeat' split
    all_goals first | exact ih | (intro h1 h2; omega)
theorem cmpB_line : ∀ (a b c : List UInt8), Line3 (Lib.compareBytes a b) (Lib.compareBytes b c) (Lib.compareBytes a c)
  | [], [], [] => by simp [Line3, Lib.compareBytes]
  | [], [], _ :: _ => by simp [Line3, Lib.compareBytes]
  | [], _ :: _, [] => by simp [Line3, Lib.compareBytes]
  | [], _ :: _, _ :: _ => by simp [Line3, Lib.compareBytes]
  | _ :: _, [], [] => by simp [Line3, Lib.compareBytes]
  | _ :: _, [], _ :: _ => by simp [Line3, Lib.compareBytes]
  | _ :: _, _ :: _, [] => by simp [Line3, Lib.compareBytes]
  | x :: xs, y :: ys, z :: zs => by
    have ih := cmpB_line xs ys zs
    unfold Line3 at *
    simp only [Lib.compareBytes, UInt8.lt_iff_toNat_lt]
    repeat' split
    all_goals first | exact ih | (intro h1 h2; omega)
theorem ordB_line (ka : Int) (ba : Bool) (na : Int) (sa : ByteArray) (pa : List Int) (kb : Int) (bb : Bool) (nb : Int) (sb : ByteArray) (pb : List Int) (kc : Int) (bc : Bool) (nc : Int) (sc : ByteArray) (pc : List Int) :
    Line3 (ordB ka ba na sa pa kb bb nb sb pb) (ordB kb bb nb sb pb kc bc nc sc pc) (ordB ka ba na sa pa kc bc nc sc pc) := by
  have h1 := cmpI_line na nb nc
  have h2 := cmpB_line sa.data.toList sb.data.toList sc.data.toList
  have h3 := cmpL_line pa pb pc
  unfold ordB
  rcases Int.lt_trichotomy ka kb with h | h | h
  · intro _ h'
    rcases Int.lt_trichotomy kb kc with g | g | g
    · rw [if_pos h, if_pos g, if_pos (show ka < kc by omega)]
      omega
    · rw [if_pos h, if_pos (show ka < kc by omega)]
      omega
    · rw [if_neg (show ¬ kb < kc by omega), if_pos g] at h'
      omega
  · subst h
    simp only [Int.lt_irrefl, if_false]
    rcases Int.lt_trichotomy ka kc with g | g | g
    · intro _ _
      rw [if_pos g]
      omega
    · subst g
      simp only [Int.lt_irrefl, if_false]
      by_cases k1 : ka = 1
      · simp only [k1, if_true]
        cases ba <;> cases bb <;> cases bc <;> simp [Line3]
      by_cases k2 : ka = 2 ∨ ka = 4 ∨ ka = 5
      · simp only [k1, k2, if_false, if_true]
        exact h1
      by_cases k3 : ka = 3
      · rw [if_neg k1, if_neg k2, if_pos k3, if_neg k1, if_neg k2, if_pos k3, if_neg k1, if_neg k2, if_pos k3]
        exact h2
      by_cases k6 : ka = 6
      · rw [if_neg k1, if_neg k2, if_neg k3, if_pos k6, if_neg k1, if_neg k2, if_neg k3, if_pos k6, if_neg k1, if_neg k2, if_neg k3, if_pos k6]
        exact h3
      · rw [if_neg k1, if_neg k2, if_neg k3, if_neg k6, if_neg k1, if_neg k2, if_neg k3, if_neg k6, if_neg k1, if_neg k2, if_neg k3, if_neg k6]
        simp [Line3]
    · intro _ h'
      rw [if_neg (show ¬ ka < kc by omega), if_pos g] at h'
      omega
  · intro h' _
    rw [if_neg (show ¬ ka < kb by omega), if_pos h] at h'
    omega
theorem ordB_self (k : Int) (b : Bool) (n : Int) (s : ByteArray) (p : List Int) : ordB k b n s p k b n s p = 0 := by
  have := ordB_turn k b n s p k b n s p
  omega
theorem cmpI_zero {a b : Int} (h : cmpI a b = 0) : a = b := by
  unfold cmpI at h
  repeat' split at h
  all_goals omega
theorem cmpL_zero : ∀ {a b : List Int}, cmpL a b = 0 → a = b
  | [], [], _ => rfl
  | [], _ :: _, h => by simp [cmpL] at h
  | _ :: _, [], h => by simp [cmpL] at h
  | x :: xs, y :: ys, h => by
    unfold cmpL at h
    split at h
    · omega
    split at h
    · omega
    rw [cmpL_zero h, show x = y by omega]
theorem cmpB_zero : ∀ {a b : List UInt8}, Lib.compareBytes a b = 0 → a = b
  | [], [], _ => rfl
  | [], _ :: _, h => by simp [Lib.compareBytes] at h
  | _ :: _, [], h => by simp [Lib.compareBytes] at h
  | x :: xs, y :: ys, h => by
    unfold Lib.compareBytes at h
    split at h
    · omega
    split at h
    · omega
    rename_i h1 h2
    rw [UInt8.lt_iff_toNat_lt] at h1 h2
    rw [cmpB_zero h, show x = y from UInt8.toNat_inj.1 (by omega)]
theorem bytes_ext {s t : ByteArray} (h : s.data.toList = t.data.toList) : s = t := by
  cases s; cases t
  congr 1
  exact Array.toList_inj.1 h
theorem octs_inj {x y : Int} (hx : -9223372036854775808 ≤ x ∧ x ≤ 9223372036854775807) (hy : -9223372036854775808 ≤ y ∧ y ≤ 9223372036854775807) (h : octs x 8 8 = octs y 8 8) : x = y := by
  simp [octs, List.range_succ, byteAt] at h
  obtain ⟨h0, h1, h2, h3, h4, h5, h6, h7⟩ := h
  have g1 : x % 65536 = y % 65536 := by omega
  have g2 : x % 16777216 = y % 16777216 := by omega
  have g3 : x % 4294967296 = y % 4294967296 := by omega
  have g4 : x % 1099511627776 = y % 1099511627776 := by omega
  have g5 : x % 281474976710656 = y % 281474976710656 := by omega
  have g6 : x % 72057594037927936 = y % 72057594037927936 := by omega
  have g7 : x % 18446744073709551616 = y % 18446744073709551616 := by omega
  omega
theorem octL_inj : ∀ {p q : List Int}, (∀ y ∈ p, 0 ≤ y ∧ y ≤ 1099511627776) → (∀ y ∈ q, 0 ≤ y ∧ y ≤ 1099511627776) → octL p = octL q → p = q
  | [], [], _, _, _ => rfl
  | [], y :: q, _, _, h => by
    have := congrArg List.length h
    simp [octL_length] at this
  | x :: p, [], _, _, h => by
    have := congrArg List.length h
    simp [octL_length] at this
  | x :: p, y :: q, hp, hq, h => by
    have h1 : octs x 8 8 ++ octL p = octs y 8 8 ++ octL q := h
    obtain ⟨e1, e2⟩ := List.append_inj h1 (by simp [octs_length])
    have hx := hp x (by simp)
    have hy := hq y (by simp)
    rw [octs_inj (by omega) (by omega) e1, octL_inj (fun z hz => hp z (by simp [hz])) (fun z hz => hq z (by simp [hz])) e2]
theorem strCells_inj {s t : ByteArray} (h : Lib.strCells s = Lib.strCells t) : s = t := by
  apply bytes_ext
  unfold Lib.strCells at h
  refine List.map_inj_right (fun a b hab => ?_) |>.1 h
  simp at hab
  exact UInt8.toNat_inj.1 (by omega)
theorem right_bare {k n : Int} {b : Bool} {s : ByteArray} {p : List Int} (h : rightB k b n s p = true) :
    (k ≠ 1 → b = false) ∧ (k ≠ 2 → k ≠ 4 → k ≠ 5 → n = 0) := by
  unfold rightB at h
  refine ⟨fun h1 => ?_, fun h2 h4 h5 => ?_⟩
  · by_cases k0 : k = 0
    · simp [k0] at h
      exact h.1.1.1
    by_cases k2 : k = 2
    · simp [k2] at h
      exact h.1.1
    by_cases k3 : k = 3
    · simp [k3] at h
      exact h.1.1.1
    by_cases k4 : k = 4 ∨ k = 5
    · rw [if_neg k0, if_neg h1, if_neg k2, if_neg k3, if_pos k4] at h
      simp at h
      exact h.1.1.1
    by_cases k6 : k = 6
    · simp [k6] at h
      exact h.1.1.1.1.1
    rw [if_neg k0, if_neg h1, if_neg k2, if_neg k3, if_neg k4, if_neg k6] at h
    cases h
  · by_cases k0 : k = 0
    · simp [k0] at h
      exact h.1.1.2
    by_cases k1 : k = 1
    · simp [k1] at h
      exact h.1.1
    by_cases k3 : k = 3
    · simp [k3] at h
      exact h.1.1.2
    by_cases k6 : k = 6
    · simp [k6] at h
      exact h.1.1.1.1.2
    rw [if_neg k0, if_neg k1, if_neg h2, if_neg k3, if_neg (by omega), if_neg k6] at h
    cases h
theorem enc_head {k n : Int} {b : Bool} {s : ByteArray} {p : List Int} (h : rightB k b n s p = true) : (encB k b n s p).head? = some (.int .u8 k) := by
  unfold encB
  rcases right_k h with rfl | rfl | rfl | ⟨rfl, _⟩ | rfl | rfl | ⟨rfl, _⟩ <;> simp
theorem enc_alike {ka na : Int} {ba : Bool} {sa : ByteArray} {pa : List Int} {kb nb : Int} {bb : Bool} {sb : ByteArray} {pb : List Int} (hna : -9223372036854775808 ≤ na ∧ na ≤ 9223372036854775807) (hnb : -9223372036854775808 ≤ nb ∧ nb ≤ 9223372036854775807)
    (ha : rightB ka ba na sa pa = true) (hb : rightB kb bb nb sb pb = true) : ordB ka ba na sa pa kb bb nb sb pb = 0 ↔ encL ka ba na sa pa = encL kb bb nb sb pb := by
  unfold encL
  rw [if_pos ha, if_pos hb]
  by_cases hk : ka = kb
  · subst hk
    unfold ordB
    simp only [Int.lt_irrefl, if_false]
    have e := right_k ha
    have e' := right_k hb
    rcases e with rfl | rfl | rfl | ⟨rfl, h3⟩ | rfl | rfl | ⟨rfl, h6, h7⟩
    · simp [encB]
    · cases ba <;> cases bb <;> simp [encB]
    · simp only [encB]
      simp
      exact ⟨fun h => by rw [cmpI_zero h], fun h => by rw [octs_inj hna hnb h]; simp [cmpI]⟩
    · simp only [encB]
      simp
      refine ⟨fun h => ?_, fun h => ?_⟩
      · rw [bytes_ext (cmpB_zero h)]
      · have hs := strCells_inj (List.append_inj h (by simp [octs_length])).2
        rw [hs]
        have := cmpB_turn sb.data.toList sb.data.toList
        omega
    · simp only [encB]
      simp
      exact ⟨fun h => by rw [cmpI_zero h], fun h => by rw [octs_inj hna hnb h]; simp [cmpI]⟩
    · simp only [encB]
      simp
      exact ⟨fun h => by rw [cmpI_zero h], fun h => by rw [octs_inj hna hnb h]; simp [cmpI]⟩
    · have h7' : ∀ y ∈ pb, 0 ≤ y ∧ y ≤ 1099511627776 := by
        rcases e' with h | h | h | ⟨h, _⟩ | h | h | ⟨_, _, h⟩
        all_goals first | exact h | (exact absurd h (by decide))
      simp only [encB]
      simp
      refine ⟨fun h => ?_, fun h => ?_⟩
      · rw [cmpL_zero h]
        simp
      · rw [octL_inj h7 h7' h.2]
        have := cmpL_turn pb pb
        omega
  · refine ⟨fun h => ?_, fun h => ?_⟩
    · unfold ordB at h
      rcases Int.lt_trichotomy ka kb with g | g | g
      · rw [if_pos g] at h
        omega
      · exact absurd g hk
      · rw [if_neg (by omega), if_pos g] at h
        omega
    · have h1 := enc_head ha
      have h2 := enc_head hb
      rw [h, h2] at h1
      simp at h1
      exact absurd h1.symm hk
/-- All bytes of a row are bytes. -/
def Bytes8 (xs : List Value) : Prop := ∀ x ∈ xs, ∃ n : Int, x = .int .u8 n ∧ 0 ≤ n ∧ n < 256
theorem bytes8_append {a b : List Value} (h : Bytes8 a) (h' : Bytes8 b) : Bytes8 (a ++ b) := fun x hx => by
  rcases List.mem_append.1 hx with g | g
  · exact h x g
  · exact h' x g
theorem bytes8_one {x : Int} (h : 0 ≤ x ∧ x < 256) : Bytes8 [.int .u8 x] := fun y hy => by
  simp at hy
  exact ⟨x, hy, h⟩
theorem bytes8_octs (x : Int) (m k : Nat) : Bytes8 (octs x m k) := fun y hy => by
  simp only [octs, List.mem_map] at hy
  obtain ⟨j, _, rfl⟩ := hy
  exact ⟨_, rfl, by unfold byteAt; omega, by unfold byteAt; omega⟩
theorem bytes8_octL : ∀ p, Bytes8 (octL p)
  | [] => fun x hx => by cases hx
  | x :: r => bytes8_append (bytes8_octs x 8 8) (bytes8_octL r)
theorem bytes8_str (s : ByteArray) : Bytes8 (Lib.strCells s) := fun y hy => by
  simp only [Lib.strCells, List.mem_map] at hy
  obtain ⟨c, _, rfl⟩ := hy
  have := c.toNat_lt
  exact ⟨_, rfl, by omega, by omega⟩
theorem bytes8_enc (k : Int) (b : Bool) (n : Int) (s : ByteArray) (p : List Int) : Bytes8 (encL k b n s p) := by
  unfold encL
  split
  · rename_i h
    unfold encB
    rcases right_k h with rfl | rfl | rfl | ⟨rfl, _⟩ | rfl | rfl | ⟨rfl, h6, _⟩
    · exact bytes8_one (by decide)
    · cases b
      · exact bytes8_append (bytes8_one (by decide)) (bytes8_one (by decide))
      · exact bytes8_append (bytes8_one (by decide)) (bytes8_one (by decide))
    · exact bytes8_append (bytes8_one (by decide)) (bytes8_octs _ _ _)
    · exact bytes8_append (bytes8_append (bytes8_one (by decide)) (bytes8_octs _ _ _)) (bytes8_str _)
    · exact bytes8_append (bytes8_one (by decide)) (bytes8_octs _ _ _)
    · exact bytes8_append (bytes8_one (by decide)) (bytes8_octs _ _ _)
    · exact bytes8_append (bytes8_append (bytes8_one (by decide)) (bytes8_one (by omega))) (bytes8_octL _)
  · exact fun x hx => by cases hx
theorem foldl_push (l : List Int) : ∀ (r : ByteArray), (l.foldl (fun r n => r.push (UInt8.ofNat n.toNat)) r).data.toList = r.data.toList ++ l.map fun n => UInt8.ofNat n.toNat := by
  induction l with
  | nil => intro r; simp
  | cons n l ih =>
    intro r
    simp only [List.foldl_cons, List.map_cons]
    rw [ih]
    simp [ByteArray.push]
theorem strOf_list (xs : List Value) : (strOf xs).data.toList = (xs.map intOf).map fun n => UInt8.ofNat n.toNat := by
  unfold strOf
  rw [foldl_push]
  rfl
theorem strOf_inj : ∀ {xs ys : List Value}, Bytes8 xs → Bytes8 ys → (strOf xs).data.toList = (strOf ys).data.toList → xs = ys
  | [], [], _, _, _ => rfl
  | [], y :: ys, _, _, h => by simp [strOf_list] at h
  | x :: xs, [], _, _, h => by simp [strOf_list] at h
  | x :: xs, y :: ys, hx, hy, h => by
    simp only [strOf_list, List.map_cons, List.cons.injEq] at h
    obtain ⟨n, rfl, n0, n1⟩ := hx x (by simp)
    obtain ⟨m, rfl, m0, m1⟩ := hy y (by simp)
    have hr := strOf_inj (xs := xs) (ys := ys) (fun z hz => hx z (by simp [hz])) (fun z hz => hy z (by simp [hz])) (by simpa only [strOf_list] using h.2)
    have h1 := congrArg UInt8.toNat h.1
    simp [intOf] at h1
    rw [hr, show n = m by omega]
end Go.Proofs.YthafbdkjpgeopaaDoor
