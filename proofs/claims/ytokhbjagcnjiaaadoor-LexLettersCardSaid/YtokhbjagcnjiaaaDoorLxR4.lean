/- The reference's sign is signL. -/
import Derived.Test.YtokhbjagcnjiaaaDoorLxR3
import Derived.Test.YtokhbjagcnjiaaaDoorLxMovP
set_option linter.unusedVariables false
set_option linter.unusedSimpArgs false
namespace Go.Proofs.YtokhbjagcnjiaaaDoor
open Go.RowKit

theorem sign_pos (b : UInt8) : (0 ≤ Lib.indexByte signs b) ↔ signs.contains b = true := by
  rw [← sign_one, decide_eq_true_iff]
theorem signL_one (b : UInt8) : signL [b] = if signs.contains b then [b] else [] := by
  unfold signL
  simp only [Lib.hasPrefix, List.isPrefixOf, Bool.and_false, List.headD_cons, sign_pos, List.take_succ_cons, List.take_zero]
  simp
theorem signL_two (b d : UInt8) (t : List UInt8) : signL (b :: d :: t) = if ([b, d] == ([60, 62] : List UInt8) || ([b, d] == ([60, 61] : List UInt8) || ([b, d] == ([62, 61] : List UInt8) || [b, d] == ([46, 46] : List UInt8)))) then [b, d] else if signs.contains b then [b] else [] := by
  have hp : ∀ x y : UInt8, Lib.hasPrefix (b :: d :: t) [x, y] = ([b, d] == [x, y]) := fun x y => by
    simp only [Lib.hasPrefix, List.isPrefixOf, Bool.and_true]
    rw [Bool.eq_iff_iff]
    simp only [Bool.and_eq_true, beq_iff_eq, List.cons.injEq, and_true]
    constructor <;> rintro ⟨rfl, rfl⟩ <;> exact ⟨rfl, rfl⟩
  unfold signL
  rw [hp, hp, hp, hp]
  simp only [List.headD_cons, sign_pos, List.take_succ_cons, List.take_zero]
  cases h1 : ([b, d] == ([60, 62] : List UInt8))
  · cases h2 : ([b, d] == ([60, 61] : List UInt8))
    · cases h3 : ([b, d] == ([62, 61] : List UInt8))
      · cases h4 : ([b, d] == ([46, 46] : List UInt8))
        · simp
        · simp [← (beq_iff_eq.1 h4)]
      · simp [← (beq_iff_eq.1 h3)]
    · simp [← (beq_iff_eq.1 h2)]
  · simp [← (beq_iff_eq.1 h1)]
theorem ba_of (T : ByteArray) (l : List UInt8) (h : T.data.toList = l) : T = ⟨l.toArray⟩ := by
  apply ByteArray.ext
  rw [← Array.toList_inj, h]
theorem rsign_any (s : ByteArray) (a : Nat) (w : World) (hs : s.size ≤ 4096) (ha : a < s.size) :
    Calls Tryd.prog 44 #[.string s, .int .i64 (a : Nat)] w fun e w' => e = .returned (.string ⟨(signL (s.data.toList.drop a)).toArray⟩) ∧ Below w.heap.size w w' := by
  have hls : s.data.toList.length = s.size := rfl
  have hl : a < s.data.toList.length := ha
  have hb : s.data.toList[a]'hl = s[a]'ha := rfl
  by_cases h : a + 1 = s.size
  · have hd : s.data.toList.drop a = [s[a]'ha] := by
      rw [List.drop_eq_getElem_cons hl, List.drop_eq_nil_of_le (by omega), hb]
    refine (rsign_last s a w hs h (s[a]'ha) rfl _ rfl).mono ?_
    rintro e w1 ⟨rfl, hB⟩
    refine ⟨?_, hB⟩
    rw [hd, signL_one, ba_of (s.extract a s.size) [s[a]'ha] (by rw [Lib.extract_to_end, hd])]
    cases signs.contains (s[a]'ha) <;> rfl
  · have h2 : a + 1 < s.size := by omega
    have hl2 : a + 1 < s.data.toList.length := h2
    have hd : s.data.toList.drop a = (s[a]'ha) :: (s[a + 1]'h2) :: s.data.toList.drop (a + 2) := by
      rw [List.drop_eq_getElem_cons hl, List.drop_eq_getElem_cons hl2]
      rfl
    have hx : ∀ n, (s.extract a (a + n)).data.toList = (s.data.toList.drop a).take n := fun n => by
      rw [ext_list]
      simp [List.drop_take]
    have hT : s.extract a (a + 2) = ⟨[s[a]'ha, s[a + 1]'h2].toArray⟩ := ba_of _ _ (by rw [hx, hd]; rfl)
    have hT1 : s.extract a (a + 1) = ⟨[s[a]'ha].toArray⟩ := ba_of _ _ (by rw [hx, hd]; rfl)
    have hTl : (s.extract a (a + 2)).toList = [s[a]'ha, s[a + 1]'h2] := by rw [Lib.toList_data, hT]
    refine (rsign_more s a w hs h2 (s[a]'ha) rfl _ _ rfl rfl).mono ?_
    rintro e w1 ⟨rfl, hB⟩
    refine ⟨?_, hB⟩
    rw [hd, signL_two, hTl, hT, hT1]
    split
    · rfl
    · cases signs.contains (s[a]'ha) <;> rfl
end Go.Proofs.YtokhbjagcnjiaaaDoor
