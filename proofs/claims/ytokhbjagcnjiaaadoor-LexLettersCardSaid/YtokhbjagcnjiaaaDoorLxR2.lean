/- The reference's name: how many bytes of a name stand at a place. -/
import Derived.Test.YtokhbjagcnjiaaaDoorLxR1
import Derived.Test.YtokhbjagcnjiaaaDoorLxMovP
import Derived.Test.YtokhbjagcnjiaaaDoorLxBig
set_option linter.unusedVariables false
set_option linter.unusedSimpArgs false
namespace Go.Proofs.YtokhbjagcnjiaaaDoor
open Go.RowKit

/-- How many bytes of a name stand at a text's head. -/
def nmL (l : List UInt8) : Nat := if l = [] then 0 else if letterB (Lib.decodeL l).1 then runL nameB l.length l else 0
theorem dig_same (s : ByteArray) (p : Nat) (hp : p < s.size) : digitB (((s[p]'hp).toNat : Nat) : Int) = digitB (Lib.decodeL (s.data.toList.drop p)).1 := by
  have hl : p < s.data.toList.length := hp
  have he : s.data.toList[p]'hl = s[p]'hp := rfl
  rw [List.drop_eq_getElem_cons hl, he]
  by_cases ha : (s[p]'hp).toNat < 128
  · rw [Lib.decodeL_ascii _ _ ha]
  · have h1 : 128 ≤ (Lib.decodeL ((s[p]'hp) :: s.data.toList.drop (p + 1))).1 := (decode_high ⟨((s[p]'hp) :: s.data.toList.drop (p + 1)).toArray⟩ 0 (by show 0 < ((s[p]'hp) :: s.data.toList.drop (p + 1)).toArray.size; simp) (by show 128 ≤ (s[p]'hp).toNat; omega)).1
    have e1 : digitB (((s[p]'hp).toNat : Nat) : Int) = false := by unfold digitB; simp; omega
    have e2 : digitB ((Lib.decodeL ((s[p]'hp) :: s.data.toList.drop (p + 1))).1 : Int) = false := by unfold digitB; simp; omega
    rw [e1, e2]
set_option maxRecDepth 100000 in
set_option maxHeartbeats 1600000 in
theorem rname_any (s : ByteArray) (a : Nat) (w : World) (hs : s.size ≤ 4096) (ha : a ≤ s.size) (hU : Lib.Utf8Tabs 1 2 w) :
    Calls Tryd.prog 40 #[.string s, .int .i64 (a : Nat)] w fun e w' => e = .returned (.int .i64 (nmL (s.data.toList.drop a) : Nat)) ∧ Below w.heap.size w w' := by
  have hls : s.data.toList.length = s.size := rfl
  obtain ⟨N, hN⟩ : ∃ N, nmL (s.data.toList.drop a) = N := ⟨_, rfl⟩
  rw [hN]
  have hsi : (s.size : Int) ≤ 4096 := by omega
  have HN := Aside0.mk hN
  have HU := Aside0.mk hU
  have HLS := Aside0.mk hls
  clear hN hU hls
  go_enter Tryd.func40, Tryd.ntmps40
  go_wp2
  go_loopg [5] (s.size + 1) (fun gk v5 wr => ∃ (n p : Nat), v5 = .int .i64 n ∧ a + n = p ∧ p ≤ s.size ∧ s.size < gk + p ∧ Below w.heap.size w wr ∧ Aside0 (n + (if n = 0 then nmL (s.data.toList.drop p) else runL nameB (s.size - p) (s.data.toList.drop p)) = N))
  case atStart => exact ⟨0, a, rfl, by omega, by omega, by omega, Below.refl _ _, ⟨by rw [if_pos rfl, Nat.zero_add]; exact HN.out⟩⟩
  case round =>
    obtain ⟨n, p, rfl, hap, hps, hg, HB, HV⟩ := hrel
    have hsum : (a : Int) + (n : Int) = (p : Int) := by omega
    have hn4 : (n : Int) ≤ 4096 := by omega
    have HAP := Aside0.mk hap
    clear hap
    have hpi : (p : Int) ≤ (s.size : Int) := by omega
    have hp0 : (0 : Int) ≤ (p : Int) := by omega
    by_cases hp : p < s.size
    · have hlti : (p : Int) < (s.size : Int) := by omega
      have hne : s.data.toList.drop p ≠ [] := drop_ne hp
      have hds := dig_same s p hp
      have hdg := fun W => rdigit_any (((s[p]'hp).toNat : Nat) : Int) W
      rw [hds] at hdg
      have hw1 := Lib.decodeL_width (s.data.toList.drop p)
      have hw2 := Lib.decodeL_le (s.data.toList.drop p) hne
      rw [List.length_drop, HLS.out] at hw2
      have hDc : ∀ W, Below w.heap.size w W → Calls Tryd.prog 21 #[.string (s.extract p s.size)] W fun e w1 => e = .returned (.tuple #[.int .i32 (Lib.decodeL (s.data.toList.drop p)).1, .int .i64 (Lib.decodeL (s.data.toList.drop p)).2]) ∧ Below W.heap.size W w1 := fun W hW => by
        have h := Tryd.utf8_DecodeRuneInString (s.extract p s.size) W (utabs_keep HU.out hW)
        rw [decodeGo_at s p hp] at h
        exact h
      have hstep : ∀ is, runL is (s.size - p) (s.data.toList.drop p) = if is (Lib.decodeL (s.data.toList.drop p)).1 then (Lib.decodeL (s.data.toList.drop p)).2 + runL is (s.size - (p + (Lib.decodeL (s.data.toList.drop p)).2)) (s.data.toList.drop (p + (Lib.decodeL (s.data.toList.drop p)).2)) else 0 := fun is => by
        obtain ⟨f, hf⟩ : ∃ f, s.size - p = f + 1 := ⟨s.size - p - 1, by omega⟩
        rw [hf, runL_ne is f _ hne, List.drop_drop]
        have e := runL_fuel is f (s.size - (p + (Lib.decodeL (s.data.toList.drop p)).2)) (s.data.toList.drop (p + (Lib.decodeL (s.data.toList.drop p)).2)) (by rw [List.length_drop, HLS.out]; omega) (by rw [List.length_drop, HLS.out]; exact Nat.le_refl _)
        rw [e]
      have hst := HV.out
      rw [nmL, if_neg hne, List.length_drop, HLS.out, hstep nameB] at hst
      have hlet := fun W => rletter_any ((Lib.decodeL (s.data.toList.drop p)).1 : Int) W
      clear hstep hds HV hne
      generalize (Lib.decodeL (s.data.toList.drop p)).1 = c at hst hlet hdg hDc
      generalize (Lib.decodeL (s.data.toList.drop p)).2 = k at hst hDc hw1 hw2
      obtain ⟨p2, hp2⟩ : ∃ p2, p2 = p + k := ⟨_, rfl⟩
      rw [← hp2] at hst
      obtain ⟨R, hR⟩ : ∃ R, R = runL nameB (s.size - p2) (s.data.toList.drop p2) := ⟨_, rfl⟩
      rw [← hR] at hst
      have hk4 : (k : Int) ≤ 4096 := by omega
      have hp2s : p2 ≤ s.size := by omega
      have hpp : p < p2 := by omega
      have HP2 := Aside0.mk hp2
      clear hp2 hw2
      have hnm : nameB (c : Int) = (letterB c || digitB c) := rfl
      cases hL : letterB (c : Int)
      · rw [hL] at hlet hst hnm
        rw [Bool.false_or] at hnm
        by_cases hn : n = 0
        · subst hn
          obtain rfl : a = p := by have := HAP.out; omega
          have hN0 : N = 0 := by
            rw [← hst]
            simp
          subst hN0
          clear hst hR hL hnm hsum hw1 hk4 hp2s hpp hdg
          go_wp2_with (go_at_call 21; refine (hDc _ HB).mono ?_)
          first
            | (intro e W1 he hb1; subst he)
            | rintro e W1 ⟨rfl, hb1⟩
          have HB1 := below_then HB hb1
          clear hb1 HB hDc
          go_wp2_with (first | (go_at_call 51; refine (hlet _).mono ?_; rintro e w9 ⟨rfl, rfl⟩) | (go_at_call 41; refine (hdg _).mono ?_; rintro e w9 ⟨rfl, rfl⟩))
          go_ret
          exact ⟨rfl, HB1⟩
        · have hnp : (0 : Int) < (n : Int) := by omega
          rw [if_neg hn, hnm] at hst
          cases hD : digitB (c : Int)
          · rw [hD] at hdg hst
            have hnN : n = N := by
              rw [← hst]
              simp
            subst hnN
            clear hst hR hL hnm hD hn hw1 hk4 hp2s hpp
            go_wp2_with (go_at_call 21; refine (hDc _ HB).mono ?_)
            first
              | (intro e W1 he hb1; subst he)
              | rintro e W1 ⟨rfl, hb1⟩
            have HB1 := below_then HB hb1
            clear hb1 HB hDc
            go_wp2_with (first | (go_at_call 51; refine (hlet _).mono ?_; rintro e w9 ⟨rfl, rfl⟩) | (go_at_call 41; refine (hdg _).mono ?_; rintro e w9 ⟨rfl, rfl⟩))
            go_ret
            exact ⟨rfl, HB1⟩
          · rw [hD] at hdg hst
            rw [if_pos rfl] at hst
            have HS : Aside0 (n + k + (if n + k = 0 then nmL (s.data.toList.drop p2) else runL nameB (s.size - p2) (s.data.toList.drop p2)) = N) := ⟨by rw [if_neg (by omega), ← hR]; omega⟩
            clear hst hR
            clear hL hnm hD hn
            go_wp2_with (go_at_call 21; refine (hDc _ HB).mono ?_)
            first
              | (intro e W1 he hb1; subst he)
              | rintro e W1 ⟨rfl, hb1⟩
            have HB1 := below_then HB hb1
            clear hb1 HB hDc
            go_wp2_with (first | (go_at_call 51; refine (hlet _).mono ?_; rintro e w9 ⟨rfl, rfl⟩) | (go_at_call 41; refine (hdg _).mono ?_; rintro e w9 ⟨rfl, rfl⟩))
            go_roundg (gk - 1)
            case measure => omega
            case rel => exact ⟨n + k, p2, by go_num, by have := HAP.out; have := HP2.out; omega, by omega, by omega, HB1, HS⟩
      · rw [hL] at hlet hst hnm
        rw [Bool.true_or] at hnm
        have hst2 : n + (k + R) = N := by
          rw [← hst, hnm]
          by_cases hn : n = 0 <;> simp [hn]
        have hc5 : ((c : Int) == 65533) = false := by
          rw [beq_eq_false_iff_ne]
          intro h
          rw [h] at hL
          revert hL
          decide
        have hst := hst2
        clear hst2
        have HS : Aside0 (n + k + (if n + k = 0 then nmL (s.data.toList.drop p2) else runL nameB (s.size - p2) (s.data.toList.drop p2)) = N) := ⟨by rw [if_neg (by omega), ← hR]; omega⟩
        clear hst hR
        clear hL hnm
        go_wp2_with (go_at_call 21; refine (hDc _ HB).mono ?_)
        first
          | (intro e W1 he hb1; subst he)
          | rintro e W1 ⟨rfl, hb1⟩
        have HB1 := below_then HB hb1
        clear hb1 HB hDc
        go_wp2_with (first | (go_at_call 51; refine (hlet _).mono ?_; rintro e w9 ⟨rfl, rfl⟩) | (go_at_call 41; refine (hdg _).mono ?_; rintro e w9 ⟨rfl, rfl⟩))
        go_roundg (gk - 1)
        case measure => omega
        case rel => exact ⟨n + k, p2, by go_num, by have := HAP.out; have := HP2.out; omega, by omega, by omega, HB1, HS⟩
    · have hpe : p = s.size := by omega
      have hst := HV.out
      rw [List.drop_eq_nil_of_le (by have := HLS.out; omega), runL_nil] at hst
      have hnN : n = N := by
        rw [← hst]
        simp [nmL]
      subst hnN
      have hlti : ¬ (p : Int) < (s.size : Int) := by omega
      clear hst HV hpe hp
      go_wp2
      go_ret
      exact ⟨rfl, HB⟩
end Go.Proofs.YtokhbjagcnjiaaaDoor
