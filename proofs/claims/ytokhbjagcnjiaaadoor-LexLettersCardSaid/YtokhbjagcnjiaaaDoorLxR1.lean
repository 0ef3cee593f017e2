/- The reference's little functions of words: digit, Letter, number. -/
import Derived.Test.YtokhbjagcnjiaaaDoorLxRun
import Derived.Deep.LoopGhost
set_option linter.unusedVariables false
set_option linter.unusedSimpArgs false
namespace Go.Proofs.YtokhbjagcnjiaaaDoor
open Go.RowKit

set_option maxRecDepth 100000 in
set_option maxHeartbeats 1600000 in
theorem rdigit_any (c : Int) (w : World) :
    Calls Tryd.prog 41 #[.int .u8 c] w fun e w' => e = .returned (.bool (digitB c)) ∧ w = w' := by
  go_enter Tryd.func41, Tryd.ntmps41
  go_wp2
  all_goals go_ret
  all_goals refine ⟨congrArg (fun b => Ending.returned (Value.bool b)) ?_, rfl⟩
  all_goals (try simp only [beq_eq_false_iff_ne, beq_iff_eq, ne_eq, Bool.not_eq_true] at *)
  all_goals (rw [Bool.eq_iff_iff]; simp [digitB]; try omega)
set_option maxRecDepth 100000 in
set_option maxHeartbeats 1600000 in
theorem rletter_any (c : Int) (w : World) :
    Calls Tryd.prog 51 #[.int .i32 c] w fun e w' => e = .returned (.bool (letterB c)) ∧ w = w' := by
  go_enter Tryd.func51, Tryd.ntmps51
  go_wp2
  all_goals go_ret
  all_goals refine ⟨congrArg (fun b => Ending.returned (Value.bool b)) ?_, rfl⟩
  all_goals (try simp only [beq_eq_false_iff_ne, beq_iff_eq, ne_eq, Bool.not_eq_true] at *)
  all_goals (rw [Bool.eq_iff_iff]; simp [letterB]; try omega)
/-- The reference's number of digits at a text's head: its value, how many bytes, whether it is too great. -/
def numR : List UInt8 → Int → Nat → Bool → Int × Nat × Bool
  | [], v, n, big => (v, n, big)
  | b :: t, v, n, big => if digitB (b.toNat : Int) then (if (9223372036854775807 - ((b.toNat : Int) - 48)) / 10 < v then numR t v (n + 1) true else numR t (10 * v + ((b.toNat : Int) - 48)) (n + 1) big) else (v, n, big)
set_option maxRecDepth 100000 in
set_option maxHeartbeats 3200000 in
theorem rnumber_any (s : ByteArray) (a : Nat) (w : World) (hs : s.size ≤ 4096) (ha : a ≤ s.size) :
    Calls Tryd.prog 42 #[.string s, .int .i64 (a : Nat)] w fun e w' => e = .returned (.tuple #[.int .i64 (numR (s.data.toList.drop a) 0 0 false).1, .int .i64 ((numR (s.data.toList.drop a) 0 0 false).2.1 : Nat), .bool (!(numR (s.data.toList.drop a) 0 0 false).2.2)]) ∧ w = w' := by
  obtain ⟨V, N, B, hR⟩ : ∃ V N B, numR (s.data.toList.drop a) 0 0 false = (V, N, B) := ⟨_, _, _, rfl⟩
  rw [hR]
  have hsi : (s.size : Int) ≤ 4096 := by omega
  have HR := Aside0.mk hR
  clear hR
  go_enter Tryd.func42, Tryd.ntmps42
  go_wp2
  go_loopg [7, 8, 9] (s.size + 1) (fun gk v7 v8 v9 wr => ∃ (n p : Nat) (v : Int) (big : Bool), wr = w ∧ v7 = .int .i64 v ∧ v8 = .int .i64 n ∧ v9 = .bool big ∧ 0 ≤ v ∧ v ≤ 9223372036854775807 ∧ a + n = p ∧ p ≤ s.size ∧ s.size < gk + p ∧ Aside0 (numR (s.data.toList.drop p) v n big = (V, N, B)))
  case atStart => exact ⟨0, a, 0, false, rfl, rfl, rfl, rfl, by omega, by omega, by omega, by omega, by omega, ⟨HR.out⟩⟩
  case round =>
    obtain ⟨n, p, v, big, rfl, rfl, rfl, rfl, hv0, hv1, hap, hps, hg, HV⟩ := hrel
    have hsum : (a : Int) + (n : Int) = (p : Int) := by omega
    have HAP := Aside0.mk hap
    clear hap
    have hpi : (p : Int) ≤ (s.size : Int) := by omega
    have hp0 : (0 : Int) ≤ (p : Int) := by omega
    by_cases hp : p < s.size
    · have hlti : (p : Int) < (s.size : Int) := by omega
      have hl : p < s.data.toList.length := hp
      have hst := HV.out
      rw [List.drop_eq_getElem_cons hl, numR] at hst
      have he : s.data.toList[p]'hl = s[p]'hp := rfl
      rw [he] at hst
      have hdg := fun W => rdigit_any (((s[p]'hp).toNat : Nat) : Int) W
      cases hd : digitB (((s[p]'hp).toNat : Nat) : Int)
      · rw [hd] at hdg hst
        rw [if_neg (by simp)] at hst
        obtain ⟨rfl, h2⟩ := Prod.mk.inj hst
        obtain ⟨rfl, rfl⟩ := Prod.mk.inj h2
        clear hst h2 HV he hd
        go_wp2_with (go_at_call 41; refine (hdg _).mono ?_; rintro e w9 ⟨rfl, rfl⟩)
        go_ret3
        exact ⟨rfl, rfl⟩
      · rw [hd] at hdg hst
        rw [if_pos rfl] at hst
        have hy : 48 ≤ (((s[p]'hp).toNat : Nat) : Int) ∧ (((s[p]'hp).toNat : Nat) : Int) ≤ 57 := by simpa [digitB] using hd
        obtain ⟨hy0, hy1⟩ := hy
        have hn4 : (n : Int) ≤ 4096 := by omega
        clear HV he hd
        by_cases hbig : (9223372036854775807 - ((((s[p]'hp).toNat : Nat) : Int) - 48)) / 10 < v
        · rw [if_pos hbig] at hst
          have HS := Aside0.mk hst
          clear hst
          go_wp2_with (go_at_call 41; refine (hdg _).mono ?_; rintro e w9 ⟨rfl, rfl⟩)
          go_roundg (gk - 1)
          case measure => omega
          case rel => exact ⟨n + 1, p + 1, v, true, rfl, rfl, by go_num, rfl, hv0, hv1, by have := HAP.out; omega, by omega, by omega, HS⟩
        · rw [if_neg hbig] at hst
          have HS := Aside0.mk hst
          clear hst
          go_wp2_with (go_at_call 41; refine (hdg _).mono ?_; rintro e w9 ⟨rfl, rfl⟩)
          go_roundg (gk - 1)
          case measure => omega
          case rel => exact ⟨n + 1, p + 1, _, big, rfl, rfl, by go_num, rfl, by omega, by omega, by have := HAP.out; omega, by omega, by omega, HS⟩
    · have hlti : ¬ (p : Int) < (s.size : Int) := by omega
      have hst := HV.out
      rw [List.drop_eq_nil_of_le (by have : s.data.toList.length = s.size := rfl; omega), numR] at hst
      obtain ⟨rfl, h2⟩ := Prod.mk.inj hst
      obtain ⟨rfl, rfl⟩ := Prod.mk.inj h2
      clear hst h2 HV hp
      go_wp2
      go_ret3
      exact ⟨rfl, rfl⟩
end Go.Proofs.YtokhbjagcnjiaaaDoor
