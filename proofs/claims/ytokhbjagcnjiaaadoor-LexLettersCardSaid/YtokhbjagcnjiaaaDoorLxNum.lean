/- lex.number: what digits stand for. -/
import Derived.Test.YtokhbjagcnjiaaaDoorLxRun
set_option linter.unusedVariables false
set_option linter.unusedSimpArgs false
namespace Go.Proofs.YtokhbjagcnjiaaaDoor
open Go.RowKit

/-- What digits stand for, behind a number that was read; none: it is too great. -/
def numD : List UInt8 → Int → Option Int
  | [], n => some n
  | b :: t, n => if (9223372036854775807 - ((b.toNat : Int) - 48)) / 10 < n then none else numD t (10 * n + ((b.toNat : Int) - 48))
def AllDig (l : List UInt8) : Prop := ∀ x ∈ l, 48 ≤ x.toNat ∧ x.toNat ≤ 57

set_option maxRecDepth 100000 in
set_option maxHeartbeats 1600000 in
theorem number_any (s : ByteArray) (w : World) (hs : s.size ≤ 9223372036854775807) (hd : AllDig s.data.toList) :
    Calls Tryd.prog 25 #[.string s] w fun e w' => e = .returned (.tuple #[.int .i64 ((numD s.data.toList 0).getD 0), .bool (numD s.data.toList 0).isSome]) ∧ Below w.heap.size w w' := by
  obtain ⟨ANS, hANS⟩ : ∃ ANS, ANS = numD s.data.toList 0 := ⟨_, rfl⟩
  rw [← hANS]
  have hdig : ∀ pos, pos < s.size → ∃ y : Nat, 48 ≤ y ∧ y ≤ 57 ∧ (∀ (W : World) (ty : TypeId), (Instr.next (.pointer (some ⟨W.heap.size, 0, none⟩)) true ty).run Tryd.prog (W.iter s pos) = .ok (.tuple #[.bool true, .int .i64 pos, .int .i32 (y : Int)]) (W.iter s (pos + 1))) ∧
      ∀ n, numD (s.data.toList.drop pos) n = if (9223372036854775807 - ((y : Int) - 48)) / 10 < n then none else numD (s.data.toList.drop (pos + 1)) (10 * n + ((y : Int) - 48)) := by
    intro pos hp
    have hl : pos < s.data.toList.length := hp
    have hx := hd (s.data.toList[pos]) (List.getElem_mem _)
    have he : s[pos]'hp = s.data.toList[pos] := rfl
    refine ⟨(s.data.toList[pos]).toNat, hx.1, hx.2, fun W ty => ?_, fun n => ?_⟩
    · have ha : (s[pos]'hp).toNat < 128 := by rw [he]; omega
      rw [run_next_any W s pos ty hp, decode_ascii s pos hp ha]
      rfl
    · rw [List.drop_eq_getElem_cons hl, numD]
  have HD := Aside0.mk hdig
  clear hdig hd
  go_enter Tryd.func25, Tryd.ntmps25
  go_wp2
  go_loopg [2] (s.size + 1) (fun gk v2 wr => ∃ (pos : Nat) (n : Int), wr = w.iter s pos ∧ v2 = .int .i64 n ∧ 0 ≤ n ∧ n ≤ 9223372036854775807 ∧ Aside0 (numD (s.data.toList.drop pos) n = ANS) ∧ s.size < gk + pos ∧ pos ≤ s.size)
  case atStart => exact ⟨0, 0, rfl, rfl, by omega, by omega, ⟨by rw [hANS]; simp⟩, by omega, by omega⟩
  case round =>
    obtain ⟨pos, n, rfl, rfl, hn0, hn1, HV, hb, hps⟩ := hrel
    by_cases hp : pos < s.size
    · obtain ⟨y, hy0, hy1, hnx0, hst⟩ := HD.out pos hp
      have hnx := fun ty => hnx0 w ty
      have hst := hst n
      rw [HV.out] at hst
      have hgk : 0 < gk := by omega
      have hpi : (pos : Int) ≤ (s.size : Int) := by omega
      clear hnx0 HV
      by_cases hbig : (9223372036854775807 - ((y : Int) - 48)) / 10 < n
      · rw [if_pos hbig] at hst
        have HS := Aside0.mk hst
        clear hst
        go_wp2
        go_ret2
        exact ⟨by rw [HS.out]; rfl, (Below.refl _ _).alloc (Nat.le_refl _) _⟩
      · rw [if_neg hbig] at hst
        have HS := Aside0.mk hst
        clear hst
        go_wp2
        go_roundg (gk - 1)
        case measure => omega
        case rel => exact ⟨pos + 1, _, rfl, rfl, by omega, by omega, ⟨HS.out.symm⟩, by omega, by omega⟩
    · have hnx : ∀ ty, (Instr.next (.pointer (some ⟨w.heap.size, 0, none⟩)) true ty).run Tryd.prog (w.iter s pos) = _ := fun ty => run_next_end w s pos ty hp
      have hst := HV.out
      rw [List.drop_eq_nil_of_le (by have hs : s.data.toList.length = s.size := rfl; omega), numD] at hst
      have HRS := Aside0.mk hst
      clear hst HV
      go_wp2
      go_ret2
      exact ⟨by rw [← HRS.out]; rfl, (Below.refl _ _).alloc (Nat.le_refl _) _⟩
end Go.Proofs.YtokhbjagcnjiaaaDoor
