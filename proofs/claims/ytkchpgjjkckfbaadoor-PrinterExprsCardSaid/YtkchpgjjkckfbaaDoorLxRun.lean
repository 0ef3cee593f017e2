/- How far a text begins with runes of a kind: lex.run, for each kind that it is asked for. -/
import Derived.Test.YtkchpgjjkckfbaaDoorLxA
import Derived.Lib.TrimUEq
set_option linter.unusedVariables false
set_option linter.unusedSimpArgs false
namespace Go.Proofs.YtkchpgjjkckfbaaDoor
open Go.RowKit

/-- How many bytes of a text are runes of a kind, from its head on. -/
def runL (is : Int → Bool) : Nat → List UInt8 → Nat
  | 0, _ => 0
  | f + 1, l => if l = [] then 0 else if is (Lib.decodeL l).1 then (Lib.decodeL l).2 + runL is f (l.drop (Lib.decodeL l).2) else 0
theorem runL_nil (is : Int → Bool) : ∀ f, runL is f [] = 0
  | 0 => rfl
  | _ + 1 => rfl
theorem drop_ne {s : ByteArray} {pos : Nat} (h : pos < s.size) : s.data.toList.drop pos ≠ [] := by
  intro e
  have := congrArg List.length e
  simp at this
  have h2 : s.data.size = s.size := rfl
  omega
theorem runL_step (is : Int → Bool) (f : Nat) (s : ByteArray) (pos : Nat) (h : pos < s.size) :
    runL is (f + 1) (s.data.toList.drop pos) = if is (Utf8.decode s pos).1 then (Utf8.decode s pos).2 + runL is f (s.data.toList.drop (pos + (Utf8.decode s pos).2)) else 0 := by
  rw [runL, if_neg (drop_ne h), Lib.decodeL_drop, List.drop_drop]
theorem decode_wd (s : ByteArray) (pos : Nat) (h : pos < s.size) : 1 ≤ (Utf8.decode s pos).2 ∧ pos + (Utf8.decode s pos).2 ≤ s.size := by
  have h0 := Lib.decodeL_le (s.data.toList.drop pos) (drop_ne h)
  have h1 := Lib.decodeL_width (s.data.toList.drop pos)
  rw [Lib.decodeL_drop, List.length_drop] at h0
  rw [Lib.decodeL_drop] at h1
  have h2 : s.data.toList.length = s.size := rfl
  omega

set_option maxRecDepth 100000 in
set_option maxHeartbeats 1600000 in
theorem run_blank (s : ByteArray) (w : World) (hs : s.size ≤ 9223372036854775807) :
    Calls Tryd.prog 73 #[.string s, .func (.func 74) #[] #[]] w fun e w' => e = .returned (.int .i64 (runL blankB s.size s.data.toList : Nat)) ∧ Below w.heap.size w w' := by
  have hIs := fun c W => blank_any c W
  obtain ⟨R, hR⟩ : ∃ R, R = runL blankB s.size s.data.toList := ⟨_, rfl⟩
  rw [← hR]
  go_enter Tryd.func73, Tryd.ntmps73
  go_wp2
  go_loopg [5, 6] (s.size + 1) (fun gk v5 v6 wr => ∃ pos fuel : Nat, wr = w.iter s pos ∧ Aside0 (pos + runL blankB fuel (s.data.toList.drop pos) = R) ∧ s.size < gk + pos ∧ s.size ≤ pos + fuel ∧ pos ≤ s.size)
  case atStart => exact ⟨0, s.size, rfl, ⟨by rw [hR]; simp⟩, by omega, by omega, by omega⟩
  case round =>
    obtain ⟨pos, fuel, rfl, HV, hb, hfu, hps⟩ := hrel
    by_cases hp : pos < s.size
    · have hnx : ∀ ty, (Instr.next (.pointer (some ⟨w.heap.size, 0, none⟩)) true ty).run Tryd.prog (w.iter s pos) = _ := fun ty => run_next_any w s pos ty hp
      obtain ⟨f, rfl⟩ : ∃ f, fuel = f + 1 := ⟨fuel - 1, by omega⟩
      have hst := HV.out
      rw [runL_step _ f s pos hp] at hst
      have hwd := decode_wd s pos hp
      have hgk : 0 < gk := by omega
      have hCon := hIs ((Utf8.decode s pos).1 : Int)
      cases hc : blankB ((Utf8.decode s pos).1 : Int)
      · rw [hc] at hCon hst
        have HS := Aside0.mk hst
        clear hst HV hc hIs
        go_wp2_with (go_at_call 74; refine (hCon _).mono ?_; rintro e w1 ⟨rfl, rfl⟩)
        go_ret
        exact ⟨by rw [← HS.out]; simp, (Below.refl _ _).alloc (Nat.le_refl _) _⟩
      · rw [hc] at hCon hst
        have HS := Aside0.mk hst
        clear hst HV hc
        have hpi : (pos : Int) ≤ (s.size : Int) := by omega
        go_wp2_with (go_at_call 74; refine (hCon _).mono ?_; rintro e w1 ⟨rfl, rfl⟩)
        go_roundg (gk - 1)
        case measure => omega
        case rel =>
          refine ⟨_, f, rfl, ⟨?_⟩, by omega, by omega, by omega⟩
          have := HS.out
          simp only [if_true] at this
          omega
    · have hnx : ∀ ty, (Instr.next (.pointer (some ⟨w.heap.size, 0, none⟩)) true ty).run Tryd.prog (w.iter s pos) = _ := fun ty => run_next_end w s pos ty hp
      have hst := HV.out
      rw [List.drop_eq_nil_of_le (by have hs : s.data.toList.length = s.size := rfl; omega), runL_nil] at hst
      have hpe : pos = s.size := by omega
      have hRs : R = s.size := by omega
      have HRS := Aside0.mk hRs
      clear hst HV hRs hpe hps hfu hb
      go_wp2
      go_ret
      exact ⟨congrArg (fun n : Nat => Ending.returned (Value.int .i64 (n : Int))) HRS.out.symm, (Below.refl _ _).alloc (Nat.le_refl _) _⟩
set_option maxRecDepth 100000 in
set_option maxHeartbeats 1600000 in
theorem run_name (s : ByteArray) (w : World) (hs : s.size ≤ 9223372036854775807) :
    Calls Tryd.prog 73 #[.string s, .func (.func 77) #[] #[]] w fun e w' => e = .returned (.int .i64 (runL nameB s.size s.data.toList : Nat)) ∧ Below w.heap.size w w' := by
  have hIs := fun c W => name_any c W
  obtain ⟨R, hR⟩ : ∃ R, R = runL nameB s.size s.data.toList := ⟨_, rfl⟩
  rw [← hR]
  go_enter Tryd.func73, Tryd.ntmps73
  go_wp2
  go_loopg [5, 6] (s.size + 1) (fun gk v5 v6 wr => ∃ pos fuel : Nat, wr = w.iter s pos ∧ Aside0 (pos + runL nameB fuel (s.data.toList.drop pos) = R) ∧ s.size < gk + pos ∧ s.size ≤ pos + fuel ∧ pos ≤ s.size)
  case atStart => exact ⟨0, s.size, rfl, ⟨by rw [hR]; simp⟩, by omega, by omega, by omega⟩
  case round =>
    obtain ⟨pos, fuel, rfl, HV, hb, hfu, hps⟩ := hrel
    by_cases hp : pos < s.size
    · have hnx : ∀ ty, (Instr.next (.pointer (some ⟨w.heap.size, 0, none⟩)) true ty).run Tryd.prog (w.iter s pos) = _ := fun ty => run_next_any w s pos ty hp
      obtain ⟨f, rfl⟩ : ∃ f, fuel = f + 1 := ⟨fuel - 1, by omega⟩
      have hst := HV.out
      rw [runL_step _ f s pos hp] at hst
      have hwd := decode_wd s pos hp
      have hgk : 0 < gk := by omega
      have hCon := hIs ((Utf8.decode s pos).1 : Int)
      cases hc : nameB ((Utf8.decode s pos).1 : Int)
      · rw [hc] at hCon hst
        have HS := Aside0.mk hst
        clear hst HV hc hIs
        go_wp2_with (go_at_call 77; refine (hCon _).mono ?_; rintro e w1 ⟨rfl, rfl⟩)
        go_ret
        exact ⟨by rw [← HS.out]; simp, (Below.refl _ _).alloc (Nat.le_refl _) _⟩
      · rw [hc] at hCon hst
        have HS := Aside0.mk hst
        clear hst HV hc
        have hpi : (pos : Int) ≤ (s.size : Int) := by omega
        go_wp2_with (go_at_call 77; refine (hCon _).mono ?_; rintro e w1 ⟨rfl, rfl⟩)
        go_roundg (gk - 1)
        case measure => omega
        case rel =>
          refine ⟨_, f, rfl, ⟨?_⟩, by omega, by omega, by omega⟩
          have := HS.out
          simp only [if_true] at this
          omega
    · have hnx : ∀ ty, (Instr.next (.pointer (some ⟨w.heap.size, 0, none⟩)) true ty).run Tryd.prog (w.iter s pos) = _ := fun ty => run_next_end w s pos ty hp
      have hst := HV.out
      rw [List.drop_eq_nil_of_le (by have hs : s.data.toList.length = s.size := rfl; omega), runL_nil] at hst
      have hpe : pos = s.size := by omega
      have hRs : R = s.size := by omega
      have HRS := Aside0.mk hRs
      clear hst HV hRs hpe hps hfu hb
      go_wp2
      go_ret
      exact ⟨congrArg (fun n : Nat => Ending.returned (Value.int .i64 (n : Int))) HRS.out.symm, (Below.refl _ _).alloc (Nat.le_refl _) _⟩
set_option maxRecDepth 100000 in
set_option maxHeartbeats 1600000 in
theorem run_digit (s : ByteArray) (w : World) (hs : s.size ≤ 9223372036854775807) :
    Calls Tryd.prog 73 #[.string s, .func (.func 78) #[] #[]] w fun e w' => e = .returned (.int .i64 (runL digitB s.size s.data.toList : Nat)) ∧ Below w.heap.size w w' := by
  have hIs := fun c W => digit_any c W
  obtain ⟨R, hR⟩ : ∃ R, R = runL digitB s.size s.data.toList := ⟨_, rfl⟩
  rw [← hR]
  go_enter Tryd.func73, Tryd.ntmps73
  go_wp2
  go_loopg [5, 6] (s.size + 1) (fun gk v5 v6 wr => ∃ pos fuel : Nat, wr = w.iter s pos ∧ Aside0 (pos + runL digitB fuel (s.data.toList.drop pos) = R) ∧ s.size < gk + pos ∧ s.size ≤ pos + fuel ∧ pos ≤ s.size)
  case atStart => exact ⟨0, s.size, rfl, ⟨by rw [hR]; simp⟩, by omega, by omega, by omega⟩
  case round =>
    obtain ⟨pos, fuel, rfl, HV, hb, hfu, hps⟩ := hrel
    by_cases hp : pos < s.size
    · have hnx : ∀ ty, (Instr.next (.pointer (some ⟨w.heap.size, 0, none⟩)) true ty).run Tryd.prog (w.iter s pos) = _ := fun ty => run_next_any w s pos ty hp
      obtain ⟨f, rfl⟩ : ∃ f, fuel = f + 1 := ⟨fuel - 1, by omega⟩
      have hst := HV.out
      rw [runL_step _ f s pos hp] at hst
      have hwd := decode_wd s pos hp
      have hgk : 0 < gk := by omega
      have hCon := hIs ((Utf8.decode s pos).1 : Int)
      cases hc : digitB ((Utf8.decode s pos).1 : Int)
      · rw [hc] at hCon hst
        have HS := Aside0.mk hst
        clear hst HV hc hIs
        go_wp2_with (go_at_call 78; refine (hCon _).mono ?_; rintro e w1 ⟨rfl, rfl⟩)
        go_ret
        exact ⟨by rw [← HS.out]; simp, (Below.refl _ _).alloc (Nat.le_refl _) _⟩
      · rw [hc] at hCon hst
        have HS := Aside0.mk hst
        clear hst HV hc
        have hpi : (pos : Int) ≤ (s.size : Int) := by omega
        go_wp2_with (go_at_call 78; refine (hCon _).mono ?_; rintro e w1 ⟨rfl, rfl⟩)
        go_roundg (gk - 1)
        case measure => omega
        case rel =>
          refine ⟨_, f, rfl, ⟨?_⟩, by omega, by omega, by omega⟩
          have := HS.out
          simp only [if_true] at this
          omega
    · have hnx : ∀ ty, (Instr.next (.pointer (some ⟨w.heap.size, 0, none⟩)) true ty).run Tryd.prog (w.iter s pos) = _ := fun ty => run_next_end w s pos ty hp
      have hst := HV.out
      rw [List.drop_eq_nil_of_le (by have hs : s.data.toList.length = s.size := rfl; omega), runL_nil] at hst
      have hpe : pos = s.size := by omega
      have hRs : R = s.size := by omega
      have HRS := Aside0.mk hRs
      clear hst HV hRs hpe hps hfu hb
      go_wp2
      go_ret
      exact ⟨congrArg (fun n : Nat => Ending.returned (Value.int .i64 (n : Int))) HRS.out.symm, (Below.refl _ _).alloc (Nat.le_refl _) _⟩
end Go.Proofs.YtkchpgjjkckfbaaDoor
