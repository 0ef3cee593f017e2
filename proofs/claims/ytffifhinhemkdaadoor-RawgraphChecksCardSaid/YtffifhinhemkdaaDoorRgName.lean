/- Names: the program's Name. -/
import Derived.Test.YtffifhinhemkdaaDoorRgLet
set_option linter.unusedVariables false
set_option linter.unusedSimpArgs false
namespace Go.Proofs.YtffifhinhemkdaaDoor
open Go.RowKit

/-- May a rune stand in a name, at its beginning (first) or behind? -/
def runeB (first : Bool) (c : Int) : Bool := letterB c || (decide (48 ≤ c) && decide (c ≤ 57) && !first)
def nameF (s : ByteArray) : Nat → Nat → Bool
  | 0, _ => true
  | f + 1, pos => if pos < s.size then runeB (decide (pos = 0)) ((Utf8.decode s pos).1 : Int) && nameF s f (pos + (Utf8.decode s pos).2) else true
/-- What rawgraph.Name answers. -/
def nameB (s : ByteArray) : Bool := decide (1 ≤ s.size) && decide (s.size ≤ 32) && nameF s s.size 0
theorem nameF_step (s : ByteArray) (f pos : Nat) (hp : pos < s.size) (hf : s.size ≤ f + pos) : ∃ g, s.size ≤ g + (pos + 1) ∧ nameF s f pos = (runeB (decide (pos = 0)) ((Utf8.decode s pos).1 : Int) && nameF s g (pos + (Utf8.decode s pos).2)) := by
  cases f with
  | zero => omega
  | succ g => exact ⟨g, by omega, by rw [nameF, if_pos hp]⟩
theorem nameF_end (s : ByteArray) (f pos : Nat) (hp : ¬ pos < s.size) : nameF s f pos = true := by
  cases f with
  | zero => rfl
  | succ g => rw [nameF, if_neg hp]
set_option maxRecDepth 100000 in
set_option maxHeartbeats 1600000 in
theorem name_any (s : ByteArray) (w : World) :
    Calls Tryd.prog 6 #[.string s] w fun e w' => e = .returned (.bool (nameB s)) ∧ Below w.heap.size w w' := by
  by_cases h0 : s.size = 0
  · have hs : s = ⟨#[]⟩ := by
      obtain ⟨a⟩ := s
      congr 1
      exact Array.eq_empty_of_size_eq_zero h0
    subst hs
    go_enter Tryd.func6, Tryd.ntmps6
    go_wp2
    go_ret
    exact ⟨rfl, Below.refl _ _⟩
  · have he : (s.toList == ([] : List UInt8)) = false := by rw [empty_toList]; exact decide_eq_false h0
    have hes : s.isEmpty = false := by
      rw [ByteArray.isEmpty]
      simp [h0]
    by_cases h32 : s.size ≤ 32
    · have h33 : ¬ (32 : Int) < (s.size : Int) := by omega
      have hsz : (s.size : Int) ≤ 32 := by omega
      obtain ⟨ANS, hANS⟩ : ∃ ANS, nameB s = ANS := ⟨_, rfl⟩
      have hA : nameF s s.size 0 = ANS := by
        rw [← hANS, nameB, decide_eq_true (by omega), decide_eq_true h32]
        rfl
      have HA := Aside0.mk hA
      rw [hANS]
      clear hANS hA h0
      go_enter Tryd.func6, Tryd.ntmps6
      go_wp2
      go_loopg [3, 4] (s.size + 1) (fun gk v3 v4 wr => ∃ pos : Nat, wr = w.iter s pos ∧ Aside0 (∃ f, s.size ≤ f + pos ∧ nameF s f pos = ANS) ∧ s.size < gk + pos)
      case atStart => exact ⟨0, rfl, ⟨s.size, by omega, HA.out⟩, by omega⟩
      case round =>
        obtain ⟨pos, rfl, HV, hb⟩ := hrel
        by_cases hp : pos < s.size
        · have hnx : ∀ ty, (Instr.next (.pointer (some ⟨w.heap.size, 0, none⟩)) true ty).run Tryd.prog (w.iter s pos) = _ := fun ty => run_next_any w s pos ty hp
          have hw1 : 1 ≤ (Utf8.decode s pos).2 := by
            have hd := Lib.decodeL_drop s pos
            have h1 := Lib.decodeL_width (s.data.toList.drop pos)
            rw [hd] at h1
            exact h1
          obtain ⟨f, hf, hN⟩ := HV.out
          obtain ⟨g, hg, hst⟩ := nameF_step s f pos hp hf
          rw [hN] at hst
          have HST := Aside0.mk (And.intro hg hst)
          have HW := Aside0.mk hw1
          have HP := Aside0.mk hp
          have hpi : (pos : Int) ≤ (s.size : Int) := by omega
          have hgk : 0 < gk := by omega
          have hL := letter_any ((Utf8.decode s pos).1 : Int) (w.iter s (pos + (Utf8.decode s pos).2))
          have HRB : Aside0 (runeB (decide (pos = 0)) ((Utf8.decode s pos).1 : Int) = (letterB ((Utf8.decode s pos).1 : Int) || (decide (48 ≤ ((Utf8.decode s pos).1 : Int)) && decide (((Utf8.decode s pos).1 : Int) ≤ 57) && !decide (pos = 0)))) := ⟨rfl⟩
          have hr := HRB.out
          clear HRB
          cases hlet : letterB ((Utf8.decode s pos).1 : Int) with
          | true =>
            rw [hlet] at hL hr
            have HR : Aside0 (runeB (decide (pos = 0)) ((Utf8.decode s pos).1 : Int) = true) := ⟨by rw [hr]; rfl⟩
            clear hr hlet
            clear hst hN hg hf hw1 hp
            go_wp2_with (go_at_call 13; go_loud (refine hL.mono ?_); (intro e W' hWE; obtain ⟨rfl, hWe⟩ := hWE; obtain rfl := hWe.symm; clear hWe))
            clear hL
            go_roundg (gk - 1)
            case measure => omega
            case rel =>
              have hst := HST.out.2
              rw [HR.out, Bool.true_and] at hst
              exact ⟨_, rfl, ⟨g, by have := HST.out.1; have := HW.out; omega, hst.symm⟩, by have := HW.out; omega⟩
          | false =>
            rw [hlet] at hL hr
            rw [Bool.false_or] at hr
            clear hlet
            by_cases h48 : (48 : Int) ≤ ((Utf8.decode s pos).1 : Int)
            · by_cases h57 : ((Utf8.decode s pos).1 : Int) ≤ 57
              · by_cases hp0 : pos = 0
                · have HR : Aside0 (runeB (decide (pos = 0)) ((Utf8.decode s pos).1 : Int) = false) := ⟨by rw [hr, decide_eq_true hp0]; simp⟩
                  have hp1 : ¬ (0 : Int) < (pos : Int) := by omega
                  have hp2 : (pos : Int) = 0 := by omega
                  clear hr hp0
                  clear hst hN hg hf hw1 hp
                  go_wp2_with (go_at_call 13; go_loud (refine hL.mono ?_); (intro e W' hWE; obtain ⟨rfl, hWe⟩ := hWE; obtain rfl := hWe.symm; clear hWe))
                  clear hL
                  go_ret
                  have hst := HST.out.2
                  rw [HR.out, Bool.false_and] at hst
                  exact ⟨by rw [hst]; rfl, (Below.refl _ _).alloc (Nat.le_refl _) _⟩
                · have HR : Aside0 (runeB (decide (pos = 0)) ((Utf8.decode s pos).1 : Int) = true) := ⟨by rw [hr, decide_eq_true h48, decide_eq_true h57, decide_eq_false hp0]; rfl⟩
                  have hp1 : (0 : Int) < (pos : Int) := by omega
                  have hp3 : 0 < pos := by omega
                  clear hr
                  clear hst hN hg hf hw1 hp
                  go_wp2_with (go_at_call 13; go_loud (refine hL.mono ?_); (intro e W' hWE; obtain ⟨rfl, hWe⟩ := hWE; obtain rfl := hWe.symm; clear hWe))
                  clear hL
                  go_roundg (gk - 1)
                  case measure => omega
                  case rel =>
                    have hst := HST.out.2
                    rw [HR.out, Bool.true_and] at hst
                    exact ⟨_, rfl, ⟨g, by have := HST.out.1; have := HW.out; omega, hst.symm⟩, by have := HW.out; omega⟩
              · have HR : Aside0 (runeB (decide (pos = 0)) ((Utf8.decode s pos).1 : Int) = false) := ⟨by rw [hr, decide_eq_false h57]; simp⟩
                have h58 : (57 : Int) < ((Utf8.decode s pos).1 : Int) := by omega
                clear hr
                clear hst hN hg hf hw1 hp
                go_wp2_with (go_at_call 13; go_loud (refine hL.mono ?_); (intro e W' hWE; obtain ⟨rfl, hWe⟩ := hWE; obtain rfl := hWe.symm; clear hWe))
                clear hL
                go_ret
                have hst := HST.out.2
                rw [HR.out, Bool.false_and] at hst
                exact ⟨by rw [hst]; rfl, (Below.refl _ _).alloc (Nat.le_refl _) _⟩
            · have HR : Aside0 (runeB (decide (pos = 0)) ((Utf8.decode s pos).1 : Int) = false) := ⟨by rw [hr, decide_eq_false h48]; simp⟩
              have h47 : ((Utf8.decode s pos).1 : Int) < 48 := by omega
              clear hr
              clear hst hN hg hf hw1 hp
              go_wp2_with (go_at_call 13; go_loud (refine hL.mono ?_); (intro e W' hWE; obtain ⟨rfl, hWe⟩ := hWE; obtain rfl := hWe.symm; clear hWe))
              clear hL
              go_ret
              have hst := HST.out.2
              rw [HR.out, Bool.false_and] at hst
              exact ⟨by rw [hst]; rfl, (Below.refl _ _).alloc (Nat.le_refl _) _⟩
        · have hnx : ∀ ty, (Instr.next (.pointer (some ⟨w.heap.size, 0, none⟩)) true ty).run Tryd.prog (w.iter s pos) = _ := fun ty => run_next_end w s pos ty hp
          go_wp2
          go_ret
          obtain ⟨f, hf, hN⟩ := HV.out
          rw [nameF_end s f pos hp] at hN
          exact ⟨by rw [← hN]; rfl, (Below.refl _ _).alloc (Nat.le_refl _) _⟩
    · have h33 : (32 : Int) < (s.size : Int) := by omega
      have hB : nameB s = false := by rw [nameB, decide_eq_false h32]; simp
      rw [hB]
      go_enter Tryd.func6, Tryd.ntmps6
      go_wp2
      go_ret
      exact ⟨rfl, Below.refl _ _⟩
end Go.Proofs.YtffifhinhemkdaaDoor
