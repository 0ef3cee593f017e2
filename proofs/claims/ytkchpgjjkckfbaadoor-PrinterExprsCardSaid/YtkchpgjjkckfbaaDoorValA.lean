/- The walks of value's small functions: text, id. -/
import Derived.Test.YtkchpgjjkckfbaaDoorVal0
import Derived.Test.YtkchpgjjkckfbaaDoorRows
set_option linter.unusedVariables false
set_option linter.unusedSimpArgs false
namespace Go.Proofs.YtkchpgjjkckfbaaDoor
open Go.RowKit

theorem pre3 (s : ByteArray) (w : World) :
    Calls Tryd.prog 108 #[.string s, .string ⟨#[239, 191, 189]⟩] w fun e w' => e = .returned (.bool (decide (s.data.toList.take 3 = bad3))) ∧ w = w' := by
  by_cases h3 : 3 ≤ s.size
  · have h3' : (3 : Int) ≤ (s.size : Int) := by omega
    go_enter Tryd.func108, Tryd.ntmps108
    go_wp2
    go_ret
    refine ⟨?_, rfl⟩
    show Ending.returned (Value.bool ((s.extract 0 3).toList == [239, 191, 189])) = _
    rw [Lib.extract_toList]
    congr 2
    rw [Bool.eq_iff_iff, decide_eq_true_iff]
    simp [bad3]
  · have h3' : ¬ (3 : Int) ≤ (s.size : Int) := by omega
    go_enter Tryd.func108, Tryd.ntmps108
    go_wp2
    go_ret
    refine ⟨?_, rfl⟩
    show Ending.returned (Value.bool false) = _
    have : ¬ s.data.toList.take 3 = bad3 := fun h => by
      have := congrArg List.length h
      rw [List.length_take] at this
      have hs : s.data.toList.length = s.size := rfl
      simp [bad3] at this
      omega
    simp [this]

theorem id_any (n : Int) (w : World) :
    Calls Tryd.prog 89 #[.int .i64 n] w fun e w' => e = .returned (.bool (idB n)) ∧ w = w' := by
  by_cases h0 : 0 ≤ n
  · by_cases h1 : n ≤ 1099511627776
    · go_enter Tryd.func89, Tryd.ntmps89
      go_wp2
      go_ret
      exact ⟨by simp [idB, h0, h1], rfl⟩
    · go_enter Tryd.func89, Tryd.ntmps89
      go_wp2
      go_ret
      exact ⟨by simp [idB, h0, h1], rfl⟩
  · go_enter Tryd.func89, Tryd.ntmps89
    go_wp2
    go_ret
    exact ⟨by simp [idB, show ¬ 0 ≤ n by omega], rfl⟩

set_option maxRecDepth 100000 in
set_option maxHeartbeats 400000 in
theorem text_any (s : ByteArray) (w : World) :
    Calls Tryd.prog 88 #[.string s] w fun e w' => e = .returned (.bool (textB s)) ∧ Below w.heap.size w w' := by
  by_cases hl : s.size ≤ 4096
  · have hl' : ¬ (4096 : Int) < (s.size : Int) := by omega
    obtain ⟨ANS, hANS⟩ : ∃ ANS, textB s = ANS := ⟨_, rfl⟩
    have HA := Aside0.mk hANS
    rw [hANS]
    clear hANS
    go_enter Tryd.func88, Tryd.ntmps88
    go_wp2
    go_loopg [3, 4] (s.size + 1) (fun gk v3 v4 wr => ∃ pos : Nat, wr = w.iter s pos ∧ Aside0 (Lib.validD (s.data.toList.drop pos) = ANS) ∧ s.size < gk + pos)
    case atStart => exact ⟨0, rfl, ⟨by have := HA.out; simpa [textB, hl] using this⟩, by omega⟩
    case round =>
      obtain ⟨pos, rfl, HV, hb⟩ := hrel
      by_cases hp : pos < s.size
      · have hnx : ∀ ty, (Instr.next (.pointer (some ⟨w.heap.size, 0, none⟩)) true ty).run Tryd.prog (w.iter s pos) = _ := fun ty => run_next_any w s pos ty hp
        have hd := Lib.decodeL_drop s pos
        have hne : s.data.toList.drop pos ≠ [] := by
          intro h
          have := congrArg List.length h
          have hs : s.data.toList.length = s.size := rfl
          simp at this
          omega
        have hst := Lib.validD_step _ hne
        have hw := Lib.decodeL_width (s.data.toList.drop pos)
        rw [hd] at hst hw
        rw [List.drop_drop] at hst
        have HST := Aside0.mk hst
        clear hst
        have HP := Aside0.mk hp
        have hpi : (pos : Int) ≤ (s.size : Int) := by omega
        have hgk : 0 < gk := by omega
        by_cases hc : (Utf8.decode s pos).1 = 65533
        · have hcb : (((Utf8.decode s pos).1 : Int) == 65533) = true := by simp [hc]
          have hx : (s.extract pos s.size).data.toList = s.data.toList.drop pos := Lib.extract_to_end s pos
          have HC := Aside0.mk hc
          by_cases h3 : (s.data.toList.drop pos).take 3 = bad3
          · have H3 := decodeL_bad3 _ h3
            rw [hd] at H3
            have H3' := Aside0.mk H3
            have hd3 : decide ((s.extract pos s.size).data.toList.take 3 = bad3) = true := by rw [hx]; exact decide_eq_true h3
            have hcon : Calls Tryd.prog 108 #[.string (s.extract pos s.size), .string ⟨#[239, 191, 189]⟩] (w.iter s (pos + (Utf8.decode s pos).2)) fun e w' => e = .returned (.bool true) ∧ (w.iter s (pos + (Utf8.decode s pos).2)) = w' := by
              have := pre3 (s.extract pos s.size) (w.iter s (pos + (Utf8.decode s pos).2))
              rwa [hd3] at this
            clear hc hd hne hp H3 h3 hx hd3
            go_wp2_with (go_at_call 108; refine hcon.mono ?_; rintro e w' ⟨rfl, rfl⟩)
            clear hcon
            go_roundg (gk - 1)
            case measure => omega
            case rel =>
              refine ⟨_, rfl, ⟨?_⟩, by omega⟩
              have := HST.out
              rw [H3'.out] at this
              simp at this
              rw [H3'.out]
              rw [← this]
              exact HV.out
          · have H1 := decodeL_not_bad3 _ hne (by rw [hd]; exact hc) h3
            rw [hd] at H1
            have H1' := Aside0.mk H1
            have hd3 : decide ((s.extract pos s.size).data.toList.take 3 = bad3) = false := by rw [hx]; exact decide_eq_false h3
            have hcon : Calls Tryd.prog 108 #[.string (s.extract pos s.size), .string ⟨#[239, 191, 189]⟩] (w.iter s (pos + (Utf8.decode s pos).2)) fun e w' => e = .returned (.bool false) ∧ (w.iter s (pos + (Utf8.decode s pos).2)) = w' := by
              have := pre3 (s.extract pos s.size) (w.iter s (pos + (Utf8.decode s pos).2))
              rwa [hd3] at this
            clear hc hd hne hp H1 h3 hx hd3
            go_wp2_with (go_at_call 108; refine hcon.mono ?_; rintro e w' ⟨rfl, rfl⟩)
            clear hcon
            go_ret
            have := HST.out
            rw [if_pos ⟨HC.out, H1'.out⟩] at this
            rw [HV.out] at this
            exact ⟨by rw [this]; rfl, (Below.refl _ _).alloc (Nat.le_refl _) _⟩
        · have hcb : (((Utf8.decode s pos).1 : Int) == 65533) = false := by
            rw [beq_eq_false_iff_ne]
            omega
          have HC := Aside0.mk hc
          clear hc hd hne hp
          go_wp2
          go_roundg (gk - 1)
          case measure => omega
          case rel =>
            refine ⟨_, rfl, ⟨?_⟩, by omega⟩
            have := HST.out
            rw [if_neg (fun h => HC.out h.1)] at this
            rw [← this]
            exact HV.out
      · have hnx : ∀ ty, (Instr.next (.pointer (some ⟨w.heap.size, 0, none⟩)) true ty).run Tryd.prog (w.iter s pos) = _ := fun ty => run_next_end w s pos ty hp
        go_wp2
        go_ret
        have : s.data.toList.drop pos = [] := List.drop_eq_nil_of_le (by have hs : s.data.toList.length = s.size := rfl; omega)
        have hv := HV.out
        rw [this] at hv
        exact ⟨by rw [← hv]; rfl, (Below.refl _ _).alloc (Nat.le_refl _) _⟩
  · have hl' : (4096 : Int) < (s.size : Int) := by omega
    go_enter Tryd.func88, Tryd.ntmps88
    go_wp2
    go_ret
    exact ⟨by simp [textB, hl], Below.refl _ _⟩
end Go.Proofs.YtkchpgjjkckfbaaDoor
