/- The walk of the law ColvecTruths. -/
import Derived.Test.YtbdbcbpcekpcoaaCvTru2
set_option linter.unusedVariables false
set_option linter.unusedSimpArgs false
namespace Go.Proofs.Ytbdbcbpcekpcoaa
open Go.RowKit Go.Maps

theorem own_ints {W : World} {B : Nat} {v : Value} {p : List Int} (h : W.ownsRow B 3 1 v p.length (numCells p)) :
    ∃ (A : Option Addr) (cap : Nat), v = .slice A p.length cap ∧ ReadsI W A p := by
  have h' := h
  rcases h with ⟨hl, ⟨rfl, h0⟩ | ⟨g, cap, cur, rfl, hg, hh, hn, hm, hs, htk⟩⟩
  · rw [h0]
    exact ⟨none, 0, rfl, ⟨by omega, fun hp => absurd hp (by omega)⟩⟩
  · refine ⟨_, cap, rfl, ⟨by unfold maxLen at hm; omega, fun _ => ⟨_, rfl, fun j hj => ?_⟩⟩⟩
    have hcs := h'.cells (g := g) rfl j (.int .i64 (p.getD j 0)) (by simp [numCells, List.getD, hj])
    exact hcs
set_option maxRecDepth 100000 in
set_option maxHeartbeats 6400000 in
theorem truths_walk (A : Option Addr) (vs : List V5) (c : Nat) (w : World) (hr : ReadsV w A vs) (hN : vs.length ≤ 10000000000000) :
    Calls Try.prog 5 #[.slice A vs.length c] w fun e w' => e = .returned (.bool true) ∧ Below w.heap.size w w' := by
  have hH := head_any w
  have hA := fun W (h : Below w.heap.size w W) => true_any A vs c W (hr.below h) hN
  have hB := fun W (h : Below w.heap.size w W) => rtrue_any A vs c W (hr.below h) hN
  have hC := fun W (h : Below w.heap.size w W) => faults_any A vs c W (hr.below h)
  have hD := fun W (h : Below w.heap.size w W) => rfaults_any A vs c W (hr.below h)
  have hln := truL_len vs vs.length
  generalize truL vs vs.length = p at hA hB hln
  generalize fltB vs = fb at hC hD
  have hfb : (fb != fb) = false := by simp
  generalize vs.length = n at hA hB hC hD hln hN ⊢
  have hp9 : p.length ≤ 10000000000000 := by omega
  clear hr hln hN
  go_enter Try.func5, Try.ntmps5
  go_wp2_with (go_at_call 8; go_loud (refine hH.mono ?_))
  first
    | (intro e W1 he HB1; subst he)
    | rintro e W1 ⟨rfl, HB1⟩
  have hA1 := hA W1 HB1
  clear hA hH
  go_wp2_with (go_at_call 17; go_loud (refine hA1.mono ?_))
  rintro e W2 ⟨v2, rfl, ho2, hb2⟩
  have HB2 := below_then HB1 hb2
  obtain ⟨A2, c2, rfl, hr2⟩ := own_ints ho2
  have hB2 := hB W2 HB2
  clear hA1 hB ho2 HB1 hb2
  go_wp2_with (go_at_call 18; go_loud (refine hB2.mono ?_))
  rintro e W3 ⟨v3, rfl, ho3, hb3⟩
  have HB3 := below_then HB2 hb3
  obtain ⟨A3, c3, rfl, hr3⟩ := own_ints ho3
  have hr23 := hr2.below hb3
  have hC3 := hC W3 HB3
  clear hB2 hC ho3 HB2 hb3 hr2
  obtain ⟨m, hm⟩ : ∃ m, m = p.length := ⟨_, rfl⟩
  rw [← hm] at hp9 ⊢
  have HM := Aside0.mk hm
  have HR2 := Aside0.mk hr23
  have HR3 := Aside0.mk hr3
  clear hm hr23 hr3
  go_wp2_with (go_at_call 19; go_loud (refine hC3.mono ?_))
  first
    | (intro e W4 he hb4; subst he)
    | rintro e W4 ⟨rfl, hb4⟩
  have HB4 := below_then HB3 hb4
  have HR24 := Aside0.mk (HR2.out.below hb4)
  have HR34 := Aside0.mk (HR3.out.below hb4)
  have hD4 := hD W4 HB4
  clear hC3 hD HB3 hb4 HR2 HR3
  go_wp2_with (go_at_call 20; go_loud (refine hD4.mono ?_))
  rintro e W5 ⟨rfl, rfl⟩
  go_wp2
  go_loopg [6] (m + 1) (fun gg s6 wr => ∃ j : Nat, j ≤ m ∧ m < gg + j ∧ s6 = .int .i64 j ∧ Below W5.heap.size W5 wr)
  case atStart => exact ⟨0, Nat.zero_le _, by omega, rfl, Below.refl _ _⟩
  case round =>
    obtain ⟨j, hj, hg, rfl, HB⟩ := hrel
    by_cases hlt : j < m
    · have hlti : (j : Int) < (m : Int) := by omega
      have hj0 : (0 : Int) ≤ (j : Int) := by omega
      have hjl : j < p.length := by have := HM.out; omega
      obtain ⟨ada, rfl, hca⟩ := (HR24.out.below HB).at_ j hjl
      obtain ⟨adb, rfl, hcb⟩ := (HR34.out.below HB).at_ j hjl
      generalize p.getD j 0 = x at hca hcb
      have hxx : (x != x) = false := by simp
      have HBB := Aside0.mk HB
      clear hjl HB
      go_upto_region 9 with (fail)
      refine wp_region_held_drew (S := (fun WW => WW.cell? (ada.add j) = some (.int .i64 x) ∧ WW.cell? (adb.add j) = some (.int .i64 x))) (by kernel_rfl) ?_ (fun hHeld => ?_)
      · exact ⟨hca, hcb⟩
      refine take_in (i := 0) (v := ?v0a) rfl (by kernel_rfl) (by kernel_rfl) (by kernel_rfl) (fun _ _ _ h => h) (by rfl) ?hy0a (by assumption) ?_
      case hy0a => intro WW hSw; (try dsimp only at hSw); go_simp; try with_reducible rfl
      try simp only [Act.put, List.setIfInBounds_toArray, List.set_cons_zero, List.set_cons_succ]
      refine take_in (i := 1) (v := ?v1a) rfl (by kernel_rfl) (by kernel_rfl) (by kernel_rfl) (fun _ _ _ h => h) (by rfl) ?hy1a (by assumption) ?_
      case hy1a => intro WW hSw; (try dsimp only at hSw); go_simp; try with_reducible rfl
      try simp only [Act.put, List.setIfInBounds_toArray, List.set_cons_zero, List.set_cons_succ]
      refine take_in (i := 2) (v := ?v2a) rfl (by kernel_rfl) (by kernel_rfl) (by kernel_rfl) (fun _ _ _ h => h) (by rfl) ?hy2a (by assumption) ?_
      case hy2a => intro WW hSw; (try dsimp only at hSw); go_simp; try with_reducible rfl
      try simp only [Act.put, List.setIfInBounds_toArray, List.set_cons_zero, List.set_cons_succ]
      refine take_in (i := 3) (v := ?v3a) rfl (by kernel_rfl) (by kernel_rfl) (by kernel_rfl) (fun _ _ _ h => h) (by rfl) ?hy3a (by assumption) ?_
      case hy3a => intro WW hSw; (try dsimp only at hSw); go_simp; try with_reducible rfl
      try simp only [Act.put, List.setIfInBounds_toArray, List.set_cons_zero, List.set_cons_succ]
      refine take_in (i := 4) (v := ?v4a) rfl (by kernel_rfl) (by kernel_rfl) (by kernel_rfl) (fun _ _ _ h => h) (by rfl) ?hy4a (by assumption) ?_
      case hy4a => intro WW hSw; (try dsimp only at hSw); go_simp; try with_reducible rfl
      try simp only [Act.put, List.setIfInBounds_toArray, List.set_cons_zero, List.set_cons_succ]
      refine take_in (i := 5) (v := ?v5a) rfl (by kernel_rfl) (by kernel_rfl) (by kernel_rfl) (fun _ _ _ h => h) (by rfl) ?hy5a (by assumption) ?_
      case hy5a => intro WW hSw; (try dsimp only at hSw); go_simp; try with_reducible rfl
      try simp only [Act.put, List.setIfInBounds_toArray, List.set_cons_zero, List.set_cons_succ]
      refine take_in (i := 6) (v := ?v6a) rfl (by kernel_rfl) (by kernel_rfl) (by kernel_rfl) (fun _ _ _ h => h) (by rfl) ?hy6a (by assumption) ?_
      case hy6a => intro WW hSw; (try dsimp only at hSw); go_simp; try with_reducible rfl
      try simp only [Act.put, List.setIfInBounds_toArray, List.set_cons_zero, List.set_cons_succ]
      refine take_in (i := 7) (v := ?v7a) rfl (by kernel_rfl) (by kernel_rfl) (by kernel_rfl) (fun _ _ _ h => h) (by rfl) ?hy7a (by assumption) ?_
      case hy7a => intro WW hSw; (try dsimp only at hSw); go_simp; try with_reducible rfl
      try simp only [Act.put, List.setIfInBounds_toArray, List.set_cons_zero, List.set_cons_succ]
      refine take_in (i := 8) (v := .bool false) rfl (by kernel_rfl) (by kernel_rfl) (by kernel_rfl) (fun _ _ _ h => h) (by rfl) ?hy8a (by assumption) ?_
      case hy8a => intro WW hSw; (try dsimp only at hSw); have hh := hxx; go_simp; try with_reducible rfl
      try simp only [Act.put, List.setIfInBounds_toArray, List.set_cons_zero, List.set_cons_succ]
      refine wpAnyH_done (by kernel_rfl) ?_ _
      go_wp2
      go_roundg (gk - 1)
      case measure => omega
      case rel => exact ⟨j + 1, by omega, by omega, by go_num, (by repeat (first | exact HBB.out | apply below_drew | apply below_drewn))⟩
    · obtain rfl : j = m := by omega
      go_wp2
      go_ret
      exact ⟨rfl, below_then HB4 HB⟩
end Go.Proofs.Ytbdbcbpcekpcoaa
