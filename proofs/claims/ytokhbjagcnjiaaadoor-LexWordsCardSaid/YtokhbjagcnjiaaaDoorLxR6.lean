/- The reference's Same: two rows that hold the same words are told alike. -/
import Derived.Test.YtokhbjagcnjiaaaDoorLLxMov0
import Derived.Test.YtokhbjagcnjiaaaDoorRegS
import Derived.Deep.Cut
set_option linter.unusedVariables false
set_option linter.unusedSimpArgs false
namespace Go.Proofs.YtokhbjagcnjiaaaDoor
open Go.RowKit

set_option maxRecDepth 100000 in
set_option maxHeartbeats 3200000 in
theorem rsame_any (A B : Option Addr) (qa qb n : Nat) (ts : List Tok) (w : World) (h63 : n ≤ 9223372036854775807)
    (hrow : ∀ j, j < n → ∃ ad bd, A = some ad ∧ B = some bd ∧ Holds4 w (ad.add (j * 4)) (ts.getD j tok0) ∧ Holds4 w (bd.add (j * 4)) (ts.getD j tok0)) :
    Calls Tryd.prog 15 #[.slice A n qa, .slice B n qb] w fun e w' => e = .returned (.bool true) ∧ Below w.heap.size w w' := by
  have HX := Aside0.mk hrow
  clear hrow
  go_enter Tryd.func15, Tryd.ntmps15
  go_wp2
  go_loopg [5] (n + 1) (fun gg s5 wr => ∃ j : Nat, j ≤ n ∧ n < gg + j ∧ s5 = .int .i64 j ∧ Below w.heap.size w wr)
  case atStart => exact ⟨0, by omega, by omega, rfl, Below.refl _ _⟩
  case round =>
    obtain ⟨j, hj, hg, rfl, HB⟩ := hrel
    have hj0 : (0 : Int) ≤ (j : Int) := by omega
    by_cases hlt : j < n
    · have hlti : (j : Int) < (n : Int) := by omega
      obtain ⟨ad, bd, e2, e3, h2, h3⟩ := HX.out j hlt
      subst e2 e3
      have h2 := h2.kept HB
      have h3 := h3.kept HB
      generalize ts.getD j tok0 = t at h2 h3
      obtain ⟨K, X, N, P⟩ := t
      obtain ⟨b2, _, c20, c21, c22, c23⟩ := h2
      obtain ⟨b3, _, c30, c31, c32, c33⟩ := h3
      simp only at c20 c21 c22 c23 c30 c31 c32 c33
      have hx : ((⟨X.toArray⟩ : ByteArray).toList == (⟨X.toArray⟩ : ByteArray).toList) = true := by simp
      generalize (⟨X.toArray⟩ : ByteArray) = XT at c21 c31 hx
      go_upto_region 6 with (fail)
      refine wp_region_held_drew (S := (fun WW => (WW.cell? (ad.add (j * 4)) = some (.int .i64 K) ∧ WW.cell? ⟨(ad.add (j * 4)).block, (ad.add (j * 4)).off + 1, none⟩ = some (.string XT) ∧ WW.cell? ⟨(ad.add (j * 4)).block, (ad.add (j * 4)).off + 2, none⟩ = some (.int .i64 N) ∧ WW.cell? ⟨(ad.add (j * 4)).block, (ad.add (j * 4)).off + 3, none⟩ = some (.int .i64 P)) ∧ (WW.cell? (bd.add (j * 4)) = some (.int .i64 K) ∧ WW.cell? ⟨(bd.add (j * 4)).block, (bd.add (j * 4)).off + 1, none⟩ = some (.string XT) ∧ WW.cell? ⟨(bd.add (j * 4)).block, (bd.add (j * 4)).off + 2, none⟩ = some (.int .i64 N) ∧ WW.cell? ⟨(bd.add (j * 4)).block, (bd.add (j * 4)).off + 3, none⟩ = some (.int .i64 P)))) (by kernel_rfl) ?_ (fun hHeld => ?_)
      · exact ⟨⟨c20, c21, c22, c23⟩, ⟨c30, c31, c32, c33⟩⟩
      refine take_in (i := 0) (v := ?v0) rfl (by kernel_rfl) (by kernel_rfl) (by kernel_rfl) (fun _ _ _ h => h) (by rfl) ?hy0 (by assumption) ?_
      case hy0 => intro WW hSw; (try dsimp only at hSw); go_simp; try with_reducible rfl
      try simp only [Act.put, List.setIfInBounds_toArray, List.set_cons_zero, List.set_cons_succ]
      refine take_in (i := 1) (v := ?v1) rfl (by kernel_rfl) (by kernel_rfl) (by kernel_rfl) (fun _ _ _ h => h) (by rfl) ?hy1 (by assumption) ?_
      case hy1 => intro WW hSw; (try dsimp only at hSw); go_simp; try with_reducible rfl
      try simp only [Act.put, List.setIfInBounds_toArray, List.set_cons_zero, List.set_cons_succ]
      refine take_in (i := 2) (v := ?v2) rfl (by kernel_rfl) (by kernel_rfl) (by kernel_rfl) (fun _ _ _ h => h) (by rfl) ?hy2 (by assumption) ?_
      case hy2 => intro WW hSw; (try dsimp only at hSw); go_simp; try with_reducible rfl
      try simp only [Act.put, List.setIfInBounds_toArray, List.set_cons_zero, List.set_cons_succ]
      refine take_in (i := 3) (v := ?v3) rfl (by kernel_rfl) (by kernel_rfl) (by kernel_rfl) (fun _ _ _ h => h) (by rfl) ?hy3 (by assumption) ?_
      case hy3 => intro WW hSw; (try dsimp only at hSw); go_simp; try with_reducible rfl
      try simp only [Act.put, List.setIfInBounds_toArray, List.set_cons_zero, List.set_cons_succ]
      refine take_in (i := 4) (v := ?v4) rfl (by kernel_rfl) (by kernel_rfl) (by kernel_rfl) (fun _ _ _ h => h) (by rfl) ?hy4 (by assumption) ?_
      case hy4 => intro WW hSw; (try dsimp only at hSw); go_simp; try with_reducible rfl
      try simp only [Act.put, List.setIfInBounds_toArray, List.set_cons_zero, List.set_cons_succ]
      refine take_in (i := 5) (v := ?v5) rfl (by kernel_rfl) (by kernel_rfl) (by kernel_rfl) (fun _ _ _ h => h) (by rfl) ?hy5 (by assumption) ?_
      case hy5 => intro WW hSw; (try dsimp only at hSw); go_simp; try with_reducible rfl
      try simp only [Act.put, List.setIfInBounds_toArray, List.set_cons_zero, List.set_cons_succ]
      refine take_in (i := 6) (v := ?v6) rfl (by kernel_rfl) (by kernel_rfl) (by kernel_rfl) (fun _ _ _ h => h) (by rfl) ?hy6 (by assumption) ?_
      case hy6 => intro WW hSw; (try dsimp only at hSw); go_simp; try with_reducible rfl
      try simp only [Act.put, List.setIfInBounds_toArray, List.set_cons_zero, List.set_cons_succ]
      refine take_in (i := 7) (v := ?v7) rfl (by kernel_rfl) (by kernel_rfl) (by kernel_rfl) (fun _ _ _ h => h) (by rfl) ?hy7 (by assumption) ?_
      case hy7 => intro WW hSw; (try dsimp only at hSw); go_simp; try with_reducible rfl
      try simp only [Act.put, List.setIfInBounds_toArray, List.set_cons_zero, List.set_cons_succ]
      refine take_in (i := 8) (v := .bool false) rfl (by kernel_rfl) (by kernel_rfl) (by kernel_rfl) (fun _ _ _ h => h) (by rfl) ?hy8 (by assumption) ?_
      case hy8 => intro WW hSw; (try dsimp only at hSw); go_simp; try with_reducible rfl
      try simp only [Act.put, List.setIfInBounds_toArray, List.set_cons_zero, List.set_cons_succ]
      refine wpAnyH_done (by kernel_rfl) ?_ _
      go_wp2
      go_roundg (gk - 1)
      case measure => omega
      case rel => exact ⟨j + 1, by omega, by omega, by go_num, ⟨HB.os, HB.tape, HB.output, HB.size, HB.block⟩⟩
    · obtain rfl : j = n := by omega
      clear hlt
      go_wp2
      go_ret
      exact ⟨rfl, HB⟩
end Go.Proofs.YtokhbjagcnjiaaaDoor
