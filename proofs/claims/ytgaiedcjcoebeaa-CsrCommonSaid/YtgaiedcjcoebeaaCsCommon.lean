/- The walk of the law CsrCommon. -/
import Derived.Test.YtgaiedcjcoebeaaCsOwn
set_option linter.unusedVariables false
set_option linter.unusedSimpArgs false
namespace Go.Proofs.Ytgaiedcjcoebeaa
open Go.RowKit

set_option maxRecDepth 100000 in
set_option maxHeartbeats 6400000 in
theorem common_walk (A : Option Addr) (rs : List R3) (c : Nat) (w : World) (hr : ReadsL w A rs) (hsm : Small rs) :
    Calls Try.prog 5 #[.slice A rs.length c] w fun e w' => e = .returned (.bool true) ∧ Below w.heap.size w w' := by
  have hH := fun W => head_any W
  have hM := fun W (h : Below w.heap.size w W) => meet_reads A rs c W (hr.below h) hsm
  have hT0 := fun x W (h : Below w.heap.size w W) => times_any A rs c x W (hr.below h) hsm
  have hcs := meet_cases (lsOf rs)
  have hcl := fun h => common_small hsm h
  obtain ⟨ls, hls⟩ : ∃ ls, ls = lsOf rs := ⟨_, rfl⟩
  rw [← hls] at hM hT0 hcs hcl
  obtain ⟨m, hm⟩ : ∃ m, m = rs.length := ⟨_, rfl⟩
  have hlm : ls.length = m := by rw [hls, hm]; simp [lsOf]
  have hm63 : (m : Int) ≤ 5864062014805 := by have := hsm.rows; omega
  rw [← hm] at hM hT0 ⊢
  have HR := Aside0.mk hr
  have HS := Aside0.mk hsm
  have HM := Aside0.mk hm
  have HL := Aside0.mk hls
  have HLM := Aside0.mk hlm
  have HT0 := Aside0.mk hT0
  have HCL := Aside0.mk hcl
  clear hr hsm hm hls hlm hT0 hcl
  generalize meetL ls = P at hM hcs
  generalize meetE ls = E at hM hcs
  have HCS := Aside0.mk hcs
  clear hcs
  go_enter Try.func5, Try.ntmps5
  go_wp2_with (go_at_call 6; go_loud (refine (hH _).mono ?_))
  first
    | (intro e W1 he hb1; subst he)
    | rintro e W1 ⟨rfl, hb1⟩
  have HB1 : Below w.heap.size w W1 := by first | exact hb1 | exact below_more hb1
  clear hb1 hH
  go_wp2_with (go_at_call 7; go_loud (refine (hM _ HB1).mono ?_))
  first
    | (intro e W2 A' c' he hrA hca hb2; subst he)
    | rintro e W2 ⟨A', c', rfl, hrA, hca, hb2⟩
  have HB2 := below_then HB1 hb2
  clear hb2 hM HB1
  have HRA := Aside0.mk hrA
  clear hrA
  rcases HCS.out with ⟨hE, hP⟩ | ⟨hE, hP⟩ | ⟨hE, hne, hup, hP⟩
  · rw [hE]
    subst hP
    clear hE HCS
    rw [List.length_nil]
    go_wp2
    go_ret
    exact ⟨rfl, HB2⟩
  · rw [hE]
    subst hP
    clear hE HCS
    rw [List.length_nil]
    go_wp2
    go_ret
    exact ⟨rfl, HB2⟩
  subst hE
  have HNE := Aside0.mk hne
  have HUP := Aside0.mk hup
  have HP := Aside0.mk hP
  have hpl := HCL.out hne
  rw [← hP] at hpl
  clear hne hup hP HCS
  obtain ⟨n, hn⟩ : ∃ n, n = P.length := ⟨_, rfl⟩
  rw [← hn] at hpl hca ⊢
  have hni : (n : Int) ≤ 17592186044416 := by omega
  have hm0 : 0 < m := by
    have h1 := HLM.out
    rcases Nat.eq_zero_or_pos m with e | e
    · rw [e] at h1; exact absurd (List.length_eq_zero_iff.1 h1) HNE.out
    · exact e
  have hm0i : (0 : Int) < (m : Int) := by omega
  have HN := Aside0.mk hn
  clear hn
  go_wp2
  go_loopg [6] (n + 1) (fun gg s6 wr => ∃ i : Nat, i ≤ n ∧ n < gg + i ∧ s6 = .int .i64 i ∧ Below w.heap.size w wr ∧ Aside0 (ReadsI wr A' P))
  case atStart => exact ⟨0, by omega, by omega, rfl, HB2, ⟨HRA.out⟩⟩
  case round =>
    obtain ⟨i, hi, hg, rfl, HB, HRP⟩ := hrel
    have hi0 : (0 : Int) ≤ (i : Int) := by omega
    by_cases hlt : i < n
    · have hlti : (i : Int) < (n : Int) := by omega
      have hil : i < P.length := by have := HN.out; omega
      obtain ⟨ad, hA, hcs⟩ := HRP.out.2 (by omega)
      have hx := hcs i hil
      have htx : timesL ls (P.getD i 0) = m := by
        have h1 : i < (commonL ls).length := by rw [← HP.out]; exact hil
        have h2 := times_common HNE.out h1
        rw [HP.out, h2]
        exact HLM.out
      have hT := fun W (h : Below w.heap.size w W) => HT0.out (P.getD i 0) W h
      rw [htx] at hT
      have hmm : ((m : Int) != (m : Int)) = false := by simp
      clear htx
      subst hA
      by_cases hz : i = 0
      · have hip : ¬ (0 : Int) < (i : Int) := by omega
        have HZ := Aside0.mk hz
        clear hcs hz
        generalize P.getD i 0 = x at hx hT
        go_upto_region 8 with (fail)
        refine wp_region_held_drew (S := (fun WW => WW.cell? (ad.add i) = some (.int .i64 x))) (by kernel_rfl) ?_ (fun hHeld => ?_)
        · first | exact hx9 | exact hx
        refine take_in (i := 0) (v := ?v0a) rfl (by kernel_rfl) (by kernel_rfl) (by kernel_rfl) (fun _ _ _ h => h) (by rfl) ?hy0a (by assumption) ?_
        case hy0a => intro WW hSw; (try dsimp only at hSw); go_simp; try with_reducible rfl
        try simp only [Act.put, List.setIfInBounds_toArray, List.set_cons_zero, List.set_cons_succ]
        refine take_in (i := 1) (v := .bool false) rfl (by kernel_rfl) (by kernel_rfl) (by kernel_rfl) (fun _ _ _ h => h) (by rfl) ?hy1a (by assumption) ?_
        case hy1a => intro WW hSw; (try dsimp only at hSw); go_simp; first | done | exact HZ.out | (try with_reducible rfl)
        try simp only [Act.put, List.setIfInBounds_toArray, List.set_cons_zero, List.set_cons_succ]
        refine take_in (i := 2) (v := .bool false) rfl (by kernel_rfl) (by kernel_rfl) (by kernel_rfl) (fun _ _ _ h => h) (by rfl) ?hy2a (by assumption) ?_
        case hy2a => intro WW hSw; (try dsimp only at hSw); go_simp; try with_reducible rfl
        try simp only [Act.put, List.setIfInBounds_toArray, List.set_cons_zero, List.set_cons_succ]
        refine take_out (i := 3) rfl (by kernel_rfl) (by kernel_rfl) (by kernel_rfl) (fun _ _ _ h => h) (by rfl) (by assumption) ?_
        try simp only [Act.put, List.setIfInBounds_toArray, List.set_cons_zero, List.set_cons_succ]
        refine take_out (i := 4) rfl (by kernel_rfl) (by kernel_rfl) (by kernel_rfl) (fun _ _ _ h => h) (by rfl) (by assumption) ?_
        try simp only [Act.put, List.setIfInBounds_toArray, List.set_cons_zero, List.set_cons_succ]
        refine take_out (i := 5) rfl (by kernel_rfl) (by kernel_rfl) (by kernel_rfl) (fun _ _ _ h => h) (by rfl) (by assumption) ?_
        try simp only [Act.put, List.setIfInBounds_toArray, List.set_cons_zero, List.set_cons_succ]
        refine take_out (i := 6) rfl (by kernel_rfl) (by kernel_rfl) (by kernel_rfl) (fun _ _ _ h => h) (by rfl) (by assumption) ?_
        try simp only [Act.put, List.setIfInBounds_toArray, List.set_cons_zero, List.set_cons_succ]
        refine take_out (i := 7) rfl (by kernel_rfl) (by kernel_rfl) (by kernel_rfl) (fun _ _ _ h => h) (by rfl) (by assumption) ?_
        try simp only [Act.put, List.setIfInBounds_toArray, List.set_cons_zero, List.set_cons_succ]
        refine take_out (i := 8) rfl (by kernel_rfl) (by kernel_rfl) (by kernel_rfl) (fun _ _ _ h => h) (by rfl) (by assumption) ?_
        try simp only [Act.put, List.setIfInBounds_toArray, List.set_cons_zero, List.set_cons_succ]
        refine take_out (i := 9) rfl (by kernel_rfl) (by kernel_rfl) (by kernel_rfl) (fun _ _ _ h => h) (by rfl) (by assumption) ?_
        try simp only [Act.put, List.setIfInBounds_toArray, List.set_cons_zero, List.set_cons_succ]
        refine take_out (i := 10) rfl (by kernel_rfl) (by kernel_rfl) (by kernel_rfl) (fun _ _ _ h => h) (by rfl) (by assumption) ?_
        try simp only [Act.put, List.setIfInBounds_toArray, List.set_cons_zero, List.set_cons_succ]
        refine take_out (i := 11) rfl (by kernel_rfl) (by kernel_rfl) (by kernel_rfl) (fun _ _ _ h => h) (by rfl) (by assumption) ?_
        try simp only [Act.put, List.setIfInBounds_toArray, List.set_cons_zero, List.set_cons_succ]
        refine take_out (i := 12) rfl (by kernel_rfl) (by kernel_rfl) (by kernel_rfl) (fun _ _ _ h => h) (by rfl) (by assumption) ?_
        try simp only [Act.put, List.setIfInBounds_toArray, List.set_cons_zero, List.set_cons_succ]
        refine take_in (i := 13) (v := ?v13a) rfl (by kernel_rfl) (by kernel_rfl) (by kernel_rfl) (fun _ _ _ h => h) (by rfl) ?hy13a (by assumption) ?_
        case hy13a => intro WW hSw; (try dsimp only at hSw); go_simp; try with_reducible rfl
        try simp only [Act.put, List.setIfInBounds_toArray, List.set_cons_zero, List.set_cons_succ]
        refine take_in (i := 14) (v := .bool false) rfl (by kernel_rfl) (by kernel_rfl) (by kernel_rfl) (fun _ _ _ h => h) (by rfl) ?hy14a (by assumption) ?_
        case hy14a => intro WW hSw; (try dsimp only at hSw); go_simp; try with_reducible rfl
        try simp only [Act.put, List.setIfInBounds_toArray, List.set_cons_zero, List.set_cons_succ]
        refine take_in (i := 15) (v := ?v15a) rfl (by kernel_rfl) (by kernel_rfl) (by kernel_rfl) (fun _ _ _ h => h) (by rfl) ?hy15a (by assumption) ?_
        case hy15a => intro WW hSw; (try dsimp only at hSw); go_simp; try with_reducible rfl
        try simp only [Act.put, List.setIfInBounds_toArray, List.set_cons_zero, List.set_cons_succ]
        refine take_in (i := 16) (v := ?v16a) rfl (by kernel_rfl) (by kernel_rfl) (by kernel_rfl) (fun _ _ _ h => h) (by rfl) ?hy16a (by assumption) ?_
        case hy16a => intro WW hSw; (try dsimp only at hSw); go_simp; try with_reducible rfl
        try simp only [Act.put, List.setIfInBounds_toArray, List.set_cons_zero, List.set_cons_succ]
        refine take_in (i := 17) (v := ?v17a) rfl (by kernel_rfl) (by kernel_rfl) (by kernel_rfl) (fun _ _ _ h => h) (by rfl) ?hy17a (by assumption) ?_
        case hy17a => intro WW hSw; (try dsimp only at hSw); go_simp; try with_reducible rfl
        try simp only [Act.put, List.setIfInBounds_toArray, List.set_cons_zero, List.set_cons_succ]
        refine take_in (i := 18) (v := ?v18a) rfl (by kernel_rfl) (by kernel_rfl) (by kernel_rfl) (fun _ _ _ h => h) (by rfl) ?hy18a (by assumption) ?_
        case hy18a => intro WW hSw; (try dsimp only at hSw); go_simp; try with_reducible rfl
        try simp only [Act.put, List.setIfInBounds_toArray, List.set_cons_zero, List.set_cons_succ]
        refine take_in (i := 19) (v := ?v19a) rfl (by kernel_rfl) (by kernel_rfl) (by kernel_rfl) (fun _ _ _ h => h) (by rfl) ?hy19a (by assumption) ?_
        case hy19a => intro WW hSw; (try dsimp only at hSw); go_simp; try with_reducible rfl
        try simp only [Act.put, List.setIfInBounds_toArray, List.set_cons_zero, List.set_cons_succ]
        refine take_in (i := 21) (v := ?v21a) rfl (by kernel_rfl) (by kernel_rfl) (by kernel_rfl) (fun _ _ _ h => h) (by rfl) ?hy21a (by assumption) ?_
        case hy21a => intro WW hSw; (try dsimp only at hSw); go_simp; try with_reducible rfl
        try simp only [Act.put, List.setIfInBounds_toArray, List.set_cons_zero, List.set_cons_succ]
        refine take_in (i := 22) (v := ?v22a) rfl (by kernel_rfl) (by kernel_rfl) (by kernel_rfl) (fun _ _ _ h => h) (by rfl) ?hy22a (by assumption) ?_
        case hy22a => intro WW hSw; (try dsimp only at hSw); go_simp; try with_reducible rfl
        try simp only [Act.put, List.setIfInBounds_toArray, List.set_cons_zero, List.set_cons_succ]
        refine one_step (i := 20) (by kernel_rfl) rfl (fun K hK => ?_)
        go_simp
        (go_at_call 10; go_loud ((with_reducible refine (hT _ ?_).mono ?_); exact (by repeat (first | exact Below.refl _ _ | assumption | apply below_drew | apply below_drewn)); rintro e w9 ⟨rfl, hb9⟩; have HB9 : Below w.heap.size w w9 := below_then (by repeat (first | exact Below.refl _ _ | assumption | apply below_drew | apply below_drewn)) hb9; have HC9 : Below wr.heap.size wr w9 := below_then (by repeat (first | exact Below.refl _ _ | assumption | apply below_drew | apply below_drewn)) hb9; have hx9 := (hb9.cell (World.block_lt_of_cell? _ _ hx)).trans hx))
        refine hK.out _ _ ?_ (fun hHeld => ?_)
        · first | exact hx9 | exact hx
        clear hK K
        try simp only [Act.put, List.setIfInBounds_toArray, List.set_cons_zero, List.set_cons_succ]
        refine take_in (i := 23) (v := .bool false) rfl (by kernel_rfl) (by kernel_rfl) (by kernel_rfl) (fun _ _ _ h => h) (by rfl) ?hy23a (by assumption) ?_
        case hy23a => intro WW hSw; (try dsimp only at hSw); have hh := hmm; go_simp; try with_reducible rfl
        try simp only [Act.put, List.setIfInBounds_toArray, List.set_cons_zero, List.set_cons_succ]
        refine take_in (i := 24) (v := ?v24a) rfl (by kernel_rfl) (by kernel_rfl) (by kernel_rfl) (fun _ _ _ h => h) (by rfl) ?hy24a (by assumption) ?_
        case hy24a => intro WW hSw; (try dsimp only at hSw); go_simp; try with_reducible rfl
        try simp only [Act.put, List.setIfInBounds_toArray, List.set_cons_zero, List.set_cons_succ]
        refine wpAnyH_done (by kernel_rfl) ?_ _
        go_wp2
        go_roundg (gk - 1)
        case measure => omega
        case rel => exact ⟨i + 1, by omega, by omega, by go_num, by first | exact HB9 | exact below_drew HB9 | exact below_drewn HB9 _, ⟨HRP.out.below (by first | exact HC9 | exact below_drew HC9 | exact below_drewn HC9 _ | exact ⟨HC9.os, HC9.tape, HC9.output, HC9.size, HC9.block⟩)⟩⟩
      · have hip : (0 : Int) < (i : Int) := by omega
        obtain ⟨i1, hi1⟩ : ∃ i1, i1 = i - 1 := ⟨_, rfl⟩
        have hi1w : (i : Int) - 1 = (i1 : Int) := by omega
        have hi10 : (0 : Int) ≤ (i1 : Int) := by omega
        have hi1ww : IntKind.i64.wrap (i1 : Int) = (i1 : Int) := by rw [IntKind.wrap_i64]; omega
        have hi1n : (i1 : Int) < (n : Int) := by omega
        have hy := hcs i1 (by omega)
        have hxy : decide (P.getD i 0 ≤ P.getD i1 0) = false := by
          have h := (up_iff P).1 (by rw [HP.out]; exact up_common ls HUP.out) i1 (by have := HN.out; omega)
          rw [show i1 + 1 = i by omega] at h
          simp only [decide_eq_false_iff_not]
          omega
        have HI1 := Aside0.mk hi1
        have HZ := Aside0.mk hz
        clear hcs hi1 hz
        generalize P.getD i 0 = x at hx hT hxy
        generalize P.getD i1 0 = y at hy hxy
        go_upto_region 8 with (fail)
        refine wp_region_held_drew (S := (fun WW => WW.cell? (ad.add i) = some (.int .i64 x) ∧ WW.cell? (ad.add i1) = some (.int .i64 y))) (by kernel_rfl) ?_ (fun hHeld => ?_)
        · first | exact ⟨hx, hy⟩ | exact ⟨hx9, (hb9.cell (World.block_lt_of_cell? _ _ hy)).trans hy⟩
        refine take_in (i := 0) (v := ?v0b) rfl (by kernel_rfl) (by kernel_rfl) (by kernel_rfl) (fun _ _ _ h => h) (by rfl) ?hy0b (by assumption) ?_
        case hy0b => intro WW hSw; (try dsimp only at hSw); go_simp; try with_reducible rfl
        try simp only [Act.put, List.setIfInBounds_toArray, List.set_cons_zero, List.set_cons_succ]
        refine take_in (i := 1) (v := .bool true) rfl (by kernel_rfl) (by kernel_rfl) (by kernel_rfl) (fun _ _ _ h => h) (by rfl) ?hy1b (by assumption) ?_
        case hy1b => intro WW hSw; (try dsimp only at hSw); go_simp; first | done | (have h := HZ.out; omega) | (try with_reducible rfl)
        try simp only [Act.put, List.setIfInBounds_toArray, List.set_cons_zero, List.set_cons_succ]
        refine take_in (i := 2) (v := .bool true) rfl (by kernel_rfl) (by kernel_rfl) (by kernel_rfl) (fun _ _ _ h => h) (by rfl) ?hy2b (by assumption) ?_
        case hy2b => intro WW hSw; (try dsimp only at hSw); go_simp; try with_reducible rfl
        try simp only [Act.put, List.setIfInBounds_toArray, List.set_cons_zero, List.set_cons_succ]
        refine take_in (i := 3) (v := ?v3b) rfl (by kernel_rfl) (by kernel_rfl) (by kernel_rfl) (fun _ _ _ h => h) (by rfl) ?hy3b (by assumption) ?_
        case hy3b => intro WW hSw; (try dsimp only at hSw); go_simp; try with_reducible rfl
        try simp only [Act.put, List.setIfInBounds_toArray, List.set_cons_zero, List.set_cons_succ]
        refine take_in (i := 4) (v := ?v4b) rfl (by kernel_rfl) (by kernel_rfl) (by kernel_rfl) (fun _ _ _ h => h) (by rfl) ?hy4b (by assumption) ?_
        case hy4b => intro WW hSw; (try dsimp only at hSw); go_simp; try with_reducible rfl
        try simp only [Act.put, List.setIfInBounds_toArray, List.set_cons_zero, List.set_cons_succ]
        refine take_in (i := 5) (v := .int .i64 (i1 : Int)) rfl (by kernel_rfl) (by kernel_rfl) (by kernel_rfl) (fun _ _ _ h => h) (by rfl) ?hy5b (by assumption) ?_
        case hy5b => intro WW hSw; (try dsimp only at hSw); have hh := hi1w; have hh2 := hi1ww; go_simp; try with_reducible rfl
        try simp only [Act.put, List.setIfInBounds_toArray, List.set_cons_zero, List.set_cons_succ]
        refine take_in (i := 6) (v := ?v6b) rfl (by kernel_rfl) (by kernel_rfl) (by kernel_rfl) (fun _ _ _ h => h) (by rfl) ?hy6b (by assumption) ?_
        case hy6b => intro WW hSw; (try dsimp only at hSw); have hh := hi1w; have hh2 := hi1ww; go_simp; try with_reducible rfl
        try simp only [Act.put, List.setIfInBounds_toArray, List.set_cons_zero, List.set_cons_succ]
        refine take_in (i := 7) (v := ?v7b) rfl (by kernel_rfl) (by kernel_rfl) (by kernel_rfl) (fun _ _ _ h => h) (by rfl) ?hy7b (by assumption) ?_
        case hy7b => intro WW hSw; (try dsimp only at hSw); go_simp; try with_reducible rfl
        try simp only [Act.put, List.setIfInBounds_toArray, List.set_cons_zero, List.set_cons_succ]
        refine take_in (i := 8) (v := ?v8b) rfl (by kernel_rfl) (by kernel_rfl) (by kernel_rfl) (fun _ _ _ h => h) (by rfl) ?hy8b (by assumption) ?_
        case hy8b => intro WW hSw; (try dsimp only at hSw); go_simp; try with_reducible rfl
        try simp only [Act.put, List.setIfInBounds_toArray, List.set_cons_zero, List.set_cons_succ]
        refine take_in (i := 9) (v := ?v9b) rfl (by kernel_rfl) (by kernel_rfl) (by kernel_rfl) (fun _ _ _ h => h) (by rfl) ?hy9b (by assumption) ?_
        case hy9b => intro WW hSw; (try dsimp only at hSw); go_simp; try with_reducible rfl
        try simp only [Act.put, List.setIfInBounds_toArray, List.set_cons_zero, List.set_cons_succ]
        refine take_in (i := 10) (v := ?v10b) rfl (by kernel_rfl) (by kernel_rfl) (by kernel_rfl) (fun _ _ _ h => h) (by rfl) ?hy10b (by assumption) ?_
        case hy10b => intro WW hSw; (try dsimp only at hSw); go_simp; try with_reducible rfl
        try simp only [Act.put, List.setIfInBounds_toArray, List.set_cons_zero, List.set_cons_succ]
        refine take_in (i := 11) (v := ?v11b) rfl (by kernel_rfl) (by kernel_rfl) (by kernel_rfl) (fun _ _ _ h => h) (by rfl) ?hy11b (by assumption) ?_
        case hy11b => intro WW hSw; (try dsimp only at hSw); go_simp; try with_reducible rfl
        try simp only [Act.put, List.setIfInBounds_toArray, List.set_cons_zero, List.set_cons_succ]
        refine take_in (i := 12) (v := .bool false) rfl (by kernel_rfl) (by kernel_rfl) (by kernel_rfl) (fun _ _ _ h => h) (by rfl) ?hy12b (by assumption) ?_
        case hy12b => intro WW hSw; (try dsimp only at hSw); have hh := hxy; go_simp; try with_reducible rfl
        try simp only [Act.put, List.setIfInBounds_toArray, List.set_cons_zero, List.set_cons_succ]
        refine take_in (i := 13) (v := ?v13b) rfl (by kernel_rfl) (by kernel_rfl) (by kernel_rfl) (fun _ _ _ h => h) (by rfl) ?hy13b (by assumption) ?_
        case hy13b => intro WW hSw; (try dsimp only at hSw); go_simp; try with_reducible rfl
        try simp only [Act.put, List.setIfInBounds_toArray, List.set_cons_zero, List.set_cons_succ]
        refine take_in (i := 14) (v := .bool false) rfl (by kernel_rfl) (by kernel_rfl) (by kernel_rfl) (fun _ _ _ h => h) (by rfl) ?hy14b (by assumption) ?_
        case hy14b => intro WW hSw; (try dsimp only at hSw); go_simp; try with_reducible rfl
        try simp only [Act.put, List.setIfInBounds_toArray, List.set_cons_zero, List.set_cons_succ]
        refine take_in (i := 15) (v := ?v15b) rfl (by kernel_rfl) (by kernel_rfl) (by kernel_rfl) (fun _ _ _ h => h) (by rfl) ?hy15b (by assumption) ?_
        case hy15b => intro WW hSw; (try dsimp only at hSw); go_simp; try with_reducible rfl
        try simp only [Act.put, List.setIfInBounds_toArray, List.set_cons_zero, List.set_cons_succ]
        refine take_in (i := 16) (v := ?v16b) rfl (by kernel_rfl) (by kernel_rfl) (by kernel_rfl) (fun _ _ _ h => h) (by rfl) ?hy16b (by assumption) ?_
        case hy16b => intro WW hSw; (try dsimp only at hSw); go_simp; try with_reducible rfl
        try simp only [Act.put, List.setIfInBounds_toArray, List.set_cons_zero, List.set_cons_succ]
        refine take_in (i := 17) (v := ?v17b) rfl (by kernel_rfl) (by kernel_rfl) (by kernel_rfl) (fun _ _ _ h => h) (by rfl) ?hy17b (by assumption) ?_
        case hy17b => intro WW hSw; (try dsimp only at hSw); go_simp; try with_reducible rfl
        try simp only [Act.put, List.setIfInBounds_toArray, List.set_cons_zero, List.set_cons_succ]
        refine take_in (i := 18) (v := ?v18b) rfl (by kernel_rfl) (by kernel_rfl) (by kernel_rfl) (fun _ _ _ h => h) (by rfl) ?hy18b (by assumption) ?_
        case hy18b => intro WW hSw; (try dsimp only at hSw); go_simp; try with_reducible rfl
        try simp only [Act.put, List.setIfInBounds_toArray, List.set_cons_zero, List.set_cons_succ]
        refine take_in (i := 19) (v := ?v19b) rfl (by kernel_rfl) (by kernel_rfl) (by kernel_rfl) (fun _ _ _ h => h) (by rfl) ?hy19b (by assumption) ?_
        case hy19b => intro WW hSw; (try dsimp only at hSw); go_simp; try with_reducible rfl
        try simp only [Act.put, List.setIfInBounds_toArray, List.set_cons_zero, List.set_cons_succ]
        refine take_in (i := 21) (v := ?v21b) rfl (by kernel_rfl) (by kernel_rfl) (by kernel_rfl) (fun _ _ _ h => h) (by rfl) ?hy21b (by assumption) ?_
        case hy21b => intro WW hSw; (try dsimp only at hSw); go_simp; try with_reducible rfl
        try simp only [Act.put, List.setIfInBounds_toArray, List.set_cons_zero, List.set_cons_succ]
        refine take_in (i := 22) (v := ?v22b) rfl (by kernel_rfl) (by kernel_rfl) (by kernel_rfl) (fun _ _ _ h => h) (by rfl) ?hy22b (by assumption) ?_
        case hy22b => intro WW hSw; (try dsimp only at hSw); go_simp; try with_reducible rfl
        try simp only [Act.put, List.setIfInBounds_toArray, List.set_cons_zero, List.set_cons_succ]
        refine one_step (i := 20) (by kernel_rfl) rfl (fun K hK => ?_)
        go_simp
        (go_at_call 10; go_loud ((with_reducible refine (hT _ ?_).mono ?_); exact (by repeat (first | exact Below.refl _ _ | assumption | apply below_drew | apply below_drewn)); rintro e w9 ⟨rfl, hb9⟩; have HB9 : Below w.heap.size w w9 := below_then (by repeat (first | exact Below.refl _ _ | assumption | apply below_drew | apply below_drewn)) hb9; have HC9 : Below wr.heap.size wr w9 := below_then (by repeat (first | exact Below.refl _ _ | assumption | apply below_drew | apply below_drewn)) hb9; have hx9 := (hb9.cell (World.block_lt_of_cell? _ _ hx)).trans hx))
        refine hK.out _ _ ?_ (fun hHeld => ?_)
        · first | exact ⟨hx, hy⟩ | exact ⟨hx9, (hb9.cell (World.block_lt_of_cell? _ _ hy)).trans hy⟩
        clear hK K
        try simp only [Act.put, List.setIfInBounds_toArray, List.set_cons_zero, List.set_cons_succ]
        refine take_in (i := 23) (v := .bool false) rfl (by kernel_rfl) (by kernel_rfl) (by kernel_rfl) (fun _ _ _ h => h) (by rfl) ?hy23b (by assumption) ?_
        case hy23b => intro WW hSw; (try dsimp only at hSw); have hh := hmm; go_simp; try with_reducible rfl
        try simp only [Act.put, List.setIfInBounds_toArray, List.set_cons_zero, List.set_cons_succ]
        refine take_in (i := 24) (v := ?v24b) rfl (by kernel_rfl) (by kernel_rfl) (by kernel_rfl) (fun _ _ _ h => h) (by rfl) ?hy24b (by assumption) ?_
        case hy24b => intro WW hSw; (try dsimp only at hSw); go_simp; try with_reducible rfl
        try simp only [Act.put, List.setIfInBounds_toArray, List.set_cons_zero, List.set_cons_succ]
        refine wpAnyH_done (by kernel_rfl) ?_ _
        go_wp2
        go_roundg (gk - 1)
        case measure => omega
        case rel => exact ⟨i + 1, by omega, by omega, by go_num, by first | exact HB9 | exact below_drew HB9 | exact below_drewn HB9 _, ⟨HRP.out.below (by first | exact HC9 | exact below_drew HC9 | exact below_drewn HC9 _ | exact ⟨HC9.os, HC9.tape, HC9.output, HC9.size, HC9.block⟩)⟩⟩
    · obtain rfl : i = n := by omega
      have hn' : ¬ (i : Int) < (i : Int) := by omega
      have hj0 : 0 < rs.length := by have := HM.out; omega
      obtain ⟨ad0, hA0, -, hc0⟩ := HR.out.row 0 hj0
      have hri := HR.out.each _ (getD_mem rs 0 hj0)
      have hnum := HS.out.nums _ (getD_mem rs 0 hj0)
      have hlj : ls.getD 0 [] = (rs.getD 0 r30).l := by rw [HL.out]; exact lsOf_getD rs 0 hj0
      have haz : ad0.add 0 = ad0 := by simp [Addr.add]
      rw [haz] at hc0
      have hrc := (HB.cell (World.block_lt_of_cell? w _ hc0)).trans hc0
      subst hA0
      generalize rs.getD 0 r30 = r at hc0 hrc hri hnum hlj
      obtain ⟨Ar, l, cr⟩ := r
      simp only [R3.val] at hc0 hrc hri hnum hlj
      have hend : (l.filter fun v => decide (timesL ls v = m)).length = i := by
        rw [HN.out, HP.out, ← hlj]
        have hl := HLM.out
        have h0 := HNE.out
        cases hc : ls with
        | nil => exact absurd hc h0
        | cons a r =>
          rw [hc] at hl
          have h := common_count a r
          rw [hl] at h
          exact h
      obtain ⟨u, hu⟩ : ∃ u, u = l.length := ⟨_, rfl⟩
      rw [← hu] at hc0 hrc hnum
      have hui : (u : Int) ≤ 17592186044416 := by omega
      have HU := Aside0.mk hu
      have HRI := Aside0.mk hri
      have HEND := Aside0.mk hend
      have HC0 := Aside0.mk hc0
      clear hu hri hlj hend hc0
      go_wp2
      go_loopg [7, 8] (u + 1) (fun gg s7 s8 wx => ∃ k q : Nat, k ≤ u ∧ u < gg + k ∧ q ≤ k ∧ s7 = .int .i64 q ∧ s8 = .int .i64 k ∧ Below w.heap.size w wx ∧ Aside0 (q = ((l.take k).filter fun v => decide (timesL ls v = m)).length))
      case atStart => exact ⟨0, 0, by omega, by omega, by omega, rfl, rfl, HB, ⟨rfl⟩⟩
      case round =>
        obtain ⟨k, q, hk, hgk, hqk, rfl, rfl, HBx, HQ⟩ := hrel
        have hk0 : (0 : Int) ≤ (k : Int) := by omega
        have hq0 : (0 : Int) ≤ (q : Int) := by omega
        have hqs : (q : Int) ≤ 17592186044416 := by omega
        have HQK := Aside0.mk hqk
        have hrx := (HBx.cell (World.block_lt_of_cell? w _ HC0.out)).trans HC0.out
        clear hrc hqk
        by_cases hku : k < u
        · have hkui : (k : Int) < (u : Int) := by omega
          have hkl : k < l.length := by have := HU.out; omega
          obtain ⟨ad, hA, hcs⟩ := (HRI.out.below HBx).2 (by omega)
          have hx := hcs k hkl
          have hst := filter_take l (fun v => decide (timesL ls v = m)) k hkl
          rw [← HQ.out] at hst
          have hT := fun W (h : Below w.heap.size w W) => HT0.out (l.getD k 0) W h
          subst hA
          clear hcs HQ
          generalize l.getD k 0 = x at hx hT hst
          generalize timesL ls x = t at hT hst
          by_cases htm : t = m
          · have hst2 : ((l.take (k + 1)).filter fun v => decide (timesL ls v = m)).length = q + 1 := by rw [hst, htm]; simp
            have HST := Aside0.mk hst2
            have htb : ((t : Int) == (m : Int)) = true := by rw [beq_iff_eq]; omega
            clear hst hst2 htm
            go_wp2_with (go_at_call 10; go_loud (refine (hT _ HBx).mono ?_))
            first
              | (intro e W3 he hb3; subst he)
              | rintro e W3 ⟨rfl, hb3⟩
            have HB3 := below_then HBx hb3
            clear hb3 hT hx
            go_wp2
            go_roundg (gk - 1)
            case measure => omega
            case rel => exact ⟨k + 1, q + 1, by omega, by omega, by have := HQK.out; omega, by go_num, by go_num, HB3, ⟨HST.out.symm⟩⟩
          · have hst2 : ((l.take (k + 1)).filter fun v => decide (timesL ls v = m)).length = q := by rw [hst]; simp [htm]
            have HST := Aside0.mk hst2
            have htb : ((t : Int) == (m : Int)) = false := by rw [beq_eq_false_iff_ne]; omega
            clear hst hst2 htm
            go_wp2_with (go_at_call 10; go_loud (refine (hT _ HBx).mono ?_))
            first
              | (intro e W3 he hb3; subst he)
              | rintro e W3 ⟨rfl, hb3⟩
            have HB3 := below_then HBx hb3
            clear hb3 hT hx
            go_wp2
            go_roundg (gk - 1)
            case measure => omega
            case rel => exact ⟨k + 1, q, by omega, by omega, by have := HQK.out; omega, by go_num, by go_num, HB3, ⟨HST.out.symm⟩⟩
        · obtain rfl : k = u := by omega
          have hku' : ¬ (k : Int) < (k : Int) := by omega
          have hqi : q = i := by rw [HQ.out, ← HEND.out, List.take_of_length_le (by have := HU.out; omega)]
          subst hqi
          clear HQ HEND
          go_wp2
          go_ret
          exact ⟨by simp, HBx⟩
end Go.Proofs.Ytgaiedcjcoebeaa
