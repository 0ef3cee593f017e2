/- The live question: portolanlaw06.head; the reference's has and SameInts. -/
import Derived.Test.YtgaiedcjcoebeaaCsMeet
set_option linter.unusedVariables false
set_option linter.unusedSimpArgs false
namespace Go.Proofs.Ytgaiedcjcoebeaa
open Go.RowKit

set_option maxRecDepth 100000 in
set_option maxHeartbeats 1600000 in
theorem build_nil (w : World) : Calls Try.prog 11 #[.pointer none, .int .i64 0, .bool false] w fun e w' => e = .returned (.tuple #[.pointer none, .int .i64 1]) ∧ Below w.heap.size w w' := by
  go_enter Try.func11, Try.ntmps11
  go_wp2
  go_ret2
  exact ⟨rfl, by repeat (first | exact Below.refl _ _ | assumption | apply below_more)⟩
theorem ask_meet : meetL [[1, 3, 5], [3, 4, 5, 6]] = [3, 5] ∧ meetE [[1, 3, 5], [3, 4, 5, 6]] = 0 := by decide +kernel
theorem addr_none (b j : Nat) : (⟨b, 0, none⟩ : Addr).add j = ⟨b, j, none⟩ := by cases j <;> simp [Addr.add]
theorem reads_row {W : World} {b : Nat} {l : List Int} (hl : l.length ≤ 9223372036854775807) (h : ∀ j, j < l.length → W.cell? ⟨b, j, none⟩ = some (.int .i64 (l.getD j 0))) : ReadsI W (some ⟨b, 0, none⟩) l :=
  ⟨hl, fun _ => ⟨_, rfl, fun j hj => by rw [addr_none]; exact h j hj⟩⟩
theorem heap_two (w : World) (o1 o2 o3 : Obj) : (((w.alloc o1).alloc o2).alloc o3).heap[w.heap.size + 1]? = some o2 := by
  have h := heap_alloc_new (w.alloc o1) o2
  rw [show (w.alloc o1).heap.size = w.heap.size + 1 by simp] at h
  exact (heap_alloc_old _ _ (by simp)).trans h
theorem heap_one (w : World) (o1 o2 o3 : Obj) : (((w.alloc o1).alloc o2).alloc o3).heap[w.heap.size]? = some o1 :=
  (heap_alloc_old _ _ (by simp; omega)).trans ((heap_alloc_old _ _ (by simp)).trans (heap_alloc_new w o1))
theorem heap_three (w : World) (o1 o2 o3 : Obj) : (((w.alloc o1).alloc o2).alloc o3).heap[w.heap.size + 1 + 1]? = some o3 := by
  have h := heap_alloc_new ((w.alloc o1).alloc o2) o3
  rw [show ((w.alloc o1).alloc o2).heap.size = w.heap.size + 1 + 1 by simp] at h
  exact h
theorem cell_at {W : World} {b : Nat} {cs : Array Value} {t : TypeId} {f : Nat × Nat} (h : W.heap[b]? = some (.cells cs t f)) (j : Nat) : W.cell? ⟨b, j, none⟩ = cs[j]? := by
  unfold World.cell?
  rw [h]
  rfl
theorem ask_reads (w : World) : Calls Try.prog 7 #[.slice (some ⟨w.heap.size + 1 + 1, 0, none⟩) 2 2] (((w.alloc (.cells #[.int .i64 1, .int .i64 3, .int .i64 5] 3)).alloc (.cells #[.int .i64 3, .int .i64 4, .int .i64 5, .int .i64 6] 3)).alloc (.cells #[.slice (some ⟨w.heap.size, 0, none⟩) 3 3, .slice (some ⟨w.heap.size + 1, 0, none⟩) 4 4] 24)) fun e w' => ∃ g cap, e = .returned (.tuple #[.slice (some ⟨g, 0, none⟩) 2 cap, .int .i64 0]) ∧ w'.cell? ⟨g, 0, none⟩ = some (.int .i64 3) ∧ w'.cell? ⟨g, 1, none⟩ = some (.int .i64 5) ∧ Below w.heap.size w w' := by
  have h1 := heap_one w (.cells #[.int .i64 1, .int .i64 3, .int .i64 5] 3) (.cells #[.int .i64 3, .int .i64 4, .int .i64 5, .int .i64 6] 3) (.cells #[.slice (some ⟨w.heap.size, 0, none⟩) 3 3, .slice (some ⟨w.heap.size + 1, 0, none⟩) 4 4] 24)
  have h2 := heap_two w (.cells #[.int .i64 1, .int .i64 3, .int .i64 5] 3) (.cells #[.int .i64 3, .int .i64 4, .int .i64 5, .int .i64 6] 3) (.cells #[.slice (some ⟨w.heap.size, 0, none⟩) 3 3, .slice (some ⟨w.heap.size + 1, 0, none⟩) 4 4] 24)
  have h3 := heap_three w (.cells #[.int .i64 1, .int .i64 3, .int .i64 5] 3) (.cells #[.int .i64 3, .int .i64 4, .int .i64 5, .int .i64 6] 3) (.cells #[.slice (some ⟨w.heap.size, 0, none⟩) 3 3, .slice (some ⟨w.heap.size + 1, 0, none⟩) 4 4] 24)
  have hB : Below w.heap.size w (((w.alloc (.cells #[.int .i64 1, .int .i64 3, .int .i64 5] 3)).alloc (.cells #[.int .i64 3, .int .i64 4, .int .i64 5, .int .i64 6] 3)).alloc (.cells #[.slice (some ⟨w.heap.size, 0, none⟩) 3 3, .slice (some ⟨w.heap.size + 1, 0, none⟩) 4 4] 24)) := (((Below.refl w.heap.size w).alloc (Nat.le_refl _) _).alloc (by simp) _).alloc (by simp; omega) _
  generalize (((w.alloc (.cells #[.int .i64 1, .int .i64 3, .int .i64 5] 3)).alloc (.cells #[.int .i64 3, .int .i64 4, .int .i64 5, .int .i64 6] 3)).alloc (.cells #[.slice (some ⟨w.heap.size, 0, none⟩) 3 3, .slice (some ⟨w.heap.size + 1, 0, none⟩) 4 4] 24)) = W at h1 h2 h3 hB ⊢
  have hr1 : ReadsI W (some ⟨w.heap.size, 0, none⟩) [1, 3, 5] := reads_row (by decide) fun j hj => by
    rw [cell_at h1]
    match j, hj with
    | 0, _ => rfl
    | 1, _ => rfl
    | 2, _ => rfl
  have hr2 : ReadsI W (some ⟨w.heap.size + 1, 0, none⟩) [3, 4, 5, 6] := reads_row (by decide) fun j hj => by
    rw [cell_at h2]
    match j, hj with
    | 0, _ => rfl
    | 1, _ => rfl
    | 2, _ => rfl
    | 3, _ => rfl
  have hr : ReadsL W (some ⟨w.heap.size + 1 + 1, 0, none⟩) [⟨some ⟨w.heap.size, 0, none⟩, [1, 3, 5], 3⟩, ⟨some ⟨w.heap.size + 1, 0, none⟩, [3, 4, 5, 6], 4⟩] := by
    refine ⟨by simp, fun j hj => ⟨_, rfl, (Array.getElem?_eq_some_iff.1 h3).1, ?_⟩, fun r hr => ?_, fun r hr => ?_⟩
    · rw [addr_none, cell_at h3]
      match j, hj with
      | 0, _ => rfl
      | 1, _ => rfl
    · simp only [List.mem_cons, List.mem_nil_iff, or_false] at hr
      rcases hr with rfl | rfl
      · exact hr1
      · exact hr2
    · simp only [List.mem_cons, List.mem_nil_iff, or_false] at hr
      rcases hr with rfl | rfl <;> simp
  have hm := meet_any _ _ 2 W hr ⟨by simp, fun r hr => by
    simp only [List.mem_cons, List.mem_nil_iff, or_false] at hr
    rcases hr with rfl | rfl <;> simp⟩
  refine hm.mono ?_
  rintro e w' ⟨v, rfl, ho, hb⟩
  have e1 : lsOf [(⟨some ⟨w.heap.size, 0, none⟩, [1, 3, 5], 3⟩ : R3), ⟨some ⟨w.heap.size + 1, 0, none⟩, [3, 4, 5, 6], 4⟩] = [[1, 3, 5], [3, 4, 5, 6]] := rfl
  rw [e1, ask_meet.1] at ho
  rw [e1, ask_meet.2]
  have hform : ∃ g cap, v = .slice (some ⟨g, 0, none⟩) 2 cap := by
    rcases ho.2 with ⟨_, h0⟩ | ⟨g, cap, cur, h, _⟩
    · exact absurd h0 (by decide)
    · exact ⟨g, cap, h⟩
  obtain ⟨g, cap, rfl⟩ := hform
  have hcs := ho.cells (g := g) rfl
  have c0 := hcs 0 (.int .i64 3) rfl
  have c1 := hcs 1 (.int .i64 5) rfl
  rw [addr_none] at c0 c1
  exact ⟨g, cap, rfl, c0, c1, below_then hB hb⟩
set_option maxRecDepth 100000 in
set_option maxHeartbeats 1600000 in
theorem head_any (w : World) : Calls Try.prog 6 #[] w fun e w' => e = .returned (.bool true) ∧ Below w.heap.size w w' := by
  have hM := ask_reads w
  have hB := fun W => build_nil W
  go_enter Try.func6, Try.ntmps6
  go_wp2_with (go_at_call 7; go_loud (refine hM.mono ?_))
  first
    | (intro e W1 g cap he c0 c1 hb1; subst he)
    | rintro e W1 ⟨g, cap, rfl, c0, c1, hb1⟩
  go_wp2_with (go_at_call 11; go_loud (refine (hB _).mono ?_))
  first
    | (intro e W2 he hb2; subst he)
    | rintro e W2 ⟨rfl, hb2⟩
  have d0 := (hb2.cell (World.block_lt_of_cell? _ _ c0)).trans c0
  have d1 := (hb2.cell (World.block_lt_of_cell? _ _ c1)).trans c1
  have HB2 := below_then hb1 hb2
  clear hb1 hb2 c0 c1
  go_wp2
  go_ret
  exact ⟨rfl, HB2⟩
set_option maxRecDepth 100000 in
set_option maxHeartbeats 1600000 in
theorem has_any (A : Option Addr) (l : List Int) (c : Nat) (v : Int) (w : World) (hr : ReadsI w A l) :
    Calls Try.prog 13 #[.slice A l.length c, .int .i64 v] w fun e w' => e = .returned (.bool (l.contains v)) ∧ Below w.heap.size w w' := by
  obtain ⟨m, hm⟩ : ∃ m, m = l.length := ⟨_, rfl⟩
  obtain ⟨R, hR⟩ : ∃ R, R = l.contains v := ⟨_, rfl⟩
  have hl63 := hr.1
  rw [← hm] at hl63 ⊢
  rw [← hR]
  have HR := Aside0.mk hr
  have HM := Aside0.mk hm
  have HC := Aside0.mk hR
  clear hr hm hR
  go_enter Try.func13, Try.ntmps13
  go_wp2
  go_loopg [5] (m + 1) (fun gg s5 wr => ∃ i : Nat, i ≤ m ∧ m < gg + i ∧ s5 = .int .i64 i ∧ wr = w ∧ Aside0 ((l.drop i).contains v = R))
  case atStart => exact ⟨0, by omega, by omega, rfl, rfl, ⟨HC.out.symm⟩⟩
  case round =>
    obtain ⟨i, hi, hg, rfl, rfl, HI⟩ := hrel
    have hi0 : (0 : Int) ≤ (i : Int) := by omega
    by_cases hlt : i < m
    · have hlti : (i : Int) < (m : Int) := by omega
      have hil : i < l.length := by have := HM.out; omega
      obtain ⟨ad, hA, hcs⟩ := HR.out.2 (by omega)
      have hc := hcs i hil
      have hst := HI.out
      rw [List.drop_eq_getElem_cons hil, List.contains_cons] at hst
      have hge : l.getD i 0 = l[i] := by rw [List.getD_eq_getElem?_getD, List.getElem?_eq_getElem hil]; rfl
      rw [hge] at hc
      subst hA
      clear hcs hge
      generalize l[i] = x at hc hst
      cases hx : (x == v)
      · have hst2 : (l.drop (i + 1)).contains v = R := by
          rw [← hst, show (v == x) = false by rw [beq_eq_false_iff_ne] at hx ⊢; exact fun e => hx e.symm]
          rfl
        have HS := Aside0.mk hst2
        clear hst hst2 HI
        go_wp2
        go_roundg (gk - 1)
        case measure => omega
        case rel => exact ⟨i + 1, by omega, by omega, by go_num, rfl, HS⟩
      · have hRt : R = true := by
          rw [← hst, show (v == x) = true by rw [beq_iff_eq] at hx ⊢; exact hx.symm]
          rfl
        subst hRt
        clear hst HI HC
        go_wp2
        go_ret
        exact ⟨rfl, Below.refl _ _⟩
    · obtain rfl : i = m := by omega
      have hn : ¬ (i : Int) < (i : Int) := by omega
      have hRf : R = false := by
        rw [← HI.out, List.drop_eq_nil_of_le (by have := HM.out; omega)]
        rfl
      subst hRf
      clear HI HC
      go_wp2
      go_ret
      exact ⟨rfl, Below.refl _ _⟩
set_option maxRecDepth 100000 in
set_option maxHeartbeats 1600000 in
theorem sameInts_any (A B : Option Addr) (l : List Int) (ca cb : Nat) (w : World) (hra : ReadsI w A l) (hrb : ReadsI w B l) :
    Calls Try.prog 9 #[.slice A l.length ca, .slice B l.length cb] w fun e w' => e = .returned (.bool true) ∧ Below w.heap.size w w' := by
  obtain ⟨m, hm⟩ : ∃ m, m = l.length := ⟨_, rfl⟩
  have hl63 := hra.1
  rw [← hm] at hl63 ⊢
  have HA := Aside0.mk hra
  have HB := Aside0.mk hrb
  have HM := Aside0.mk hm
  clear hra hrb hm
  go_enter Try.func9, Try.ntmps9
  go_wp2
  go_loopg [5] (m + 1) (fun gg s5 wr => ∃ i : Nat, i ≤ m ∧ m < gg + i ∧ s5 = .int .i64 i ∧ Below w.heap.size w wr)
  case atStart => exact ⟨0, by omega, by omega, rfl, Below.refl _ _⟩
  case round =>
    obtain ⟨i, hi, hg, rfl, HW⟩ := hrel
    have hi0 : (0 : Int) ≤ (i : Int) := by omega
    by_cases hlt : i < m
    · have hlti : (i : Int) < (m : Int) := by omega
      have hil : i < l.length := by have := HM.out; omega
      obtain ⟨ad, hA, hcs⟩ := (HA.out.below HW).2 (by omega)
      obtain ⟨bd, hB, hds⟩ := (HB.out.below HW).2 (by omega)
      have ha := hcs i hil
      have hb := hds i hil
      subst hA hB
      clear hcs hds
      generalize l.getD i 0 = x at ha hb
      have hxx : (x != x) = false := by simp
      go_upto_region 6 with (fail)
      refine wp_region_held_drew (S := (fun WW => WW.cell? (ad.add i) = some (.int .i64 x) ∧ WW.cell? (bd.add i) = some (.int .i64 x))) (by kernel_rfl) ?_ (fun hHeld => ?_)
      · exact ⟨ha, hb⟩
      refine take_in (i := 0) (v := ?v0) rfl (by kernel_rfl) (by kernel_rfl) (by kernel_rfl) (fun _ _ _ h => h) (by rfl) ?hy0 (by assumption) ?_
      case hy0 => intro WW hSw; (try dsimp only at hSw); go_simp; try with_reducible rfl
      try simp only [Act.put, List.setIfInBounds_toArray, List.set_cons_zero, List.set_cons_succ]
      refine take_in (i := 1) (v := ?v1) rfl (by kernel_rfl) (by kernel_rfl) (by kernel_rfl) (fun _ _ _ h => h) (by rfl) ?hy1 (by assumption) ?_
      case hy1 => intro WW hSw; (try dsimp only at hSw); go_simp; try with_reducible rfl
      try simp only [Act.put, List.setIfInBounds_toArray, List.set_cons_zero, List.set_cons_succ]
      refine take_in (i := 2) (v := ?v2) rfl (by kernel_rfl) (by kernel_rfl) (by kernel_rfl) (fun _ _ _ h => h) (by rfl) ?hy2 (by assumption) ?_
      case hy2 => intro WW hSw; (try dsimp only at hSw); go_simp; try with_reducible rfl
      try simp only [Act.put, List.setIfInBounds_toArray, List.set_cons_zero, List.set_cons_succ]
      refine take_in (i := 3) (v := ?v3) rfl (by kernel_rfl) (by kernel_rfl) (by kernel_rfl) (fun _ _ _ h => h) (by rfl) ?hy3 (by assumption) ?_
      case hy3 => intro WW hSw; (try dsimp only at hSw); go_simp; try with_reducible rfl
      try simp only [Act.put, List.setIfInBounds_toArray, List.set_cons_zero, List.set_cons_succ]
      refine take_in (i := 4) (v := ?v4) rfl (by kernel_rfl) (by kernel_rfl) (by kernel_rfl) (fun _ _ _ h => h) (by rfl) ?hy4 (by assumption) ?_
      case hy4 => intro WW hSw; (try dsimp only at hSw); go_simp; try with_reducible rfl
      try simp only [Act.put, List.setIfInBounds_toArray, List.set_cons_zero, List.set_cons_succ]
      refine take_in (i := 5) (v := ?v5) rfl (by kernel_rfl) (by kernel_rfl) (by kernel_rfl) (fun _ _ _ h => h) (by rfl) ?hy5 (by assumption) ?_
      case hy5 => intro WW hSw; (try dsimp only at hSw); go_simp; try with_reducible rfl
      try simp only [Act.put, List.setIfInBounds_toArray, List.set_cons_zero, List.set_cons_succ]
      refine take_in (i := 6) (v := ?v6) rfl (by kernel_rfl) (by kernel_rfl) (by kernel_rfl) (fun _ _ _ h => h) (by rfl) ?hy6 (by assumption) ?_
      case hy6 => intro WW hSw; (try dsimp only at hSw); go_simp; try with_reducible rfl
      try simp only [Act.put, List.setIfInBounds_toArray, List.set_cons_zero, List.set_cons_succ]
      refine take_in (i := 7) (v := ?v7) rfl (by kernel_rfl) (by kernel_rfl) (by kernel_rfl) (fun _ _ _ h => h) (by rfl) ?hy7 (by assumption) ?_
      case hy7 => intro WW hSw; (try dsimp only at hSw); go_simp; try with_reducible rfl
      try simp only [Act.put, List.setIfInBounds_toArray, List.set_cons_zero, List.set_cons_succ]
      refine take_in (i := 8) (v := .bool false) rfl (by kernel_rfl) (by kernel_rfl) (by kernel_rfl) (fun _ _ _ h => h) (by rfl) ?hy8 (by assumption) ?_
      case hy8 => intro WW hSw; (try dsimp only at hSw); have hh := hxx; go_simp; try with_reducible rfl
      try simp only [Act.put, List.setIfInBounds_toArray, List.set_cons_zero, List.set_cons_succ]
      refine wpAnyH_done (by kernel_rfl) ?_ _
      go_wp2
      go_roundg (gk - 1)
      case measure => omega
      case rel => exact ⟨i + 1, by omega, by omega, by go_num, ⟨HW.os, HW.tape, HW.output, HW.size, HW.block⟩⟩
    · obtain rfl : i = m := by omega
      have hn : ¬ (i : Int) < (i : Int) := by omega
      go_wp2
      go_ret
      exact ⟨rfl, HW⟩
end Go.Proofs.Ytgaiedcjcoebeaa
