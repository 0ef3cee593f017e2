/- The reference's sign: the loop over the single signs. -/
import Derived.Test.YtokhbjagcnjiaaaDoorLxSign
import Derived.Test.YtokhbjagcnjiaaaDoorRegS
import Derived.Deep.LoopGhost
import Derived.Deep.Cut
set_option linter.unusedVariables false
set_option linter.unusedSimpArgs false
namespace Go.Proofs.YtokhbjagcnjiaaaDoor
open Go.RowKit

theorem sign_one (b : UInt8) : decide (0 ≤ Lib.indexByte signs b) = signs.contains b := by
  have h : ∀ n : Fin 256, decide (0 ≤ Lib.indexByte signs (UInt8.ofNat n.val)) = signs.contains (UInt8.ofNat n.val) := by decide +kernel
  have h2 := h ⟨b.toNat, b.toNat_lt⟩
  simpa using h2
set_option maxRecDepth 100000 in
set_option maxHeartbeats 1600000 in
/-- Where no two signs stand: one byte's sign, or none. -/
theorem rsign_last (s : ByteArray) (a : Nat) (w : World) (hs : s.size ≤ 4096) (ha : a + 1 = s.size) (b : UInt8) (hb : b = s[a]'(by omega)) (B : Bool) (hB : signs.contains b = B) :
    Calls Tryd.prog 44 #[.string s, .int .i64 (a : Nat)] w fun e w' => e = .returned (.string (if B then s.extract a s.size else ⟨#[]⟩)) ∧ Below w.heap.size w w' := by
  obtain ⟨m, hm⟩ : ∃ m, m = s.size := ⟨_, rfl⟩
  obtain ⟨y, hy⟩ : ∃ y : Int, y = (b.toNat : Int) := ⟨_, rfl⟩
  have hix : ∀ W, (Instr.index 9 (.string s) (.int .i64 (a : Int))).run Tryd.prog W = .ok (.int .u8 y) W := fun W => by
    rw [hy, hb, run_index_string W 9 s .i64 (a : Int) Tryd.underlying9, dif_pos ⟨by omega, by omega⟩]
    rfl
  have hai : (a : Int) + 1 = (s.size : Int) := by omega
  have ha0 : (a : Int) ≤ 4096 := by omega
  have HB := Aside0.mk hB
  have HY := Aside0.mk hy
  have HM := Aside0.mk hm
  clear hB hy hm hb ha
  go_enter Tryd.func44, Tryd.ntmps44
  go_wp2
  go_loopg [7] 17 (fun gk v7 wr => ∃ i : Nat, v7 = .int .i64 i ∧ i ≤ 15 ∧ 15 < gk + i ∧ Below w.heap.size w wr ∧ Aside0 ((signs.drop i).contains b = B))
  case atStart => exact ⟨0, rfl, by omega, by omega, Below.refl _ _, ⟨HB.out⟩⟩
  case round =>
    obtain ⟨i, rfl, hi, hg, HW, HV⟩ := hrel
    by_cases hlt : i < 15
    · have hlti : (i : Int) < 15 := by omega
      have hi0 : (0 : Int) ≤ (i : Int) := by omega
      have hsl : i < signs.length := hlt
      have hst := HV.out
      rw [List.drop_eq_getElem_cons hsl, List.contains_cons] at hst
      obtain ⟨x, hx⟩ : ∃ x : Int, x = ((signs[i]'hsl).toNat : Int) := ⟨_, rfl⟩
      have hiw : ∀ W, (Instr.index 9 (.string ⟨#[40, 41, 91, 93, 45, 62, 60, 44, 58, 46, 61, 43, 42, 47, 37]⟩) (.int .i64 (i : Int))).run Tryd.prog W = .ok (.int .u8 x) W := fun W => by
        rw [hx, run_index_string W 9 ⟨#[40, 41, 91, 93, 45, 62, 60, 44, 58, 46, 61, 43, 42, 47, 37]⟩ .i64 (i : Int) Tryd.underlying9, dif_pos ⟨by omega, by show (i : Int) < 15; omega⟩]
        rfl
      by_cases hxy : b = signs[i]'hsl
      · have hxb : (x == y) = true := by rw [hx, HY.out, hxy]; simp
        have hB : B = true := by rw [← hst, hxy]; simp
        subst hB
        clear hst HV hx hxy
        go_upto_region 9 with (fail)
        refine wp_region_held_drew (S := (fun _ => True)) (by kernel_rfl) ?_ (fun hHeld => ?_)
        · trivial
        refine take_in (i := 0) (v := ?v0t) rfl (by kernel_rfl) (by kernel_rfl) (by kernel_rfl) (fun _ _ _ h => h) (by rfl) ?hy0t (by assumption) ?_
        case hy0t => intro WW hSw; (try dsimp only at hSw); go_simp; try with_reducible rfl
        try simp only [Act.put, List.setIfInBounds_toArray, List.set_cons_zero, List.set_cons_succ]
        refine take_in (i := 1) (v := ?v1t) rfl (by kernel_rfl) (by kernel_rfl) (by kernel_rfl) (fun _ _ _ h => h) (by rfl) ?hy1t (by assumption) ?_
        case hy1t => intro WW hSw; (try dsimp only at hSw); go_simp; try with_reducible rfl
        try simp only [Act.put, List.setIfInBounds_toArray, List.set_cons_zero, List.set_cons_succ]
        refine take_in (i := 2) (v := .int .u8 x) rfl (by kernel_rfl) (by kernel_rfl) (by kernel_rfl) (fun _ _ _ h => h) (by rfl) ?hy2t (by assumption) ?_
        case hy2t => intro WW hSw; have h1 := hiw WW; go_simp; try with_reducible rfl
        try simp only [Act.put, List.setIfInBounds_toArray, List.set_cons_zero, List.set_cons_succ]
        refine take_in (i := 3) (v := ?v3t) rfl (by kernel_rfl) (by kernel_rfl) (by kernel_rfl) (fun _ _ _ h => h) (by rfl) ?hy3t (by assumption) ?_
        case hy3t => intro WW hSw; (try dsimp only at hSw); go_simp; try with_reducible rfl
        try simp only [Act.put, List.setIfInBounds_toArray, List.set_cons_zero, List.set_cons_succ]
        refine take_in (i := 4) (v := ?v4t) rfl (by kernel_rfl) (by kernel_rfl) (by kernel_rfl) (fun _ _ _ h => h) (by rfl) ?hy4t (by assumption) ?_
        case hy4t => intro WW hSw; (try dsimp only at hSw); go_simp; try with_reducible rfl
        try simp only [Act.put, List.setIfInBounds_toArray, List.set_cons_zero, List.set_cons_succ]
        refine take_in (i := 5) (v := .int .u8 y) rfl (by kernel_rfl) (by kernel_rfl) (by kernel_rfl) (fun _ _ _ h => h) (by rfl) ?hy5t (by assumption) ?_
        case hy5t => intro WW hSw; have h1 := hix WW; go_simp; try with_reducible rfl
        try simp only [Act.put, List.setIfInBounds_toArray, List.set_cons_zero, List.set_cons_succ]
        refine take_in (i := 6) (v := .bool true) rfl (by kernel_rfl) (by kernel_rfl) (by kernel_rfl) (fun _ _ _ h => h) (by rfl) ?hy6t (by assumption) ?_
        case hy6t => intro WW hSw; (try dsimp only at hSw); go_simp; try with_reducible rfl
        try simp only [Act.put, List.setIfInBounds_toArray, List.set_cons_zero, List.set_cons_succ]
        refine wpAnyH_done (by kernel_rfl) ?_ _
        go_wp2
        go_ret
        exact ⟨rfl, ⟨HW.os, HW.tape, HW.output, HW.size, HW.block⟩⟩
      · have hxb : (x == y) = false := by
          rw [hx, HY.out, beq_eq_false_iff_ne]
          intro h
          exact hxy (UInt8.toNat_inj.1 (by omega))
        have hst2 : (signs.drop (i + 1)).contains b = B := by
          rw [← hst]
          simp [hxy]
        have HS := Aside0.mk hst2
        clear hst hst2 HV hx hxy
        go_upto_region 9 with (fail)
        refine wp_region_held_drew (S := (fun _ => True)) (by kernel_rfl) ?_ (fun hHeld => ?_)
        · trivial
        refine take_in (i := 0) (v := ?v0f) rfl (by kernel_rfl) (by kernel_rfl) (by kernel_rfl) (fun _ _ _ h => h) (by rfl) ?hy0f (by assumption) ?_
        case hy0f => intro WW hSw; (try dsimp only at hSw); go_simp; try with_reducible rfl
        try simp only [Act.put, List.setIfInBounds_toArray, List.set_cons_zero, List.set_cons_succ]
        refine take_in (i := 1) (v := ?v1f) rfl (by kernel_rfl) (by kernel_rfl) (by kernel_rfl) (fun _ _ _ h => h) (by rfl) ?hy1f (by assumption) ?_
        case hy1f => intro WW hSw; (try dsimp only at hSw); go_simp; try with_reducible rfl
        try simp only [Act.put, List.setIfInBounds_toArray, List.set_cons_zero, List.set_cons_succ]
        refine take_in (i := 2) (v := .int .u8 x) rfl (by kernel_rfl) (by kernel_rfl) (by kernel_rfl) (fun _ _ _ h => h) (by rfl) ?hy2f (by assumption) ?_
        case hy2f => intro WW hSw; have h1 := hiw WW; go_simp; try with_reducible rfl
        try simp only [Act.put, List.setIfInBounds_toArray, List.set_cons_zero, List.set_cons_succ]
        refine take_in (i := 3) (v := ?v3f) rfl (by kernel_rfl) (by kernel_rfl) (by kernel_rfl) (fun _ _ _ h => h) (by rfl) ?hy3f (by assumption) ?_
        case hy3f => intro WW hSw; (try dsimp only at hSw); go_simp; try with_reducible rfl
        try simp only [Act.put, List.setIfInBounds_toArray, List.set_cons_zero, List.set_cons_succ]
        refine take_in (i := 4) (v := ?v4f) rfl (by kernel_rfl) (by kernel_rfl) (by kernel_rfl) (fun _ _ _ h => h) (by rfl) ?hy4f (by assumption) ?_
        case hy4f => intro WW hSw; (try dsimp only at hSw); go_simp; try with_reducible rfl
        try simp only [Act.put, List.setIfInBounds_toArray, List.set_cons_zero, List.set_cons_succ]
        refine take_in (i := 5) (v := .int .u8 y) rfl (by kernel_rfl) (by kernel_rfl) (by kernel_rfl) (fun _ _ _ h => h) (by rfl) ?hy5f (by assumption) ?_
        case hy5f => intro WW hSw; have h1 := hix WW; go_simp; try with_reducible rfl
        try simp only [Act.put, List.setIfInBounds_toArray, List.set_cons_zero, List.set_cons_succ]
        refine take_in (i := 6) (v := .bool false) rfl (by kernel_rfl) (by kernel_rfl) (by kernel_rfl) (fun _ _ _ h => h) (by rfl) ?hy6f (by assumption) ?_
        case hy6f => intro WW hSw; (try dsimp only at hSw); go_simp; try with_reducible rfl
        try simp only [Act.put, List.setIfInBounds_toArray, List.set_cons_zero, List.set_cons_succ]
        refine wpAnyH_done (by kernel_rfl) ?_ _
        go_wp2
        go_roundg (gk - 1)
        case measure => omega
        case rel => exact ⟨i + 1, by go_num, by omega, by omega, ⟨HW.os, HW.tape, HW.output, HW.size, HW.block⟩, HS⟩
    · have hie : i = 15 := by omega
      subst hie
      have hst := HV.out
      have hB : B = false := by rw [← hst]; rfl
      subst hB
      clear hst HV hlt hi hg
      go_wp2
      go_ret
      exact ⟨rfl, HW⟩
set_option maxRecDepth 100000 in
set_option maxHeartbeats 1600000 in
/-- Where two signs may stand. -/
theorem rsign_more (s : ByteArray) (a : Nat) (w : World) (hs : s.size ≤ 4096) (ha : a + 1 < s.size) (b : UInt8) (hb : b = s[a]'(by omega)) (B e : Bool) (hB : signs.contains b = B)
    (he : ((s.extract a (a + 2)).toList == ([60, 62] : List UInt8) || ((s.extract a (a + 2)).toList == ([60, 61] : List UInt8) || ((s.extract a (a + 2)).toList == ([62, 61] : List UInt8) || (s.extract a (a + 2)).toList == ([46, 46] : List UInt8)))) = e) :
    Calls Tryd.prog 44 #[.string s, .int .i64 (a : Nat)] w fun e' w' => e' = .returned (.string (if e then s.extract a (a + 2) else if B then s.extract a (a + 1) else ⟨#[]⟩)) ∧ Below w.heap.size w w' := by
  obtain ⟨y, hy⟩ : ∃ y : Int, y = (b.toNat : Int) := ⟨_, rfl⟩
  have hix : ∀ W, (Instr.index 9 (.string s) (.int .i64 (a : Int))).run Tryd.prog W = .ok (.int .u8 y) W := fun W => by
    rw [hy, hb, run_index_string W 9 s .i64 (a : Int) Tryd.underlying9, dif_pos ⟨by omega, by omega⟩]
    rfl
  have hai : (a : Int) + 1 < (s.size : Int) := by omega
  have ha0 : (a : Int) ≤ 4096 := by omega
  have HB := Aside0.mk hB
  have HY := Aside0.mk hy
  generalize hT : s.extract a (a + 2) = T at he
  have HT := Aside0.mk hT
  have HE := Aside0.mk he
  clear hB hy hb ha hT he
  go_enter Tryd.func44, Tryd.ntmps44
  go_upto_region 3 with (fail)
  rw [HT.out]
  have he := HE.out
  clear HE
  cases h0 : (T.toList == ([60, 62] : List UInt8))
  case true =>
    rw [h0, Bool.true_or] at he
    subst he
    go_wp2
    go_ret
    exact ⟨rfl, Below.refl _ _⟩
  rw [h0, Bool.false_or] at he
  cases h1 : (T.toList == ([60, 61] : List UInt8))
  case true =>
    rw [h1, Bool.true_or] at he
    subst he
    go_wp2
    go_ret
    exact ⟨rfl, Below.refl _ _⟩
  rw [h1, Bool.false_or] at he
  cases h2 : (T.toList == ([62, 61] : List UInt8))
  case true =>
    rw [h2, Bool.true_or] at he
    subst he
    go_wp2
    go_ret
    exact ⟨rfl, Below.refl _ _⟩
  rw [h2, Bool.false_or] at he
  cases h3 : (T.toList == ([46, 46] : List UInt8))
  case true =>
    rw [h3] at he
    subst he
    go_wp2
    go_ret
    exact ⟨rfl, Below.refl _ _⟩
  rw [h3] at he
  subst he
  go_wp2
  go_loopg [7] 17 (fun gk v7 wr => ∃ i : Nat, v7 = .int .i64 i ∧ i ≤ 15 ∧ 15 < gk + i ∧ Below w.heap.size w wr ∧ Aside0 ((signs.drop i).contains b = B))
  case atStart => exact ⟨0, rfl, by omega, by omega, Below.refl _ _, ⟨HB.out⟩⟩
  case round =>
    obtain ⟨i, rfl, hi, hg, HW, HV⟩ := hrel
    by_cases hlt : i < 15
    · have hlti : (i : Int) < 15 := by omega
      have hi0 : (0 : Int) ≤ (i : Int) := by omega
      have hsl : i < signs.length := hlt
      have hst := HV.out
      rw [List.drop_eq_getElem_cons hsl, List.contains_cons] at hst
      obtain ⟨x, hx⟩ : ∃ x : Int, x = ((signs[i]'hsl).toNat : Int) := ⟨_, rfl⟩
      have hiw : ∀ W, (Instr.index 9 (.string ⟨#[40, 41, 91, 93, 45, 62, 60, 44, 58, 46, 61, 43, 42, 47, 37]⟩) (.int .i64 (i : Int))).run Tryd.prog W = .ok (.int .u8 x) W := fun W => by
        rw [hx, run_index_string W 9 ⟨#[40, 41, 91, 93, 45, 62, 60, 44, 58, 46, 61, 43, 42, 47, 37]⟩ .i64 (i : Int) Tryd.underlying9, dif_pos ⟨by omega, by show (i : Int) < 15; omega⟩]
        rfl
      by_cases hxy : b = signs[i]'hsl
      · have hxb : (x == y) = true := by rw [hx, HY.out, hxy]; simp
        have hB : B = true := by rw [← hst, hxy]; simp
        subst hB
        clear hst HV hx hxy
        go_upto_region 9 with (fail)
        refine wp_region_held_drew (S := (fun _ => True)) (by kernel_rfl) ?_ (fun hHeld => ?_)
        · trivial
        refine take_in (i := 0) (v := ?v0t) rfl (by kernel_rfl) (by kernel_rfl) (by kernel_rfl) (fun _ _ _ h => h) (by rfl) ?hy0t (by assumption) ?_
        case hy0t => intro WW hSw; (try dsimp only at hSw); go_simp; try with_reducible rfl
        try simp only [Act.put, List.setIfInBounds_toArray, List.set_cons_zero, List.set_cons_succ]
        refine take_in (i := 1) (v := ?v1t) rfl (by kernel_rfl) (by kernel_rfl) (by kernel_rfl) (fun _ _ _ h => h) (by rfl) ?hy1t (by assumption) ?_
        case hy1t => intro WW hSw; (try dsimp only at hSw); go_simp; try with_reducible rfl
        try simp only [Act.put, List.setIfInBounds_toArray, List.set_cons_zero, List.set_cons_succ]
        refine take_in (i := 2) (v := .int .u8 x) rfl (by kernel_rfl) (by kernel_rfl) (by kernel_rfl) (fun _ _ _ h => h) (by rfl) ?hy2t (by assumption) ?_
        case hy2t => intro WW hSw; have h1 := hiw WW; go_simp; try with_reducible rfl
        try simp only [Act.put, List.setIfInBounds_toArray, List.set_cons_zero, List.set_cons_succ]
        refine take_in (i := 3) (v := ?v3t) rfl (by kernel_rfl) (by kernel_rfl) (by kernel_rfl) (fun _ _ _ h => h) (by rfl) ?hy3t (by assumption) ?_
        case hy3t => intro WW hSw; (try dsimp only at hSw); go_simp; try with_reducible rfl
        try simp only [Act.put, List.setIfInBounds_toArray, List.set_cons_zero, List.set_cons_succ]
        refine take_in (i := 4) (v := ?v4t) rfl (by kernel_rfl) (by kernel_rfl) (by kernel_rfl) (fun _ _ _ h => h) (by rfl) ?hy4t (by assumption) ?_
        case hy4t => intro WW hSw; (try dsimp only at hSw); go_simp; try with_reducible rfl
        try simp only [Act.put, List.setIfInBounds_toArray, List.set_cons_zero, List.set_cons_succ]
        refine take_in (i := 5) (v := .int .u8 y) rfl (by kernel_rfl) (by kernel_rfl) (by kernel_rfl) (fun _ _ _ h => h) (by rfl) ?hy5t (by assumption) ?_
        case hy5t => intro WW hSw; have h1 := hix WW; go_simp; try with_reducible rfl
        try simp only [Act.put, List.setIfInBounds_toArray, List.set_cons_zero, List.set_cons_succ]
        refine take_in (i := 6) (v := .bool true) rfl (by kernel_rfl) (by kernel_rfl) (by kernel_rfl) (fun _ _ _ h => h) (by rfl) ?hy6t (by assumption) ?_
        case hy6t => intro WW hSw; (try dsimp only at hSw); go_simp; try with_reducible rfl
        try simp only [Act.put, List.setIfInBounds_toArray, List.set_cons_zero, List.set_cons_succ]
        refine wpAnyH_done (by kernel_rfl) ?_ _
        go_wp2
        go_ret
        exact ⟨rfl, ⟨HW.os, HW.tape, HW.output, HW.size, HW.block⟩⟩
      · have hxb : (x == y) = false := by
          rw [hx, HY.out, beq_eq_false_iff_ne]
          intro h
          exact hxy (UInt8.toNat_inj.1 (by omega))
        have hst2 : (signs.drop (i + 1)).contains b = B := by
          rw [← hst]
          simp [hxy]
        have HS := Aside0.mk hst2
        clear hst hst2 HV hx hxy
        go_upto_region 9 with (fail)
        refine wp_region_held_drew (S := (fun _ => True)) (by kernel_rfl) ?_ (fun hHeld => ?_)
        · trivial
        refine take_in (i := 0) (v := ?v0f) rfl (by kernel_rfl) (by kernel_rfl) (by kernel_rfl) (fun _ _ _ h => h) (by rfl) ?hy0f (by assumption) ?_
        case hy0f => intro WW hSw; (try dsimp only at hSw); go_simp; try with_reducible rfl
        try simp only [Act.put, List.setIfInBounds_toArray, List.set_cons_zero, List.set_cons_succ]
        refine take_in (i := 1) (v := ?v1f) rfl (by kernel_rfl) (by kernel_rfl) (by kernel_rfl) (fun _ _ _ h => h) (by rfl) ?hy1f (by assumption) ?_
        case hy1f => intro WW hSw; (try dsimp only at hSw); go_simp; try with_reducible rfl
        try simp only [Act.put, List.setIfInBounds_toArray, List.set_cons_zero, List.set_cons_succ]
        refine take_in (i := 2) (v := .int .u8 x) rfl (by kernel_rfl) (by kernel_rfl) (by kernel_rfl) (fun _ _ _ h => h) (by rfl) ?hy2f (by assumption) ?_
        case hy2f => intro WW hSw; have h1 := hiw WW; go_simp; try with_reducible rfl
        try simp only [Act.put, List.setIfInBounds_toArray, List.set_cons_zero, List.set_cons_succ]
        refine take_in (i := 3) (v := ?v3f) rfl (by kernel_rfl) (by kernel_rfl) (by kernel_rfl) (fun _ _ _ h => h) (by rfl) ?hy3f (by assumption) ?_
        case hy3f => intro WW hSw; (try dsimp only at hSw); go_simp; try with_reducible rfl
        try simp only [Act.put, List.setIfInBounds_toArray, List.set_cons_zero, List.set_cons_succ]
        refine take_in (i := 4) (v := ?v4f) rfl (by kernel_rfl) (by kernel_rfl) (by kernel_rfl) (fun _ _ _ h => h) (by rfl) ?hy4f (by assumption) ?_
        case hy4f => intro WW hSw; (try dsimp only at hSw); go_simp; try with_reducible rfl
        try simp only [Act.put, List.setIfInBounds_toArray, List.set_cons_zero, List.set_cons_succ]
        refine take_in (i := 5) (v := .int .u8 y) rfl (by kernel_rfl) (by kernel_rfl) (by kernel_rfl) (fun _ _ _ h => h) (by rfl) ?hy5f (by assumption) ?_
        case hy5f => intro WW hSw; have h1 := hix WW; go_simp; try with_reducible rfl
        try simp only [Act.put, List.setIfInBounds_toArray, List.set_cons_zero, List.set_cons_succ]
        refine take_in (i := 6) (v := .bool false) rfl (by kernel_rfl) (by kernel_rfl) (by kernel_rfl) (fun _ _ _ h => h) (by rfl) ?hy6f (by assumption) ?_
        case hy6f => intro WW hSw; (try dsimp only at hSw); go_simp; try with_reducible rfl
        try simp only [Act.put, List.setIfInBounds_toArray, List.set_cons_zero, List.set_cons_succ]
        refine wpAnyH_done (by kernel_rfl) ?_ _
        go_wp2
        go_roundg (gk - 1)
        case measure => omega
        case rel => exact ⟨i + 1, by go_num, by omega, by omega, ⟨HW.os, HW.tape, HW.output, HW.size, HW.block⟩, HS⟩
    · have hie : i = 15 := by omega
      subst hie
      have hst := HV.out
      have hB : B = false := by rw [← hst]; rfl
      subst hB
      clear hst HV hlt hi hg
      go_wp2
      go_ret
      exact ⟨rfl, HW⟩
end Go.Proofs.YtokhbjagcnjiaaaDoor
