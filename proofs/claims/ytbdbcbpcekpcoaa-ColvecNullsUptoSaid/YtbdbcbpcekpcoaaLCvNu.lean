/- The walk of the law ColvecNulls. -/
import Derived.Test.YtbdbcbpcekpcoaaCvAppA
import Derived.Test.YtbdbcbpcekpcoaaCvHead
set_option linter.unusedVariables false
set_option linter.unusedSimpArgs false
namespace Go.Proofs.Ytbdbcbpcekpcoaa
open Go.RowKit Go.Maps

theorem cntB_snoc (l : List Bool) (b : Bool) : cntB (l ++ [b]) = cntB l + if b then 1 else 0 := by
  rw [cntB, cntB, List.filter_append, List.length_append]
  cases b <;> rfl
theorem cntB_le (l : List Bool) : cntB l ≤ l.length := List.length_filter_le _ _
set_option maxRecDepth 100000 in
set_option maxHeartbeats 6400000 in
theorem nulls_walk (k : Int) (A : Option Addr) (vs : List V5) (c : Nat) (w : World) (hr : ReadsV w A vs) (hN : vs.length ≤ 1048576) :
    Calls Try.prog 4 #[.int .i64 k, .slice A vs.length c] w fun e w' => e = .returned (.bool true) ∧ Below w.heap.size w w' := by
  have hH := head_any w
  by_cases hk : 1 ≤ k ∧ k ≤ 6
  · have hNw := fun W => new_any k W hk
    have HKK := Aside0.mk hk
    obtain ⟨n, hn⟩ : ∃ n, n = vs.length := ⟨_, rfl⟩
    rw [← hn] at hN ⊢
    have HN := Aside0.mk hn
    have HR := Aside0.mk hr
    have hN9 : (n : Int) ≤ 1048576 := by omega
    clear hr hn hk
    go_enter Try.func4, Try.ntmps4
    go_wp2_with (go_at_call 8; go_loud (refine hH.mono ?_))
    first
      | (intro e W1 he HB1; subst he)
      | rintro e W1 ⟨rfl, HB1⟩
    have hN1 := hNw W1
    clear hNw hH
    go_wp2_with (go_at_call 9; go_loud (refine hN1.mono ?_))
    first
      | (intro e W2 he hV2 hb2; subst he)
      | rintro e W2 ⟨rfl, hV2, hb2⟩
    have HB2 := below_then HB1 hb2
    have hw1 : w.heap.size ≤ W1.heap.size := HB1.size
    obtain ⟨b, hb⟩ : ∃ b, b = W1.heap.size + 1 := ⟨_, rfl⟩
    rw [← hb] at hV2 ⊢
    have hV2' : VecIs W2 (fun j => w.heap.size ≤ j) b (VS.new k) := vecIs_mono hV2 (fun j h => Nat.le_trans hw1 h)
    clear hV2 hN1 hb2 hb HB1 hw1
    go_wp2
    go_loopg [7, 8, 9] (n + 1) (fun gg s7 s8 s9 wr => ∃ j : Nat, j ≤ n ∧ n < gg + j ∧ s9 = .int .i64 j ∧ s7 = .int .i64 ((stepsL k (vs.take j)).nl.length : Int) ∧ s8 = .int .i64 (cntB (stepsL k (vs.take j)).nl : Int) ∧ VecIs wr (fun i => w.heap.size ≤ i) b (stepsL k (vs.take j)) ∧ Below w.heap.size w wr)
    case atStart => exact ⟨0, by omega, by omega, rfl, rfl, rfl, hV2', HB2⟩
    case round =>
      obtain ⟨j, hj, hg, rfl, rfl, rfl, hV, HB⟩ := hrel
      clear hV2' HB2
      have hall : (stepsL k (vs.take j)).k = k ∧ WF (stepsL k (vs.take j)) ∧ (stepsL k (vs.take j)).nl.length ≤ (VS.new k).nl.length + (vs.take j).length := steps_all k HKK.out (vs.take j) (VS.new k) rfl (wf_new k HKK.out)
      have hnl : (stepsL k (vs.take j)).nl.length ≤ 1048576 := by
        have h := hall.2.2
        rw [List.length_take] at h
        have h0 : (VS.new k).nl.length = 0 := rfl
        have : (stepsL k (vs.take j)).nl.length ≤ 0 + min j vs.length := h0 ▸ h
        omega
      have hcl := cntB_le (stepsL k (vs.take j)).nl
      by_cases hlt : j < n
      · have hlti : (j : Int) < (n : Int) := by omega
        have hj0 : (0 : Int) ≤ (j : Int) := by omega
        have hjl : j < vs.length := by have := HN.out; omega
        obtain ⟨ad, rfl, hh⟩ := HR.out.row j hjl
        have hmem : vs.getD j V5.zero ∈ vs := by rw [List.getD_eq_getElem?_getD, List.getElem?_eq_getElem hjl]; exact List.getElem_mem _
        have hp := HR.out.path _ hmem
        have hsn := steps_snoc k vs j hjl
        have happ := appOk_any k HKK.out (vs.getD j V5.zero) (fun i => w.heap.size ≤ i) b (stepsL k (vs.take j)) wr hV hall.1 hall.2.1 (by omega) (hp.below HB)
        rw [← hsn] at happ
        have HSN := Aside0.mk hsn
        generalize vs.getD j V5.zero = v at hh hp happ HSN
        obtain ⟨vk, vn, vb, vss, vA, vp, vc⟩ := v
        obtain ⟨hb, hsp, c0, c1, c2, c3, c4⟩ := hh
        simp only at c0 c1 c2 c3 c4
        rw [← HB.cell hb] at c0
        rw [← HB.cell (p := ⟨(ad.add (j * 5)).block, (ad.add (j * 5)).off + 1, none⟩) hb] at c1
        rw [← HB.cell (p := ⟨(ad.add (j * 5)).block, (ad.add (j * 5)).off + 2, none⟩) hb] at c2
        rw [← HB.cell (p := ⟨(ad.add (j * 5)).block, (ad.add (j * 5)).off + 3, none⟩) hb] at c3
        rw [← HB.cell (p := ⟨(ad.add (j * 5)).block, (ad.add (j * 5)).off + 4, none⟩) hb] at c4
        have happ2 : Calls Try.prog 10 #[.pointer (some ⟨b, 0, none⟩), .agg #[.int .i64 vk, .bool vb, .int .i64 vn, .string vss, .slice vA vp.length vc]] wr fun e w' => e = .returned (.int .i64 (errV k ⟨vk, vn, vb, vss, vA, vp, vc⟩)) ∧ VecIs w' (orNew (fun i => w.heap.size ≤ i) wr) b (stepsL k (vs.take (j + 1))) ∧ KeptBut (fun i => w.heap.size ≤ i) wr w' := happ
        have HALL := Aside0.mk (And.intro hall.1 hnl)
        have hc0w : ∀ W, Below wr.heap.size wr W → True := fun _ _ => trivial
        have HC0 : Aside0 (∀ W, Below w.heap.size w W → W.cell? (ad.add (j * 5)) = some (.int .i64 vk)) := ⟨fun W h => by rw [h.cell hb, ← HB.cell hb]; exact c0⟩
        have hbl : (ad.add (j * 5)).block < w.heap.size := hb
        have HBB := Aside0.mk HB
        have hnl0 : (0 : Int) ≤ ((stepsL k (vs.take j)).nl.length : Int) := by omega
        have hnl1 : ((stepsL k (vs.take j)).nl.length : Int) ≤ 1048576 := by omega
        have hcl0 : (0 : Int) ≤ (cntB (stepsL k (vs.take j)).nl : Int) := by omega
        have hcl1 : (cntB (stepsL k (vs.take j)).nl : Int) ≤ 1048576 := by omega
        obtain ⟨P, hP⟩ : ∃ P, P = (stepsL k (vs.take j)).nl.length := ⟨_, rfl⟩
        obtain ⟨Q, hQ⟩ : ∃ Q, Q = cntB (stepsL k (vs.take j)).nl := ⟨_, rfl⟩
        rw [← hP] at hnl0 hnl1 ⊢
        rw [← hQ] at hcl0 hcl1 ⊢
        have HPQ := Aside0.mk (And.intro hP hQ)
        clear hall hnl hcl hjl hmem hp hsn happ hsp hb hc0w hP hQ hV HB
        cases hfit : fitsV k ⟨vk, vn, vb, vss, vA, vp, vc⟩ with
        | false =>
          have her : errV k ⟨vk, vn, vb, vss, vA, vp, vc⟩ = 31 := by rw [errV, hfit]; rfl
          rw [her] at happ2
          have hst : stepsL k (vs.take (j + 1)) = stepsL k (vs.take j) := by rw [HSN.out, stepV, HALL.out.1, hfit]; rfl
          have HST := Aside0.mk hst
          clear her hfit hst
          go_wp2_with (go_at_call 10; go_loud (refine happ2.mono ?_))
          first
            | (intro e W3 he hV3 hk3; subst he)
            | rintro e W3 ⟨rfl, hV3, hk3⟩
          go_wp2
          go_roundg (gk - 1)
          case measure => omega
          case rel =>
            have hs := HBB.out.size
            exact ⟨j + 1, by omega, by omega, by go_num, by rw [HST.out, ← HPQ.out.1], by rw [HST.out, ← HPQ.out.2], vecIs_mono hV3 (fun i hi => hi.elim (fun h => h) (fun h => Nat.le_trans hs h)), HBB.out.trans (hk3.below (fun i hi => hi) hs)⟩
        | true =>
          have her : errV k ⟨vk, vn, vb, vss, vA, vp, vc⟩ = 0 := if_pos hfit
          rw [her] at happ2
          have hst : (stepsL k (vs.take (j + 1))).nl = (stepsL k (vs.take j)).nl ++ [vk == 0] := by rw [HSN.out, stepV, HALL.out.1, if_pos hfit, push_len]
          have HST := Aside0.mk hst
          clear her hfit hst
          by_cases hv0 : vk = 0
          · subst hv0
            go_wp2_with (go_at_call 10; go_loud (refine happ2.mono ?_))
            first
              | (intro e W3 he hV3 hk3; subst he)
              | rintro e W3 ⟨rfl, hV3, hk3⟩
            have hs := HBB.out.size
            have HB3 : Below w.heap.size w W3 := HBB.out.trans (hk3.below (fun i hi => hi) hs)
            have hc03 := HC0.out W3 HB3
            have HS := Aside0.mk hs
            clear hs
            go_wp2
            go_roundg (gk - 1)
            case measure => omega
            case rel => exact ⟨j + 1, by omega, by omega, by go_num, by rw [HST.out, List.length_append, ← HPQ.out.1]; go_num, by rw [HST.out, cntB_snoc, ← HPQ.out.2]; go_num, vecIs_mono hV3 (fun i hi => hi.elim (fun h => h) (fun h => Nat.le_trans HS.out h)), HB3⟩
          · have hv0b : (vk == 0) = false := by rw [beq_eq_false_iff_ne]; exact hv0
            go_wp2_with (go_at_call 10; go_loud (refine happ2.mono ?_))
            first
              | (intro e W3 he hV3 hk3; subst he)
              | rintro e W3 ⟨rfl, hV3, hk3⟩
            have hs := HBB.out.size
            have HB3 : Below w.heap.size w W3 := HBB.out.trans (hk3.below (fun i hi => hi) hs)
            have hc03 := HC0.out W3 HB3
            have HS := Aside0.mk hs
            clear hs
            go_wp2
            go_roundg (gk - 1)
            case measure => omega
            case rel => exact ⟨j + 1, by omega, by omega, by go_num, by rw [HST.out, List.length_append, ← HPQ.out.1]; go_num, by rw [HST.out, cntB_snoc, ← HPQ.out.2, hv0b]; go_num, vecIs_mono hV3 (fun i hi => hi.elim (fun h => h) (fun h => Nat.le_trans HS.out h)), HB3⟩
      · obtain rfl : j = n := by omega
        have hk0 := hall.1
        clear hall
        generalize stepsL k (vs.take j) = S at hV hk0 hnl hcl ⊢
        have hLen := len_any _ b S wr hV
        have hNul := nulls_any _ b S wr hV (by omega)
        have hKind := kind_any _ b S wr hV
        have hAt1 : Calls Try.prog 16 #[.pointer (some ⟨b, 0, none⟩), .int .i64 (S.nl.length : Int)] wr fun e w' => e = .returned (.agg #[.int .i64 0, .bool false, .int .i64 0, .string ⟨#[]⟩, .slice none 0 0]) ∧ Below wr.heap.size wr w' := at_out _ b S _ wr hV (.inr (Int.le_refl _))
        have hAt2 : ∀ W, Below wr.heap.size wr W → Calls Try.prog 16 #[.pointer (some ⟨b, 0, none⟩), .int .i64 (-1)] W fun e w' => e = .returned (.agg #[.int .i64 0, .bool false, .int .i64 0, .string ⟨#[]⟩, .slice none 0 0]) ∧ Below W.heap.size W w' := fun W h => at_out _ b S _ W (vecIs_below hV h) (.inl (by decide))
        rw [hk0] at hKind
        have hfl : ∀ W, (Instr.field 32 (.agg #[.int .i64 0, .bool false, .int .i64 0, .string ⟨#[]⟩, .slice none 0 0]) 0).run Try.prog W = .ok (.int .i64 0) W := fun W => by kernel_rfl
        have hkk : (k == k) = true := by simp
        generalize S.nl.length = P at hLen hAt1 hnl hcl ⊢
        generalize cntB S.nl = Q at hNul hcl ⊢
        have hpp : ((P : Int) == (P : Int)) = true := by simp
        have hqq : ((Q : Int) == (Q : Int)) = true := by simp
        clear hV hk0 hcl
        go_wp2_with (go_at_call 13; go_loud (refine hLen.mono ?_))
        rintro e Wl ⟨rfl, hWl⟩
        subst Wl
        clear hLen
        go_wp2_with (go_at_call 14; go_loud (refine hNul.mono ?_))
        rintro e Wl ⟨rfl, hWl⟩
        subst Wl
        clear hNul
        go_wp2_with (go_at_call 15; go_loud (refine hKind.mono ?_))
        rintro e Wl ⟨rfl, hWl⟩
        subst Wl
        clear hKind
        go_wp2_with (go_at_call 16; go_loud (refine hAt1.mono ?_))
        first
          | (intro e W3 he hb3; subst he)
          | rintro e W3 ⟨rfl, hb3⟩
        have hAt3 := hAt2 W3 hb3
        clear hAt1 hAt2
        go_wp2_with (go_at_call 16; go_loud (refine hAt3.mono ?_))
        first
          | (intro e W4 he hb4; subst he)
          | rintro e W4 ⟨rfl, hb4⟩
        go_wp2
        go_ret
        exact ⟨rfl, below_then HB (below_then hb3 hb4)⟩
  · have hNw := fun W => new_none k W (by omega)
    clear hr hN
    by_cases h1 : k < 1
    · clear hk
      go_enter Try.func4, Try.ntmps4
      go_wp2_with (go_at_call 8; go_loud (refine hH.mono ?_))
      first
        | (intro e W1 he HB1; subst he)
        | rintro e W1 ⟨rfl, HB1⟩
      go_wp2_with (go_at_call 9; refine (hNw _).mono ?_; rintro e W2 ⟨rfl, rfl⟩)
      go_ret
      exact ⟨rfl, HB1⟩
    · have h6 : 6 < k := by omega
      clear hk
      go_enter Try.func4, Try.ntmps4
      go_wp2_with (go_at_call 8; go_loud (refine hH.mono ?_))
      first
        | (intro e W1 he HB1; subst he)
        | rintro e W1 ⟨rfl, HB1⟩
      go_wp2_with (go_at_call 9; refine (hNw _).mono ?_; rintro e W2 ⟨rfl, rfl⟩)
      go_ret
      exact ⟨rfl, HB1⟩
end Go.Proofs.Ytbdbcbpcekpcoaa
