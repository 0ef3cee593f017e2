/- The walk of the law ColvecDicts. -/
import Derived.Test.YtbdbcbpcekpcoaaCvDi
import Derived.Test.YtbdbcbpcekpcoaaRegS
set_option linter.unusedVariables false
set_option linter.unusedSimpArgs false
namespace Go.Proofs.Ytbdbcbpcekpcoaa
open Go.RowKit Go.Maps

theorem ofL_dl (vs : List V5) (h : ∀ v ∈ vs, fitsV 2 v = true) : (ofL 2 vs).dl = [] := by
  have g : ∀ (vs : List V5) (S : VS), S.k = 2 → (∀ v ∈ vs, fitsV 2 v = true) → (vs.foldl pushV S).dl = S.dl := by
    intro vs
    induction vs with
    | nil => intro S _ _; rfl
    | cons v r ih =>
      intro S hk hf
      rw [List.foldl_cons, ih _ (by rw [push_k, hk]) (fun u hu => hf u (by simp [hu]))]
      have h1 := hf v (by simp)
      unfold fitsV at h1
      simp only [Bool.and_eq_true, Bool.or_eq_true, beq_iff_eq] at h1
      unfold pushV
      rw [if_neg (by omega), if_neg (by omega), if_neg (by omega)]
  exact g vs _ rfl h
set_option maxRecDepth 100000 in
set_option maxHeartbeats 6400000 in
theorem dicts_walk (A : Option Addr) (l : List ByteArray) (c : Nat) (B : Option Addr) (vs : List V5) (d : Nat) (w : World) (hr : ReadsT w A l) (hN : l.length ≤ 8796093022206) (hv : ReadsV w B vs) (hM : vs.length ≤ 8796093022206) :
    Calls Try.prog 3 #[.slice A l.length c, .slice B vs.length d] w fun e w' => e = .returned (.bool true) ∧ Below w.heap.size w w' := by
  have hH := head_any w
  have hNw := fun W => new_any 3 W (by decide)
  obtain ⟨n, hn⟩ : ∃ n, n = l.length := ⟨_, rfl⟩
  rw [← hn] at hN ⊢
  have HN := Aside0.mk hn
  have HR := Aside0.mk hr
  have hN9 : (n : Int) ≤ 8796093022206 := by omega
  have HOF : Aside0 (∀ W, Below w.heap.size w W → Calls Try.prog 12 #[.int .i64 2, .slice B vs.length d] W fun e w' => (((∀ v ∈ vs, fitsV 2 v = true) ∧ e = .returned (.tuple #[.pointer (some ⟨W.heap.size + 1, 0, none⟩), .int .i64 0]) ∧ VecIs w' (fun j => W.heap.size ≤ j) (W.heap.size + 1) (ofL 2 vs)) ∨ ((¬ ∀ v ∈ vs, fitsV 2 v = true) ∧ e = .returned (.tuple #[.pointer none, .int .i64 31]))) ∧ Below W.heap.size W w') := ⟨fun W h => of_any 2 B vs d W (by decide) (hv.below h) (by rw [room_num (by decide)]; omega)⟩
  have HDL : Aside0 ((∀ v ∈ vs, fitsV 2 v = true) → (ofL 2 vs).dl = []) := ⟨ofL_dl vs⟩
  generalize ofL 2 vs = SO at HOF HDL
  generalize vs.length = M at HOF hM ⊢
  clear hr hn hv hM
  go_enter Try.func3, Try.ntmps3
  go_wp2_with (go_at_call 8; go_loud (refine hH.mono ?_))
  first
    | (intro e W1 he HB1; subst he)
    | rintro e W1 ⟨rfl, HB1⟩
  have hN1 := hNw W1
  clear hNw hH
  go_wp2_with (go_at_call 9; go_loud (refine hN1.mono ?_))
  first
    | (intro e W2 he hV2 hb2; subst he)
    | rintro e W2 ⟨rfl, hV2, hb2⟩
  obtain ⟨b, hb⟩ : ∃ b, b = W1.heap.size + 1 := ⟨_, rfl⟩
  rw [← hb] at hV2 ⊢
  have hD2 : DI w W2 b (VS.new 3) [] none 0 := DI.start HB1 hV2 hb2
  clear hV2 hN1 hb2 hb HB1
  go_wp2
  go_loopg [7, 8] (n + 1) (fun gg s7 s8 wr => ∃ (j : Nat) (WA : Option Addr) (wc : Nat), j ≤ n ∧ n < gg + j ∧ s8 = .int .i64 j ∧ s7 = .slice WA (stT l j).dl.length wc ∧ DI w wr b (stT l j) (stT l j).dl WA wc)
  case atStart => exact ⟨0, none, 0, by omega, by omega, rfl, rfl, hD2⟩
  case round =>
    obtain ⟨j, WA, wc, hj, hg, rfl, rfl, hDI⟩ := hrel
    clear hD2
    have hall := stT_all l j
    have hdl9 : (stT l j).dl.length ≤ 8796093022206 := by have := hall.2.1.dict; omega
    obtain ⟨G, hG⟩ : ∃ G, G = gk := ⟨_, rfl⟩
    have HG := Aside0.mk hG
    clear hG
    by_cases hlt : j < n
    · have hlti : (j : Int) < (n : Int) := by omega
      have hj0 : (0 : Int) ≤ (j : Int) := by omega
      have hjl : j < l.length := by have := HN.out; omega
      have hst := stT_succ l j hjl
      have hrw := HR.out.below hDI.bel
      obtain ⟨ad, rfl, hcl0⟩ := hrw.at_ j hjl
      have HCL : Aside0 (∀ W, Below w.heap.size w W → W.cell? (ad.add j) = some (.string (l.getD j ByteArray.empty))) := ⟨fun W h => by
        obtain ⟨ad', e, h2⟩ := (HR.out.below h).at_ j hjl
        cases e
        exact h2⟩
      generalize l.getD j ByteArray.empty = s at hst hcl0 HCL
      have happ := hDI.app s hall.1 hall.2.1 (by omega)
      have hdls := dl_step (stT l j) s hall.1
      rw [← hst] at happ hdls
      obtain ⟨S', hS'⟩ : ∃ S', S' = stT l (j + 1) := ⟨_, rfl⟩
      rw [← hS'] at happ hdls
      clear hst
      generalize stT l j = S at hDI happ hdls hdl9 hall ⊢
      generalize errV 3 (tv s) = E at happ hdls
      have HHK := Aside0.mk hS'
      generalize hDD : S.dl = D at hDI happ hdls hdl9 ⊢
      have HDD := Aside0.mk hDD
      have HDLS := Aside0.mk hdls
      clear hS' hall hjl hrw hDI hdls hDD
      go_wp2_with (go_at_call 10; go_loud (refine happ.mono ?_))
      first
        | (intro e W3 he hD3; subst he)
        | rintro e W3 ⟨rfl, hD3⟩
      have HD3 := Aside0.mk hD3
      clear happ hD3 hcl0
      obtain ⟨m, hm⟩ : ∃ m, m = D.length := ⟨_, rfl⟩
      have HM := Aside0.mk hm
      rw [← hm] at hdl9 ⊢
      have hm9 : (m : Int) ≤ 8796093022206 := by omega
      clear hm
      go_wp2
      go_loopg [10, 11] (m + 1) (fun gg s10 s11 wx => ∃ (q : Nat) (kn : Bool), q ≤ m ∧ m < gg + q ∧ s11 = .int .i64 q ∧ s10 = .bool kn ∧ Aside0 (kn = (E != 0 || anyT (D.take q) s)) ∧ Below W3.heap.size W3 wx)
      case atStart => exact ⟨0, _, by omega, by omega, rfl, rfl, ⟨by simp [anyT]⟩, Below.refl _ _⟩
      case round =>
        obtain ⟨q, kn, hq, hgq, rfl, rfl, HK, HBX0⟩ := hrel
        have hq0 : (0 : Int) ≤ (q : Int) := by omega
        have HBX := Aside0.mk HBX0
        clear HBX0
        by_cases hqm : q < m
        · have hqmi : (q : Int) < (m : Int) := by omega
          have hql : q < D.length := by have := HM.out; omega
          have hat : (E != 0 || anyT (D.take (q + 1)) s) = (kn || decide (D.getD q ByteArray.empty = s)) := by rw [any_take D s q hql, ← Bool.or_assoc, ← HK.out]
          obtain ⟨adw, rfl, hcw⟩ := (HD3.out.reads.below HBX.out).at_ q hql
          have hcl := HCL.out _ (below_then HD3.out.bel HBX.out)
          generalize D.getD q ByteArray.empty = x at hcw hat
          have HAT := Aside0.mk hat
          clear hat hql HK
          cases kn
          · by_cases hxe : x = s
            · subst hxe
              have hxs : (x.toList == x.toList) = true := by simp
              have hxt := hxs
              have hxu := hxs
              go_upto_region 14 with (fail)
              refine wp_region_held_drew (S := (fun WW => WW.cell? (adw.add q) = some (.string x) ∧ WW.cell? (ad.add j) = some (.string x))) (by kernel_rfl) ?_ (fun hHeld => ?_)
              · exact ⟨hcw, hcl⟩
              refine take_in (i := 0) (v := ?v0a) rfl (by kernel_rfl) (by kernel_rfl) (by kernel_rfl) (fun _ _ _ h => h) (by rfl) ?hy0a (by assumption) ?_
              case hy0a => intro WW hSw; (try dsimp only at hSw); go_simp; try with_reducible rfl
              try simp only [Act.put, List.setIfInBounds_toArray, List.set_cons_zero, List.set_cons_succ]
              refine take_in (i := 1) (v := ?v1a) rfl (by kernel_rfl) (by kernel_rfl) (by kernel_rfl) (fun _ _ _ h => h) (by rfl) ?hy1a (by assumption) ?_
              case hy1a => intro WW hSw; (try dsimp only at hSw); go_simp; try with_reducible rfl
              try simp only [Act.put, List.setIfInBounds_toArray, List.set_cons_zero, List.set_cons_succ]
              refine take_in (i := 2) (v := ?v2a) rfl (by kernel_rfl) (by kernel_rfl) (by kernel_rfl) (fun _ _ _ h => h) (by rfl) ?hy2a (by assumption) ?_
              case hy2a => intro WW hSw; (try dsimp only at hSw); go_simp; try with_reducible rfl
              try simp only [Act.put, List.setIfInBounds_toArray, List.set_cons_zero, List.set_cons_succ]
              refine take_in (i := 3) (v := ?v3a) rfl (by kernel_rfl) (by kernel_rfl) (by kernel_rfl) (fun _ _ _ h => h) (by rfl) ?hy3a (by assumption) ?_
              case hy3a => intro WW hSw; (try dsimp only at hSw); go_simp; try with_reducible rfl
              try simp only [Act.put, List.setIfInBounds_toArray, List.set_cons_zero, List.set_cons_succ]
              refine take_in (i := 4) (v := ?v4a) rfl (by kernel_rfl) (by kernel_rfl) (by kernel_rfl) (fun _ _ _ h => h) (by rfl) ?hy4a (by assumption) ?_
              case hy4a => intro WW hSw; (try dsimp only at hSw); go_simp; try with_reducible rfl
              try simp only [Act.put, List.setIfInBounds_toArray, List.set_cons_zero, List.set_cons_succ]
              refine take_in (i := 5) (v := ?v5a) rfl (by kernel_rfl) (by kernel_rfl) (by kernel_rfl) (fun _ _ _ h => h) (by rfl) ?hy5a (by assumption) ?_
              case hy5a => intro WW hSw; (try dsimp only at hSw); go_simp; try with_reducible rfl
              try simp only [Act.put, List.setIfInBounds_toArray, List.set_cons_zero, List.set_cons_succ]
              refine take_in (i := 6) (v := ?v6a) rfl (by kernel_rfl) (by kernel_rfl) (by kernel_rfl) (fun _ _ _ h => h) (by rfl) ?hy6a (by assumption) ?_
              case hy6a => intro WW hSw; (try dsimp only at hSw); go_simp; try with_reducible rfl
              try simp only [Act.put, List.setIfInBounds_toArray, List.set_cons_zero, List.set_cons_succ]
              refine take_in (i := 7) (v := ?v7a) rfl (by kernel_rfl) (by kernel_rfl) (by kernel_rfl) (fun _ _ _ h => h) (by rfl) ?hy7a (by assumption) ?_
              case hy7a => intro WW hSw; (try dsimp only at hSw); go_simp; try with_reducible rfl
              try simp only [Act.put, List.setIfInBounds_toArray, List.set_cons_zero, List.set_cons_succ]
              refine take_in (i := 8) (v := ?v8a) rfl (by kernel_rfl) (by kernel_rfl) (by kernel_rfl) (fun _ _ _ h => h) (by rfl) ?hy8a (by assumption) ?_
              case hy8a => intro WW hSw; (try dsimp only at hSw); go_simp; try with_reducible rfl
              try simp only [Act.put, List.setIfInBounds_toArray, List.set_cons_zero, List.set_cons_succ]
              refine take_in (i := 9) (v := ?v9a) rfl (by kernel_rfl) (by kernel_rfl) (by kernel_rfl) (fun _ _ _ h => h) (by rfl) ?hy9a (by assumption) ?_
              case hy9a => intro WW hSw; (try dsimp only at hSw); go_simp; try with_reducible rfl
              try simp only [Act.put, List.setIfInBounds_toArray, List.set_cons_zero, List.set_cons_succ]
              refine take_in (i := 10) (v := .bool true) rfl (by kernel_rfl) (by kernel_rfl) (by kernel_rfl) (fun _ _ _ h => h) (by rfl) ?hy10a (by assumption) ?_
              case hy10a => intro WW hSw; (try dsimp only at hSw); have hh := hxs; have hh2 := hxt; have hh3 := hxu; go_simp; try with_reducible rfl
              try simp only [Act.put, List.setIfInBounds_toArray, List.set_cons_zero, List.set_cons_succ]
              refine take_in (i := 11) (v := .bool true) rfl (by kernel_rfl) (by kernel_rfl) (by kernel_rfl) (fun _ _ _ h => h) (by rfl) ?hy11a (by assumption) ?_
              case hy11a => intro WW hSw; (try dsimp only at hSw); go_simp; try with_reducible rfl
              try simp only [Act.put, List.setIfInBounds_toArray, List.set_cons_zero, List.set_cons_succ]
              refine take_in (i := 12) (v := ?v12a) rfl (by kernel_rfl) (by kernel_rfl) (by kernel_rfl) (fun _ _ _ h => h) (by rfl) ?hy12a (by assumption) ?_
              case hy12a => intro WW hSw; (try dsimp only at hSw); go_simp; try with_reducible rfl
              try simp only [Act.put, List.setIfInBounds_toArray, List.set_cons_zero, List.set_cons_succ]
              refine wpAnyH_done (by kernel_rfl) ?_ _
              go_wp2
              go_roundg (gk - 1)
              case measure => omega
              case rel => exact ⟨q + 1, true, by omega, by omega, by go_num, rfl, ⟨by rw [HAT.out]; simp⟩, (by repeat (first | exact HBX.out | apply below_drew | apply below_drewn))⟩
            · have hxs : (x.toList == s.toList) = false := by
                rw [beq_eq_false_iff_ne]
                intro h
                rw [ByteArray.toList_eq, ByteArray.toList_eq] at h
                exact hxe (ba_ext h)
              have hxt := hxs
              have hxu := hxs
              have HXE := Aside0.mk hxe
              clear hxe
              go_upto_region 14 with (fail)
              refine wp_region_held_drew (S := (fun WW => WW.cell? (adw.add q) = some (.string x) ∧ WW.cell? (ad.add j) = some (.string s))) (by kernel_rfl) ?_ (fun hHeld => ?_)
              · exact ⟨hcw, hcl⟩
              refine take_in (i := 0) (v := ?v0b) rfl (by kernel_rfl) (by kernel_rfl) (by kernel_rfl) (fun _ _ _ h => h) (by rfl) ?hy0b (by assumption) ?_
              case hy0b => intro WW hSw; (try dsimp only at hSw); go_simp; try with_reducible rfl
              try simp only [Act.put, List.setIfInBounds_toArray, List.set_cons_zero, List.set_cons_succ]
              refine take_in (i := 1) (v := ?v1b) rfl (by kernel_rfl) (by kernel_rfl) (by kernel_rfl) (fun _ _ _ h => h) (by rfl) ?hy1b (by assumption) ?_
              case hy1b => intro WW hSw; (try dsimp only at hSw); go_simp; try with_reducible rfl
              try simp only [Act.put, List.setIfInBounds_toArray, List.set_cons_zero, List.set_cons_succ]
              refine take_in (i := 2) (v := ?v2b) rfl (by kernel_rfl) (by kernel_rfl) (by kernel_rfl) (fun _ _ _ h => h) (by rfl) ?hy2b (by assumption) ?_
              case hy2b => intro WW hSw; (try dsimp only at hSw); go_simp; try with_reducible rfl
              try simp only [Act.put, List.setIfInBounds_toArray, List.set_cons_zero, List.set_cons_succ]
              refine take_in (i := 3) (v := ?v3b) rfl (by kernel_rfl) (by kernel_rfl) (by kernel_rfl) (fun _ _ _ h => h) (by rfl) ?hy3b (by assumption) ?_
              case hy3b => intro WW hSw; (try dsimp only at hSw); go_simp; try with_reducible rfl
              try simp only [Act.put, List.setIfInBounds_toArray, List.set_cons_zero, List.set_cons_succ]
              refine take_in (i := 4) (v := ?v4b) rfl (by kernel_rfl) (by kernel_rfl) (by kernel_rfl) (fun _ _ _ h => h) (by rfl) ?hy4b (by assumption) ?_
              case hy4b => intro WW hSw; (try dsimp only at hSw); go_simp; try with_reducible rfl
              try simp only [Act.put, List.setIfInBounds_toArray, List.set_cons_zero, List.set_cons_succ]
              refine take_in (i := 5) (v := ?v5b) rfl (by kernel_rfl) (by kernel_rfl) (by kernel_rfl) (fun _ _ _ h => h) (by rfl) ?hy5b (by assumption) ?_
              case hy5b => intro WW hSw; (try dsimp only at hSw); go_simp; try with_reducible rfl
              try simp only [Act.put, List.setIfInBounds_toArray, List.set_cons_zero, List.set_cons_succ]
              refine take_in (i := 6) (v := ?v6b) rfl (by kernel_rfl) (by kernel_rfl) (by kernel_rfl) (fun _ _ _ h => h) (by rfl) ?hy6b (by assumption) ?_
              case hy6b => intro WW hSw; (try dsimp only at hSw); go_simp; try with_reducible rfl
              try simp only [Act.put, List.setIfInBounds_toArray, List.set_cons_zero, List.set_cons_succ]
              refine take_in (i := 7) (v := ?v7b) rfl (by kernel_rfl) (by kernel_rfl) (by kernel_rfl) (fun _ _ _ h => h) (by rfl) ?hy7b (by assumption) ?_
              case hy7b => intro WW hSw; (try dsimp only at hSw); go_simp; try with_reducible rfl
              try simp only [Act.put, List.setIfInBounds_toArray, List.set_cons_zero, List.set_cons_succ]
              refine take_in (i := 8) (v := ?v8b) rfl (by kernel_rfl) (by kernel_rfl) (by kernel_rfl) (fun _ _ _ h => h) (by rfl) ?hy8b (by assumption) ?_
              case hy8b => intro WW hSw; (try dsimp only at hSw); go_simp; try with_reducible rfl
              try simp only [Act.put, List.setIfInBounds_toArray, List.set_cons_zero, List.set_cons_succ]
              refine take_in (i := 9) (v := ?v9b) rfl (by kernel_rfl) (by kernel_rfl) (by kernel_rfl) (fun _ _ _ h => h) (by rfl) ?hy9b (by assumption) ?_
              case hy9b => intro WW hSw; (try dsimp only at hSw); go_simp; try with_reducible rfl
              try simp only [Act.put, List.setIfInBounds_toArray, List.set_cons_zero, List.set_cons_succ]
              refine take_in (i := 10) (v := .bool false) rfl (by kernel_rfl) (by kernel_rfl) (by kernel_rfl) (fun _ _ _ h => h) (by rfl) ?hy10b (by assumption) ?_
              case hy10b => intro WW hSw; (try dsimp only at hSw); have hh := hxs; have hh2 := hxt; have hh3 := hxu; go_simp; try with_reducible rfl
              try simp only [Act.put, List.setIfInBounds_toArray, List.set_cons_zero, List.set_cons_succ]
              refine take_in (i := 11) (v := .bool false) rfl (by kernel_rfl) (by kernel_rfl) (by kernel_rfl) (fun _ _ _ h => h) (by rfl) ?hy11b (by assumption) ?_
              case hy11b => intro WW hSw; (try dsimp only at hSw); go_simp; try with_reducible rfl
              try simp only [Act.put, List.setIfInBounds_toArray, List.set_cons_zero, List.set_cons_succ]
              refine take_in (i := 12) (v := ?v12b) rfl (by kernel_rfl) (by kernel_rfl) (by kernel_rfl) (fun _ _ _ h => h) (by rfl) ?hy12b (by assumption) ?_
              case hy12b => intro WW hSw; (try dsimp only at hSw); go_simp; try with_reducible rfl
              try simp only [Act.put, List.setIfInBounds_toArray, List.set_cons_zero, List.set_cons_succ]
              refine wpAnyH_done (by kernel_rfl) ?_ _
              go_wp2
              go_roundg (gk - 1)
              case measure => omega
              case rel => exact ⟨q + 1, false, by omega, by omega, by go_num, rfl, ⟨by rw [HAT.out, decide_eq_false HXE.out]; rfl⟩, (by repeat (first | exact HBX.out | apply below_drew | apply below_drewn))⟩
          · have hxs : True := trivial
            have hxt := hxs
            have hxu := hxs
            go_upto_region 14 with (fail)
            refine wp_region_held_drew (S := (fun WW => WW.cell? (adw.add q) = some (.string x) ∧ WW.cell? (ad.add j) = some (.string s))) (by kernel_rfl) ?_ (fun hHeld => ?_)
            · exact ⟨hcw, hcl⟩
            refine take_in (i := 0) (v := ?v0c) rfl (by kernel_rfl) (by kernel_rfl) (by kernel_rfl) (fun _ _ _ h => h) (by rfl) ?hy0c (by assumption) ?_
            case hy0c => intro WW hSw; (try dsimp only at hSw); go_simp; try with_reducible rfl
            try simp only [Act.put, List.setIfInBounds_toArray, List.set_cons_zero, List.set_cons_succ]
            refine take_in (i := 1) (v := ?v1c) rfl (by kernel_rfl) (by kernel_rfl) (by kernel_rfl) (fun _ _ _ h => h) (by rfl) ?hy1c (by assumption) ?_
            case hy1c => intro WW hSw; (try dsimp only at hSw); go_simp; try with_reducible rfl
            try simp only [Act.put, List.setIfInBounds_toArray, List.set_cons_zero, List.set_cons_succ]
            refine take_out (i := 2) rfl (by kernel_rfl) (by kernel_rfl) (by kernel_rfl) (fun _ _ _ h => h) (by rfl) (by assumption) ?_
            try simp only [Act.put, List.setIfInBounds_toArray, List.set_cons_zero, List.set_cons_succ]
            refine take_out (i := 3) rfl (by kernel_rfl) (by kernel_rfl) (by kernel_rfl) (fun _ _ _ h => h) (by rfl) (by assumption) ?_
            try simp only [Act.put, List.setIfInBounds_toArray, List.set_cons_zero, List.set_cons_succ]
            refine take_out (i := 4) rfl (by kernel_rfl) (by kernel_rfl) (by kernel_rfl) (fun _ _ _ h => h) (by rfl) (by assumption) ?_
            try simp only [Act.put, List.setIfInBounds_toArray, List.set_cons_zero, List.set_cons_succ]
            refine take_out (i := 5) rfl (by kernel_rfl) (by kernel_rfl) (by kernel_rfl) (fun _ _ _ h => h) (by rfl) (by assumption) ?_
            try simp only [Act.put, List.setIfInBounds_toArray, List.set_cons_zero, List.set_cons_succ]
            refine take_out (i := 6) rfl (by kernel_rfl) (by kernel_rfl) (by kernel_rfl) (fun _ _ _ h => h) (by rfl) (by assumption) ?_
            try simp only [Act.put, List.setIfInBounds_toArray, List.set_cons_zero, List.set_cons_succ]
            refine take_out (i := 7) rfl (by kernel_rfl) (by kernel_rfl) (by kernel_rfl) (fun _ _ _ h => h) (by rfl) (by assumption) ?_
            try simp only [Act.put, List.setIfInBounds_toArray, List.set_cons_zero, List.set_cons_succ]
            refine take_out (i := 8) rfl (by kernel_rfl) (by kernel_rfl) (by kernel_rfl) (fun _ _ _ h => h) (by rfl) (by assumption) ?_
            try simp only [Act.put, List.setIfInBounds_toArray, List.set_cons_zero, List.set_cons_succ]
            refine take_out (i := 9) rfl (by kernel_rfl) (by kernel_rfl) (by kernel_rfl) (fun _ _ _ h => h) (by rfl) (by assumption) ?_
            try simp only [Act.put, List.setIfInBounds_toArray, List.set_cons_zero, List.set_cons_succ]
            refine take_out (i := 10) rfl (by kernel_rfl) (by kernel_rfl) (by kernel_rfl) (fun _ _ _ h => h) (by rfl) (by assumption) ?_
            try simp only [Act.put, List.setIfInBounds_toArray, List.set_cons_zero, List.set_cons_succ]
            refine take_in (i := 11) (v := .bool true) rfl (by kernel_rfl) (by kernel_rfl) (by kernel_rfl) (fun _ _ _ h => h) (by rfl) ?hy11c (by assumption) ?_
            case hy11c => intro WW hSw; (try dsimp only at hSw); go_simp; try with_reducible rfl
            try simp only [Act.put, List.setIfInBounds_toArray, List.set_cons_zero, List.set_cons_succ]
            refine take_in (i := 12) (v := ?v12c) rfl (by kernel_rfl) (by kernel_rfl) (by kernel_rfl) (fun _ _ _ h => h) (by rfl) ?hy12c (by assumption) ?_
            case hy12c => intro WW hSw; (try dsimp only at hSw); go_simp; try with_reducible rfl
            try simp only [Act.put, List.setIfInBounds_toArray, List.set_cons_zero, List.set_cons_succ]
            refine wpAnyH_done (by kernel_rfl) ?_ _
            go_wp2
            go_roundg (gk - 1)
            case measure => omega
            case rel => exact ⟨q + 1, true, by omega, by omega, by go_num, rfl, ⟨by rw [HAT.out]; rfl⟩, (by repeat (first | exact HBX.out | apply below_drew | apply below_drewn))⟩
        · obtain rfl : q = m := by omega
          have hqq : ¬ (q : Int) < (q : Int) := by omega
          have hkn : kn = (E != 0 || anyT D s) := by rw [HK.out, List.take_of_length_le (by have := HM.out; omega)]
          have hds := HDLS.out
          rw [← hkn] at hds
          have HDS := Aside0.mk hds
          have HDX := Aside0.mk (HD3.out.below HBX.out)
          clear hkn hds HK HDLS
          cases kn
          · have HGR : Aside0 (∀ v' w', w'.ownsRow 0 9 1 v' (q + 1) (textCells D ++ [.string s]) → (wr.alloc (.cells #[.string s] 9)).grownBy w' (Value.slice WA q wc).ownBlock → (v'.ownBlock = (Value.slice WA q wc).ownBlock ∨ v'.ownBlock = some (wr.alloc (.cells #[.string s] 9)).heap.size) → ∃ A c, v' = .slice A (D ++ [s]).length c ∧ DI w w' b S' (D ++ [s]) A c) := ⟨by rw [HM.out]; exact fun v' w' => HDX.out.grow s v'⟩
            have ho := HDX.out.own
            rw [← HM.out] at ho
            have hcl := HCL.out _ HDX.out.bel
            go_upto_region 16 with (fail)
            go_wp2_with (at_builtin; go_loud (refine append_str rfl (.tmp 59) (.tmp 64) rfl 0 (.slice WA q wc) q (textCells D) rfl ho s rfl (by omega) rfl ?_))
            intro v' W5 h1 h2 h3
            obtain ⟨A5, c5, rfl, hD5⟩ := HGR.out v' W5 h1 h2 (by simpa using h3)
            have e : S'.dl = D ++ [s] := HDS.out.trans (if_neg Bool.false_ne_true)
            have HD5 : Aside0 (Value.slice A5 (D ++ [s]).length c5 = .slice A5 (stT l (j + 1)).dl.length c5 ∧ DI w W5 b (stT l (j + 1)) (stT l (j + 1)).dl A5 c5) := ⟨by rw [← HHK.out, e]; exact ⟨rfl, hD5⟩⟩
            clear e hD5 h1 h2 h3 ho hcl
            go_wp2
            go_roundg (G - 1)
            case measure => have := HG.out; omega
            case rel => exact ⟨j + 1, A5, c5, by omega, by have := HG.out; omega, by go_num, HD5.out.1, HD5.out.2⟩
          · go_wp2
            go_roundg (G - 1)
            case measure => have := HG.out; omega
            case rel =>
              have e : S'.dl = D := HDS.out.trans (if_pos True.intro)
              exact ⟨j + 1, WA, wc, by omega, by have := HG.out; omega, by go_num, by rw [← HHK.out, e, ← HM.out], by rw [← HHK.out, e]; exact HDX.out⟩
    · obtain rfl : j = n := by omega
      have hjj : ¬ (j : Int) < (j : Int) := by omega
      have hdi := dict_any _ b (stT l j) wr hDI.is (by omega)
      generalize (stT l j).dl = D at hDI hdi hdl9 ⊢
      have HDX := Aside0.mk hDI
      obtain ⟨m, hm⟩ : ∃ m, m = D.length := ⟨_, rfl⟩
      have HM := Aside0.mk hm
      rw [← hm] at hdi hdl9 ⊢
      have hm9 : (m : Int) ≤ 8796093022206 := by omega
      have hmm : ((m : Int) != (m : Int)) = false := by simp
      clear hall hDI hm
      go_wp2_with (go_at_call 11; go_loud (refine hdi.mono ?_))
      intro e W3 A3 c3 he hr3 hb3
      subst he
      have HR3 := Aside0.mk hr3
      have HRW := Aside0.mk (HDX.out.reads.below hb3)
      have HB3 := Aside0.mk (below_then HDX.out.bel hb3)
      clear hdi hr3 hb3
      go_wp2
      go_loopg [13] (m + 1) (fun gg s13 wx => ∃ i : Nat, i ≤ m ∧ m < gg + i ∧ s13 = .int .i64 i ∧ Below W3.heap.size W3 wx)
      case atStart => exact ⟨0, by omega, by omega, rfl, Below.refl _ _⟩
      case round =>
        obtain ⟨i, hi, hgi, rfl, HB⟩ := hrel
        have hi0 : (0 : Int) ≤ (i : Int) := by omega
        by_cases him : i < m
        · have himi : (i : Int) < (m : Int) := by omega
          have hil : i < D.length := by have := HM.out; omega
          obtain ⟨ada, rfl, hca⟩ := (HR3.out.below HB).at_ i hil
          obtain ⟨adb, rfl, hcb⟩ := (HRW.out.below HB).at_ i hil
          generalize D.getD i ByteArray.empty = x at hca hcb
          have hxx : (x.toList != x.toList) = false := by simp
          have HBB := Aside0.mk HB
          clear hil HB
          go_upto_region 23 with (fail)
          refine wp_region_held_drew (S := (fun WW => WW.cell? (ada.add i) = some (.string x) ∧ WW.cell? (adb.add i) = some (.string x))) (by kernel_rfl) ?_ (fun hHeld => ?_)
          · exact ⟨hca, hcb⟩
          refine take_in (i := 0) (v := ?v0d) rfl (by kernel_rfl) (by kernel_rfl) (by kernel_rfl) (fun _ _ _ h => h) (by rfl) ?hy0d (by assumption) ?_
          case hy0d => intro WW hSw; (try dsimp only at hSw); go_simp; try with_reducible rfl
          try simp only [Act.put, List.setIfInBounds_toArray, List.set_cons_zero, List.set_cons_succ]
          refine take_in (i := 1) (v := ?v1d) rfl (by kernel_rfl) (by kernel_rfl) (by kernel_rfl) (fun _ _ _ h => h) (by rfl) ?hy1d (by assumption) ?_
          case hy1d => intro WW hSw; (try dsimp only at hSw); go_simp; try with_reducible rfl
          try simp only [Act.put, List.setIfInBounds_toArray, List.set_cons_zero, List.set_cons_succ]
          refine take_in (i := 2) (v := ?v2d) rfl (by kernel_rfl) (by kernel_rfl) (by kernel_rfl) (fun _ _ _ h => h) (by rfl) ?hy2d (by assumption) ?_
          case hy2d => intro WW hSw; (try dsimp only at hSw); go_simp; try with_reducible rfl
          try simp only [Act.put, List.setIfInBounds_toArray, List.set_cons_zero, List.set_cons_succ]
          refine take_in (i := 3) (v := ?v3d) rfl (by kernel_rfl) (by kernel_rfl) (by kernel_rfl) (fun _ _ _ h => h) (by rfl) ?hy3d (by assumption) ?_
          case hy3d => intro WW hSw; (try dsimp only at hSw); go_simp; try with_reducible rfl
          try simp only [Act.put, List.setIfInBounds_toArray, List.set_cons_zero, List.set_cons_succ]
          refine take_in (i := 4) (v := ?v4d) rfl (by kernel_rfl) (by kernel_rfl) (by kernel_rfl) (fun _ _ _ h => h) (by rfl) ?hy4d (by assumption) ?_
          case hy4d => intro WW hSw; (try dsimp only at hSw); go_simp; try with_reducible rfl
          try simp only [Act.put, List.setIfInBounds_toArray, List.set_cons_zero, List.set_cons_succ]
          refine take_in (i := 5) (v := ?v5d) rfl (by kernel_rfl) (by kernel_rfl) (by kernel_rfl) (fun _ _ _ h => h) (by rfl) ?hy5d (by assumption) ?_
          case hy5d => intro WW hSw; (try dsimp only at hSw); go_simp; try with_reducible rfl
          try simp only [Act.put, List.setIfInBounds_toArray, List.set_cons_zero, List.set_cons_succ]
          refine take_in (i := 6) (v := ?v6d) rfl (by kernel_rfl) (by kernel_rfl) (by kernel_rfl) (fun _ _ _ h => h) (by rfl) ?hy6d (by assumption) ?_
          case hy6d => intro WW hSw; (try dsimp only at hSw); go_simp; try with_reducible rfl
          try simp only [Act.put, List.setIfInBounds_toArray, List.set_cons_zero, List.set_cons_succ]
          refine take_in (i := 7) (v := ?v7d) rfl (by kernel_rfl) (by kernel_rfl) (by kernel_rfl) (fun _ _ _ h => h) (by rfl) ?hy7d (by assumption) ?_
          case hy7d => intro WW hSw; (try dsimp only at hSw); go_simp; try with_reducible rfl
          try simp only [Act.put, List.setIfInBounds_toArray, List.set_cons_zero, List.set_cons_succ]
          refine take_in (i := 8) (v := .bool false) rfl (by kernel_rfl) (by kernel_rfl) (by kernel_rfl) (fun _ _ _ h => h) (by rfl) ?hy8d (by assumption) ?_
          case hy8d => intro WW hSw; (try dsimp only at hSw); have hh := hxx; go_simp; try with_reducible rfl
          try simp only [Act.put, List.setIfInBounds_toArray, List.set_cons_zero, List.set_cons_succ]
          refine wpAnyH_done (by kernel_rfl) ?_ _
          go_wp2
          go_roundg (gk - 1)
          case measure => omega
          case rel => exact ⟨i + 1, by omega, by omega, by go_num, (by repeat (first | exact HBB.out | apply below_drew | apply below_drewn))⟩
        · obtain rfl : i = m := by omega
          have hii : ¬ (i : Int) < (i : Int) := by omega
          have HB4 := Aside0.mk (below_then HB3.out HB)
          have hOF := HOF.out _ HB4.out
          clear HB
          go_wp2_with (go_at_call 12; go_loud (refine hOF.mono ?_))
          intro e W6 hcase hb6
          have HB6 := Aside0.mk (below_then HB4.out hb6)
          clear hOF hb6
          rcases hcase with ⟨hf, rfl, hV6⟩ | ⟨_, rfl⟩
          · have hdl := HDL.out hf
            have hd6 := dict_any _ _ SO W6 hV6 (by rw [hdl]; simp)
            rw [hdl] at hd6
            generalize wr.heap.size + 1 = b2 at hd6 ⊢
            have hd7 : Calls Try.prog 11 #[.pointer (some ⟨b2, 0, none⟩)] W6 fun e w' => ∃ A c, e = .returned (.slice A 0 c) ∧ Below W6.heap.size W6 w' := hd6.mono (by rintro e w' ⟨A, c, he, _, hb⟩; exact ⟨A, c, he, hb⟩)
            clear hf hdl hd6 hV6
            go_wp2_with (go_at_call 11; go_loud (refine hd7.mono ?_))
            intro e W7 h
            obtain ⟨A7, c7, rfl, hb7⟩ := h
            go_wp2
            go_ret
            exact ⟨rfl, below_then HB6.out hb7⟩
          · go_wp2
            go_ret
            exact ⟨rfl, HB6.out⟩
end Go.Proofs.Ytbdbcbpcekpcoaa
