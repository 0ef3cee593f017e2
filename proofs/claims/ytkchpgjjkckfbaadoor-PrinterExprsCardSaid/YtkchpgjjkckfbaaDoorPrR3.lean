/- The document's fields: has an expression just the fields that its Op has? -/
import Derived.Test.YtkchpgjjkckfbaaDoorPrR2
import Derived.Test.YtkchpgjjkckfbaaDoorPrL
import Derived.Test.YtkchpgjjkckfbaaDoorRegS
set_option linter.unusedVariables false
set_option linter.unusedSimpArgs false
namespace Go.Proofs.YtkchpgjjkckfbaaDoor
open Go.RowKit

set_option maxRecDepth 100000 in
set_option maxHeartbeats 1600000 in
theorem fields_1 (A : Option Addr) (n c : Nat) (nm pr : ByteArray) (k : Int) (b : Bool) (nn : Int) (s : ByteArray) (pA : Option Addr) (p : List Int) (pc : Nat) (w : World) (r : Bool)
    (hR : ∀ W, Below w.heap.size w W → Calls Tryd.prog 64 #[.agg #[.int .i64 k, .bool b, .int .i64 nn, .string s, .slice pA p.length pc]] W fun e w' => e = .returned (.bool r) ∧ Below W.heap.size W w') (hkd : ∀ W, Calls Tryd.prog 63 #[.int .i64 1] W fun e w' => e = .returned (.int .i64 n) ∧ W = w') (zn : Bool) (h_zn : zn = decide (nm.size = 0)) (zp : Bool) (h_zp : zp = decide (pr.size = 0)) (z0 : Bool) (h_z0 : z0 = decide (k = 0)) (z3 : Bool) (h_z3 : z3 = decide (k ≤ 3)) (z2 : Bool) (h_z2 : z2 = decide (k = 2)) (zg : Bool) (h_zg : zg = decide (nn < 0)) :
    Calls Tryd.prog 41 #[.agg #[.int .i64 1, .slice A n c, .string nm, .string pr, .int .i64 k, .bool b, .int .i64 nn, .string s, .slice pA p.length pc]] w fun e w' => e = .returned (.bool (zn && (zp && (r && (z3 && !(z2 && zg)))))) ∧ Below w.heap.size w w' := by
  have hlo : ¬ 1 < 1 := by decide
  have hhi : ¬ (26 : Int) < 1 := by decide
  have hln : True := trivial
  cases zn with
  | true =>
    obtain rfl := text_empty (of_decide_eq_true h_zn.symm)
    clear h_zn
    cases zp with
    | true =>
      obtain rfl := text_empty (of_decide_eq_true h_zp.symm)
      clear h_zp
      cases r with
      | true =>
        cases z0 with
        | true =>
          obtain rfl : k = 0 := of_decide_eq_true h_z0.symm
          clear h_z0
          have q3 : z3 = true := h_z3
          have q2 : z2 = false := h_z2
          clear h_zg h_z3 h_z2
          subst q3 q2
          have hx0 : (w.alloc (.cells #[.int .i64 1, .slice A n c, .string ⟨#[]⟩, .string ⟨#[]⟩, .int .i64 0, .bool b, .int .i64 nn, .string s, .slice pA p.length pc] 29)).cell? ⟨w.heap.size, 0, none⟩ = some (.int .i64 1) := by simp [go_sem]
          have hx1 : (w.alloc (.cells #[.int .i64 1, .slice A n c, .string ⟨#[]⟩, .string ⟨#[]⟩, .int .i64 0, .bool b, .int .i64 nn, .string s, .slice pA p.length pc] 29)).cell? ⟨w.heap.size, 1, none⟩ = some (.slice A n c) := by simp [go_sem]
          go_enter Tryd.func41, Tryd.ntmps41
          go_upto_region 1 with (fail)
          refine wp_region_held_drew (S := (fun WW => WW.cell? ⟨w.heap.size, 0, none⟩ = some (.int .i64 1) ∧ WW.cell? ⟨w.heap.size, 1, none⟩ = some (.slice A n c))) (by kernel_rfl) ?_ (fun hHeld => ?_)
          · exact ⟨hx0, hx1⟩
          refine take_in (i := 0) (v := ?v0a) rfl (by kernel_rfl) (by kernel_rfl) (by kernel_rfl) (fun _ _ _ h => h) (by rfl) ?hy0a (by assumption) ?_
          case hy0a => intro WW hSw; (try dsimp only at hSw); go_simp; try with_reducible rfl
          try simp only [Act.put, List.setIfInBounds_toArray, List.set_cons_zero, List.set_cons_succ]
          refine take_in (i := 1) (v := ?v1a) rfl (by kernel_rfl) (by kernel_rfl) (by kernel_rfl) (fun _ _ _ h => h) (by rfl) ?hy1a (by assumption) ?_
          case hy1a => intro WW hSw; have h1 := hSw.1; have h2 := hSw.2; go_simp; try with_reducible rfl
          try simp only [Act.put, List.setIfInBounds_toArray, List.set_cons_zero, List.set_cons_succ]
          refine take_in (i := 2) (v := .bool false) rfl (by kernel_rfl) (by kernel_rfl) (by kernel_rfl) (fun _ _ _ h => h) (by rfl) ?hy2a (by assumption) ?_
          case hy2a => intro WW hSw; have hh := hlo; go_simp; try with_reducible rfl
          try simp only [Act.put, List.setIfInBounds_toArray, List.set_cons_zero, List.set_cons_succ]
          refine take_in (i := 3) (v := ?v3a) rfl (by kernel_rfl) (by kernel_rfl) (by kernel_rfl) (fun _ _ _ h => h) (by rfl) ?hy3a (by assumption) ?_
          case hy3a => intro WW hSw; (try dsimp only at hSw); go_simp; try with_reducible rfl
          try simp only [Act.put, List.setIfInBounds_toArray, List.set_cons_zero, List.set_cons_succ]
          refine take_in (i := 4) (v := ?v4a) rfl (by kernel_rfl) (by kernel_rfl) (by kernel_rfl) (fun _ _ _ h => h) (by rfl) ?hy4a (by assumption) ?_
          case hy4a => intro WW hSw; (try dsimp only at hSw); go_simp; try with_reducible rfl
          try simp only [Act.put, List.setIfInBounds_toArray, List.set_cons_zero, List.set_cons_succ]
          refine take_in (i := 5) (v := ?v5a) rfl (by kernel_rfl) (by kernel_rfl) (by kernel_rfl) (fun _ _ _ h => h) (by rfl) ?hy5a (by assumption) ?_
          case hy5a => intro WW hSw; have h1 := hSw.1; have h2 := hSw.2; go_simp; try with_reducible rfl
          try simp only [Act.put, List.setIfInBounds_toArray, List.set_cons_zero, List.set_cons_succ]
          refine take_in (i := 6) (v := .bool false) rfl (by kernel_rfl) (by kernel_rfl) (by kernel_rfl) (fun _ _ _ h => h) (by rfl) ?hy6a (by assumption) ?_
          case hy6a => intro WW hSw; have hh := hhi; go_simp; try with_reducible rfl
          try simp only [Act.put, List.setIfInBounds_toArray, List.set_cons_zero, List.set_cons_succ]
          refine take_in (i := 7) (v := ?v7a) rfl (by kernel_rfl) (by kernel_rfl) (by kernel_rfl) (fun _ _ _ h => h) (by rfl) ?hy7a (by assumption) ?_
          case hy7a => intro WW hSw; (try dsimp only at hSw); go_simp; try with_reducible rfl
          try simp only [Act.put, List.setIfInBounds_toArray, List.set_cons_zero, List.set_cons_succ]
          refine take_in (i := 8) (v := ?v8a) rfl (by kernel_rfl) (by kernel_rfl) (by kernel_rfl) (fun _ _ _ h => h) (by rfl) ?hy8a (by assumption) ?_
          case hy8a => intro WW hSw; (try dsimp only at hSw); go_simp; try with_reducible rfl
          try simp only [Act.put, List.setIfInBounds_toArray, List.set_cons_zero, List.set_cons_succ]
          refine take_in (i := 9) (v := ?v9a) rfl (by kernel_rfl) (by kernel_rfl) (by kernel_rfl) (fun _ _ _ h => h) (by rfl) ?hy9a (by assumption) ?_
          case hy9a => intro WW hSw; (try dsimp only at hSw); go_simp; try with_reducible rfl
          try simp only [Act.put, List.setIfInBounds_toArray, List.set_cons_zero, List.set_cons_succ]
          refine take_in (i := 10) (v := ?v10a) rfl (by kernel_rfl) (by kernel_rfl) (by kernel_rfl) (fun _ _ _ h => h) (by rfl) ?hy10a (by assumption) ?_
          case hy10a => intro WW hSw; have h1 := hSw.1; have h2 := hSw.2; go_simp; try with_reducible rfl
          try simp only [Act.put, List.setIfInBounds_toArray, List.set_cons_zero, List.set_cons_succ]
          refine take_in (i := 11) (v := ?v11a) rfl (by kernel_rfl) (by kernel_rfl) (by kernel_rfl) (fun _ _ _ h => h) (by rfl) ?hy11a (by assumption) ?_
          case hy11a => intro WW hSw; (try dsimp only at hSw); go_simp; try with_reducible rfl
          try simp only [Act.put, List.setIfInBounds_toArray, List.set_cons_zero, List.set_cons_succ]
          refine take_in (i := 12) (v := ?v12a) rfl (by kernel_rfl) (by kernel_rfl) (by kernel_rfl) (fun _ _ _ h => h) (by rfl) ?hy12a (by assumption) ?_
          case hy12a => intro WW hSw; (try dsimp only at hSw); go_simp; try with_reducible rfl
          try simp only [Act.put, List.setIfInBounds_toArray, List.set_cons_zero, List.set_cons_succ]
          refine take_in (i := 13) (v := ?v13a) rfl (by kernel_rfl) (by kernel_rfl) (by kernel_rfl) (fun _ _ _ h => h) (by rfl) ?hy13a (by assumption) ?_
          case hy13a => intro WW hSw; have h1 := hSw.1; have h2 := hSw.2; go_simp; try with_reducible rfl
          try simp only [Act.put, List.setIfInBounds_toArray, List.set_cons_zero, List.set_cons_succ]
          refine one_step (i := 14) (by kernel_rfl) rfl (fun K hK => ?_)
          go_simp
          go_at_call 63
          refine (hkd _).mono ?_
          rintro e w8 ⟨rfl, rfl⟩
          refine hK.out _ _ ?_ (fun hHeld => ?_)
          · exact ⟨hx0, hx1⟩
          clear hK K
          try simp only [Act.put, List.setIfInBounds_toArray, List.set_cons_zero, List.set_cons_succ]
          refine take_in (i := 15) (v := .bool false) rfl (by kernel_rfl) (by kernel_rfl) (by kernel_rfl) (fun _ _ _ h => h) (by rfl) ?hy15a (by assumption) ?_
          case hy15a => intro WW hSw; have hh := hln; go_simp; try with_reducible rfl
          try simp only [Act.put, List.setIfInBounds_toArray, List.set_cons_zero, List.set_cons_succ]
          refine take_in (i := 16) (v := ?v16a) rfl (by kernel_rfl) (by kernel_rfl) (by kernel_rfl) (fun _ _ _ h => h) (by rfl) ?hy16a (by assumption) ?_
          case hy16a => intro WW hSw; (try dsimp only at hSw); go_simp; try with_reducible rfl
          try simp only [Act.put, List.setIfInBounds_toArray, List.set_cons_zero, List.set_cons_succ]
          refine wpAnyH_done (by kernel_rfl) ?_ _
          clear hx0 hx1
          go_wp2_with (go_at_call 64; refine (hR _ (by repeat (first | exact Below.refl _ _ | assumption | apply below_more | apply below_drew))).mono ?_; rintro e w2 ⟨rfl, hb2⟩; have hbx2 : ∀ i, w2.cell? ⟨w.heap.size, i, none⟩ = (#[.int .i64 1, .slice A n c, .string ⟨#[]⟩, .string ⟨#[]⟩, .int .i64 0, .bool b, .int .i64 nn, .string s, .slice pA p.length pc] : Array Value)[i]? := (fun i => (hb2.cell (p := ⟨w.heap.size, i, none⟩) (by first | omega | (simp; done) | (simp; omega))).trans (by simp [go_sem])); have hbv : ∀ i, w2.cell? ⟨w.heap.size + 1, i, none⟩ = (#[.int .i64 0, .bool b, .int .i64 nn, .string s, .slice pA p.length pc] : Array Value)[i]? := (fun i => (hb2.cell (p := ⟨w.heap.size + 1, i, none⟩) (by first | omega | (simp; done) | (simp; omega))).trans (by simp [go_sem])); have HB2 : Below w.heap.size w w2 := below_then (by repeat (first | exact Below.refl _ _ | assumption | apply below_more | apply below_drew)) hb2; clear hb2)
          go_ret
          exact ⟨by first | rfl | (simp; omega), by repeat (first | exact Below.refl _ _ | assumption | apply below_more | apply below_drew)⟩
        | false =>
          have f_z0 : (k == 0) = false := beq_eq_false_iff_ne.2 (of_decide_eq_false h_z0.symm)
          have g_z0 : ¬ 0 = k := fun e => of_decide_eq_false h_z0.symm e.symm
          have m_z0 : ¬ k = 0 := of_decide_eq_false h_z0.symm
          clear h_z0
          cases z3 with
          | true =>
            have hk3 : k ≤ 3 := of_decide_eq_true h_z3.symm
            have hk3b : ¬ 3 < k := by omega
            clear h_z3
            cases z2 with
            | true =>
              obtain rfl : k = 2 := of_decide_eq_true h_z2.symm
              clear h_z2
              cases zg with
              | true =>
                have hg : nn < 0 := of_decide_eq_true h_zg.symm
                have hgb : ¬ 0 ≤ nn := by omega
                clear h_zg
                have hx0 : (w.alloc (.cells #[.int .i64 1, .slice A n c, .string ⟨#[]⟩, .string ⟨#[]⟩, .int .i64 2, .bool b, .int .i64 nn, .string s, .slice pA p.length pc] 29)).cell? ⟨w.heap.size, 0, none⟩ = some (.int .i64 1) := by simp [go_sem]
                have hx1 : (w.alloc (.cells #[.int .i64 1, .slice A n c, .string ⟨#[]⟩, .string ⟨#[]⟩, .int .i64 2, .bool b, .int .i64 nn, .string s, .slice pA p.length pc] 29)).cell? ⟨w.heap.size, 1, none⟩ = some (.slice A n c) := by simp [go_sem]
                go_enter Tryd.func41, Tryd.ntmps41
                go_upto_region 1 with (fail)
                refine wp_region_held_drew (S := (fun WW => WW.cell? ⟨w.heap.size, 0, none⟩ = some (.int .i64 1) ∧ WW.cell? ⟨w.heap.size, 1, none⟩ = some (.slice A n c))) (by kernel_rfl) ?_ (fun hHeld => ?_)
                · exact ⟨hx0, hx1⟩
                refine take_in (i := 0) (v := ?v0a) rfl (by kernel_rfl) (by kernel_rfl) (by kernel_rfl) (fun _ _ _ h => h) (by rfl) ?hy0a (by assumption) ?_
                case hy0a => intro WW hSw; (try dsimp only at hSw); go_simp; try with_reducible rfl
                try simp only [Act.put, List.setIfInBounds_toArray, List.set_cons_zero, List.set_cons_succ]
                refine take_in (i := 1) (v := ?v1a) rfl (by kernel_rfl) (by kernel_rfl) (by kernel_rfl) (fun _ _ _ h => h) (by rfl) ?hy1a (by assumption) ?_
                case hy1a => intro WW hSw; have h1 := hSw.1; have h2 := hSw.2; go_simp; try with_reducible rfl
                try simp only [Act.put, List.setIfInBounds_toArray, List.set_cons_zero, List.set_cons_succ]
                refine take_in (i := 2) (v := .bool false) rfl (by kernel_rfl) (by kernel_rfl) (by kernel_rfl) (fun _ _ _ h => h) (by rfl) ?hy2a (by assumption) ?_
                case hy2a => intro WW hSw; have hh := hlo; go_simp; try with_reducible rfl
                try simp only [Act.put, List.setIfInBounds_toArray, List.set_cons_zero, List.set_cons_succ]
                refine take_in (i := 3) (v := ?v3a) rfl (by kernel_rfl) (by kernel_rfl) (by kernel_rfl) (fun _ _ _ h => h) (by rfl) ?hy3a (by assumption) ?_
                case hy3a => intro WW hSw; (try dsimp only at hSw); go_simp; try with_reducible rfl
                try simp only [Act.put, List.setIfInBounds_toArray, List.set_cons_zero, List.set_cons_succ]
                refine take_in (i := 4) (v := ?v4a) rfl (by kernel_rfl) (by kernel_rfl) (by kernel_rfl) (fun _ _ _ h => h) (by rfl) ?hy4a (by assumption) ?_
                case hy4a => intro WW hSw; (try dsimp only at hSw); go_simp; try with_reducible rfl
                try simp only [Act.put, List.setIfInBounds_toArray, List.set_cons_zero, List.set_cons_succ]
                refine take_in (i := 5) (v := ?v5a) rfl (by kernel_rfl) (by kernel_rfl) (by kernel_rfl) (fun _ _ _ h => h) (by rfl) ?hy5a (by assumption) ?_
                case hy5a => intro WW hSw; have h1 := hSw.1; have h2 := hSw.2; go_simp; try with_reducible rfl
                try simp only [Act.put, List.setIfInBounds_toArray, List.set_cons_zero, List.set_cons_succ]
                refine take_in (i := 6) (v := .bool false) rfl (by kernel_rfl) (by kernel_rfl) (by kernel_rfl) (fun _ _ _ h => h) (by rfl) ?hy6a (by assumption) ?_
                case hy6a => intro WW hSw; have hh := hhi; go_simp; try with_reducible rfl
                try simp only [Act.put, List.setIfInBounds_toArray, List.set_cons_zero, List.set_cons_succ]
                refine take_in (i := 7) (v := ?v7a) rfl (by kernel_rfl) (by kernel_rfl) (by kernel_rfl) (fun _ _ _ h => h) (by rfl) ?hy7a (by assumption) ?_
                case hy7a => intro WW hSw; (try dsimp only at hSw); go_simp; try with_reducible rfl
                try simp only [Act.put, List.setIfInBounds_toArray, List.set_cons_zero, List.set_cons_succ]
                refine take_in (i := 8) (v := ?v8a) rfl (by kernel_rfl) (by kernel_rfl) (by kernel_rfl) (fun _ _ _ h => h) (by rfl) ?hy8a (by assumption) ?_
                case hy8a => intro WW hSw; (try dsimp only at hSw); go_simp; try with_reducible rfl
                try simp only [Act.put, List.setIfInBounds_toArray, List.set_cons_zero, List.set_cons_succ]
                refine take_in (i := 9) (v := ?v9a) rfl (by kernel_rfl) (by kernel_rfl) (by kernel_rfl) (fun _ _ _ h => h) (by rfl) ?hy9a (by assumption) ?_
                case hy9a => intro WW hSw; (try dsimp only at hSw); go_simp; try with_reducible rfl
                try simp only [Act.put, List.setIfInBounds_toArray, List.set_cons_zero, List.set_cons_succ]
                refine take_in (i := 10) (v := ?v10a) rfl (by kernel_rfl) (by kernel_rfl) (by kernel_rfl) (fun _ _ _ h => h) (by rfl) ?hy10a (by assumption) ?_
                case hy10a => intro WW hSw; have h1 := hSw.1; have h2 := hSw.2; go_simp; try with_reducible rfl
                try simp only [Act.put, List.setIfInBounds_toArray, List.set_cons_zero, List.set_cons_succ]
                refine take_in (i := 11) (v := ?v11a) rfl (by kernel_rfl) (by kernel_rfl) (by kernel_rfl) (fun _ _ _ h => h) (by rfl) ?hy11a (by assumption) ?_
                case hy11a => intro WW hSw; (try dsimp only at hSw); go_simp; try with_reducible rfl
                try simp only [Act.put, List.setIfInBounds_toArray, List.set_cons_zero, List.set_cons_succ]
                refine take_in (i := 12) (v := ?v12a) rfl (by kernel_rfl) (by kernel_rfl) (by kernel_rfl) (fun _ _ _ h => h) (by rfl) ?hy12a (by assumption) ?_
                case hy12a => intro WW hSw; (try dsimp only at hSw); go_simp; try with_reducible rfl
                try simp only [Act.put, List.setIfInBounds_toArray, List.set_cons_zero, List.set_cons_succ]
                refine take_in (i := 13) (v := ?v13a) rfl (by kernel_rfl) (by kernel_rfl) (by kernel_rfl) (fun _ _ _ h => h) (by rfl) ?hy13a (by assumption) ?_
                case hy13a => intro WW hSw; have h1 := hSw.1; have h2 := hSw.2; go_simp; try with_reducible rfl
                try simp only [Act.put, List.setIfInBounds_toArray, List.set_cons_zero, List.set_cons_succ]
                refine one_step (i := 14) (by kernel_rfl) rfl (fun K hK => ?_)
                go_simp
                go_at_call 63
                refine (hkd _).mono ?_
                rintro e w8 ⟨rfl, rfl⟩
                refine hK.out _ _ ?_ (fun hHeld => ?_)
                · exact ⟨hx0, hx1⟩
                clear hK K
                try simp only [Act.put, List.setIfInBounds_toArray, List.set_cons_zero, List.set_cons_succ]
                refine take_in (i := 15) (v := .bool false) rfl (by kernel_rfl) (by kernel_rfl) (by kernel_rfl) (fun _ _ _ h => h) (by rfl) ?hy15a (by assumption) ?_
                case hy15a => intro WW hSw; have hh := hln; go_simp; try with_reducible rfl
                try simp only [Act.put, List.setIfInBounds_toArray, List.set_cons_zero, List.set_cons_succ]
                refine take_in (i := 16) (v := ?v16a) rfl (by kernel_rfl) (by kernel_rfl) (by kernel_rfl) (fun _ _ _ h => h) (by rfl) ?hy16a (by assumption) ?_
                case hy16a => intro WW hSw; (try dsimp only at hSw); go_simp; try with_reducible rfl
                try simp only [Act.put, List.setIfInBounds_toArray, List.set_cons_zero, List.set_cons_succ]
                refine wpAnyH_done (by kernel_rfl) ?_ _
                clear hx0 hx1
                go_wp2_with (go_at_call 64; refine (hR _ (by repeat (first | exact Below.refl _ _ | assumption | apply below_more | apply below_drew))).mono ?_; rintro e w2 ⟨rfl, hb2⟩; have hbx2 : ∀ i, w2.cell? ⟨w.heap.size, i, none⟩ = (#[.int .i64 1, .slice A n c, .string ⟨#[]⟩, .string ⟨#[]⟩, .int .i64 2, .bool b, .int .i64 nn, .string s, .slice pA p.length pc] : Array Value)[i]? := (fun i => (hb2.cell (p := ⟨w.heap.size, i, none⟩) (by first | omega | (simp; done) | (simp; omega))).trans (by simp [go_sem])); have hbv : ∀ i, w2.cell? ⟨w.heap.size + 1, i, none⟩ = (#[.int .i64 2, .bool b, .int .i64 nn, .string s, .slice pA p.length pc] : Array Value)[i]? := (fun i => (hb2.cell (p := ⟨w.heap.size + 1, i, none⟩) (by first | omega | (simp; done) | (simp; omega))).trans (by simp [go_sem])); have HB2 : Below w.heap.size w w2 := below_then (by repeat (first | exact Below.refl _ _ | assumption | apply below_more | apply below_drew)) hb2; clear hb2)
                go_ret
                exact ⟨by first | rfl | (simp; omega), by repeat (first | exact Below.refl _ _ | assumption | apply below_more | apply below_drew)⟩
              | false =>
                have hg : 0 ≤ nn := by have := of_decide_eq_false h_zg.symm; omega
                have hgb : ¬ nn < 0 := by omega
                clear h_zg
                have hx0 : (w.alloc (.cells #[.int .i64 1, .slice A n c, .string ⟨#[]⟩, .string ⟨#[]⟩, .int .i64 2, .bool b, .int .i64 nn, .string s, .slice pA p.length pc] 29)).cell? ⟨w.heap.size, 0, none⟩ = some (.int .i64 1) := by simp [go_sem]
                have hx1 : (w.alloc (.cells #[.int .i64 1, .slice A n c, .string ⟨#[]⟩, .string ⟨#[]⟩, .int .i64 2, .bool b, .int .i64 nn, .string s, .slice pA p.length pc] 29)).cell? ⟨w.heap.size, 1, none⟩ = some (.slice A n c) := by simp [go_sem]
                go_enter Tryd.func41, Tryd.ntmps41
                go_upto_region 1 with (fail)
                refine wp_region_held_drew (S := (fun WW => WW.cell? ⟨w.heap.size, 0, none⟩ = some (.int .i64 1) ∧ WW.cell? ⟨w.heap.size, 1, none⟩ = some (.slice A n c))) (by kernel_rfl) ?_ (fun hHeld => ?_)
                · exact ⟨hx0, hx1⟩
                refine take_in (i := 0) (v := ?v0a) rfl (by kernel_rfl) (by kernel_rfl) (by kernel_rfl) (fun _ _ _ h => h) (by rfl) ?hy0a (by assumption) ?_
                case hy0a => intro WW hSw; (try dsimp only at hSw); go_simp; try with_reducible rfl
                try simp only [Act.put, List.setIfInBounds_toArray, List.set_cons_zero, List.set_cons_succ]
                refine take_in (i := 1) (v := ?v1a) rfl (by kernel_rfl) (by kernel_rfl) (by kernel_rfl) (fun _ _ _ h => h) (by rfl) ?hy1a (by assumption) ?_
                case hy1a => intro WW hSw; have h1 := hSw.1; have h2 := hSw.2; go_simp; try with_reducible rfl
                try simp only [Act.put, List.setIfInBounds_toArray, List.set_cons_zero, List.set_cons_succ]
                refine take_in (i := 2) (v := .bool false) rfl (by kernel_rfl) (by kernel_rfl) (by kernel_rfl) (fun _ _ _ h => h) (by rfl) ?hy2a (by assumption) ?_
                case hy2a => intro WW hSw; have hh := hlo; go_simp; try with_reducible rfl
                try simp only [Act.put, List.setIfInBounds_toArray, List.set_cons_zero, List.set_cons_succ]
                refine take_in (i := 3) (v := ?v3a) rfl (by kernel_rfl) (by kernel_rfl) (by kernel_rfl) (fun _ _ _ h => h) (by rfl) ?hy3a (by assumption) ?_
                case hy3a => intro WW hSw; (try dsimp only at hSw); go_simp; try with_reducible rfl
                try simp only [Act.put, List.setIfInBounds_toArray, List.set_cons_zero, List.set_cons_succ]
                refine take_in (i := 4) (v := ?v4a) rfl (by kernel_rfl) (by kernel_rfl) (by kernel_rfl) (fun _ _ _ h => h) (by rfl) ?hy4a (by assumption) ?_
                case hy4a => intro WW hSw; (try dsimp only at hSw); go_simp; try with_reducible rfl
                try simp only [Act.put, List.setIfInBounds_toArray, List.set_cons_zero, List.set_cons_succ]
                refine take_in (i := 5) (v := ?v5a) rfl (by kernel_rfl) (by kernel_rfl) (by kernel_rfl) (fun _ _ _ h => h) (by rfl) ?hy5a (by assumption) ?_
                case hy5a => intro WW hSw; have h1 := hSw.1; have h2 := hSw.2; go_simp; try with_reducible rfl
                try simp only [Act.put, List.setIfInBounds_toArray, List.set_cons_zero, List.set_cons_succ]
                refine take_in (i := 6) (v := .bool false) rfl (by kernel_rfl) (by kernel_rfl) (by kernel_rfl) (fun _ _ _ h => h) (by rfl) ?hy6a (by assumption) ?_
                case hy6a => intro WW hSw; have hh := hhi; go_simp; try with_reducible rfl
                try simp only [Act.put, List.setIfInBounds_toArray, List.set_cons_zero, List.set_cons_succ]
                refine take_in (i := 7) (v := ?v7a) rfl (by kernel_rfl) (by kernel_rfl) (by kernel_rfl) (fun _ _ _ h => h) (by rfl) ?hy7a (by assumption) ?_
                case hy7a => intro WW hSw; (try dsimp only at hSw); go_simp; try with_reducible rfl
                try simp only [Act.put, List.setIfInBounds_toArray, List.set_cons_zero, List.set_cons_succ]
                refine take_in (i := 8) (v := ?v8a) rfl (by kernel_rfl) (by kernel_rfl) (by kernel_rfl) (fun _ _ _ h => h) (by rfl) ?hy8a (by assumption) ?_
                case hy8a => intro WW hSw; (try dsimp only at hSw); go_simp; try with_reducible rfl
                try simp only [Act.put, List.setIfInBounds_toArray, List.set_cons_zero, List.set_cons_succ]
                refine take_in (i := 9) (v := ?v9a) rfl (by kernel_rfl) (by kernel_rfl) (by kernel_rfl) (fun _ _ _ h => h) (by rfl) ?hy9a (by assumption) ?_
                case hy9a => intro WW hSw; (try dsimp only at hSw); go_simp; try with_reducible rfl
                try simp only [Act.put, List.setIfInBounds_toArray, List.set_cons_zero, List.set_cons_succ]
                refine take_in (i := 10) (v := ?v10a) rfl (by kernel_rfl) (by kernel_rfl) (by kernel_rfl) (fun _ _ _ h => h) (by rfl) ?hy10a (by assumption) ?_
                case hy10a => intro WW hSw; have h1 := hSw.1; have h2 := hSw.2; go_simp; try with_reducible rfl
                try simp only [Act.put, List.setIfInBounds_toArray, List.set_cons_zero, List.set_cons_succ]
                refine take_in (i := 11) (v := ?v11a) rfl (by kernel_rfl) (by kernel_rfl) (by kernel_rfl) (fun _ _ _ h => h) (by rfl) ?hy11a (by assumption) ?_
                case hy11a => intro WW hSw; (try dsimp only at hSw); go_simp; try with_reducible rfl
                try simp only [Act.put, List.setIfInBounds_toArray, List.set_cons_zero, List.set_cons_succ]
                refine take_in (i := 12) (v := ?v12a) rfl (by kernel_rfl) (by kernel_rfl) (by kernel_rfl) (fun _ _ _ h => h) (by rfl) ?hy12a (by assumption) ?_
                case hy12a => intro WW hSw; (try dsimp only at hSw); go_simp; try with_reducible rfl
                try simp only [Act.put, List.setIfInBounds_toArray, List.set_cons_zero, List.set_cons_succ]
                refine take_in (i := 13) (v := ?v13a) rfl (by kernel_rfl) (by kernel_rfl) (by kernel_rfl) (fun _ _ _ h => h) (by rfl) ?hy13a (by assumption) ?_
                case hy13a => intro WW hSw; have h1 := hSw.1; have h2 := hSw.2; go_simp; try with_reducible rfl
                try simp only [Act.put, List.setIfInBounds_toArray, List.set_cons_zero, List.set_cons_succ]
                refine one_step (i := 14) (by kernel_rfl) rfl (fun K hK => ?_)
                go_simp
                go_at_call 63
                refine (hkd _).mono ?_
                rintro e w8 ⟨rfl, rfl⟩
                refine hK.out _ _ ?_ (fun hHeld => ?_)
                · exact ⟨hx0, hx1⟩
                clear hK K
                try simp only [Act.put, List.setIfInBounds_toArray, List.set_cons_zero, List.set_cons_succ]
                refine take_in (i := 15) (v := .bool false) rfl (by kernel_rfl) (by kernel_rfl) (by kernel_rfl) (fun _ _ _ h => h) (by rfl) ?hy15a (by assumption) ?_
                case hy15a => intro WW hSw; have hh := hln; go_simp; try with_reducible rfl
                try simp only [Act.put, List.setIfInBounds_toArray, List.set_cons_zero, List.set_cons_succ]
                refine take_in (i := 16) (v := ?v16a) rfl (by kernel_rfl) (by kernel_rfl) (by kernel_rfl) (fun _ _ _ h => h) (by rfl) ?hy16a (by assumption) ?_
                case hy16a => intro WW hSw; (try dsimp only at hSw); go_simp; try with_reducible rfl
                try simp only [Act.put, List.setIfInBounds_toArray, List.set_cons_zero, List.set_cons_succ]
                refine wpAnyH_done (by kernel_rfl) ?_ _
                clear hx0 hx1
                go_wp2_with (go_at_call 64; refine (hR _ (by repeat (first | exact Below.refl _ _ | assumption | apply below_more | apply below_drew))).mono ?_; rintro e w2 ⟨rfl, hb2⟩; have hbx2 : ∀ i, w2.cell? ⟨w.heap.size, i, none⟩ = (#[.int .i64 1, .slice A n c, .string ⟨#[]⟩, .string ⟨#[]⟩, .int .i64 2, .bool b, .int .i64 nn, .string s, .slice pA p.length pc] : Array Value)[i]? := (fun i => (hb2.cell (p := ⟨w.heap.size, i, none⟩) (by first | omega | (simp; done) | (simp; omega))).trans (by simp [go_sem])); have hbv : ∀ i, w2.cell? ⟨w.heap.size + 1, i, none⟩ = (#[.int .i64 2, .bool b, .int .i64 nn, .string s, .slice pA p.length pc] : Array Value)[i]? := (fun i => (hb2.cell (p := ⟨w.heap.size + 1, i, none⟩) (by first | omega | (simp; done) | (simp; omega))).trans (by simp [go_sem])); have HB2 : Below w.heap.size w w2 := below_then (by repeat (first | exact Below.refl _ _ | assumption | apply below_more | apply below_drew)) hb2; clear hb2)
                go_ret
                exact ⟨by first | rfl | (simp; omega), by repeat (first | exact Below.refl _ _ | assumption | apply below_more | apply below_drew)⟩
            | false =>
              have f_z2 : (k == 2) = false := beq_eq_false_iff_ne.2 (of_decide_eq_false h_z2.symm)
              have g_z2 : ¬ 2 = k := fun e => of_decide_eq_false h_z2.symm e.symm
              have m_z2 : ¬ k = 2 := of_decide_eq_false h_z2.symm
              clear h_z2
              clear h_zg
              have hx0 : (w.alloc (.cells #[.int .i64 1, .slice A n c, .string ⟨#[]⟩, .string ⟨#[]⟩, .int .i64 k, .bool b, .int .i64 nn, .string s, .slice pA p.length pc] 29)).cell? ⟨w.heap.size, 0, none⟩ = some (.int .i64 1) := by simp [go_sem]
              have hx1 : (w.alloc (.cells #[.int .i64 1, .slice A n c, .string ⟨#[]⟩, .string ⟨#[]⟩, .int .i64 k, .bool b, .int .i64 nn, .string s, .slice pA p.length pc] 29)).cell? ⟨w.heap.size, 1, none⟩ = some (.slice A n c) := by simp [go_sem]
              go_enter Tryd.func41, Tryd.ntmps41
              go_upto_region 1 with (fail)
              refine wp_region_held_drew (S := (fun WW => WW.cell? ⟨w.heap.size, 0, none⟩ = some (.int .i64 1) ∧ WW.cell? ⟨w.heap.size, 1, none⟩ = some (.slice A n c))) (by kernel_rfl) ?_ (fun hHeld => ?_)
              · exact ⟨hx0, hx1⟩
              refine take_in (i := 0) (v := ?v0a) rfl (by kernel_rfl) (by kernel_rfl) (by kernel_rfl) (fun _ _ _ h => h) (by rfl) ?hy0a (by assumption) ?_
              case hy0a => intro WW hSw; (try dsimp only at hSw); go_simp; try with_reducible rfl
              try simp only [Act.put, List.setIfInBounds_toArray, List.set_cons_zero, List.set_cons_succ]
              refine take_in (i := 1) (v := ?v1a) rfl (by kernel_rfl) (by kernel_rfl) (by kernel_rfl) (fun _ _ _ h => h) (by rfl) ?hy1a (by assumption) ?_
              case hy1a => intro WW hSw; have h1 := hSw.1; have h2 := hSw.2; go_simp; try with_reducible rfl
              try simp only [Act.put, List.setIfInBounds_toArray, List.set_cons_zero, List.set_cons_succ]
              refine take_in (i := 2) (v := .bool false) rfl (by kernel_rfl) (by kernel_rfl) (by kernel_rfl) (fun _ _ _ h => h) (by rfl) ?hy2a (by assumption) ?_
              case hy2a => intro WW hSw; have hh := hlo; go_simp; try with_reducible rfl
              try simp only [Act.put, List.setIfInBounds_toArray, List.set_cons_zero, List.set_cons_succ]
              refine take_in (i := 3) (v := ?v3a) rfl (by kernel_rfl) (by kernel_rfl) (by kernel_rfl) (fun _ _ _ h => h) (by rfl) ?hy3a (by assumption) ?_
              case hy3a => intro WW hSw; (try dsimp only at hSw); go_simp; try with_reducible rfl
              try simp only [Act.put, List.setIfInBounds_toArray, List.set_cons_zero, List.set_cons_succ]
              refine take_in (i := 4) (v := ?v4a) rfl (by kernel_rfl) (by kernel_rfl) (by kernel_rfl) (fun _ _ _ h => h) (by rfl) ?hy4a (by assumption) ?_
              case hy4a => intro WW hSw; (try dsimp only at hSw); go_simp; try with_reducible rfl
              try simp only [Act.put, List.setIfInBounds_toArray, List.set_cons_zero, List.set_cons_succ]
              refine take_in (i := 5) (v := ?v5a) rfl (by kernel_rfl) (by kernel_rfl) (by kernel_rfl) (fun _ _ _ h => h) (by rfl) ?hy5a (by assumption) ?_
              case hy5a => intro WW hSw; have h1 := hSw.1; have h2 := hSw.2; go_simp; try with_reducible rfl
              try simp only [Act.put, List.setIfInBounds_toArray, List.set_cons_zero, List.set_cons_succ]
              refine take_in (i := 6) (v := .bool false) rfl (by kernel_rfl) (by kernel_rfl) (by kernel_rfl) (fun _ _ _ h => h) (by rfl) ?hy6a (by assumption) ?_
              case hy6a => intro WW hSw; have hh := hhi; go_simp; try with_reducible rfl
              try simp only [Act.put, List.setIfInBounds_toArray, List.set_cons_zero, List.set_cons_succ]
              refine take_in (i := 7) (v := ?v7a) rfl (by kernel_rfl) (by kernel_rfl) (by kernel_rfl) (fun _ _ _ h => h) (by rfl) ?hy7a (by assumption) ?_
              case hy7a => intro WW hSw; (try dsimp only at hSw); go_simp; try with_reducible rfl
              try simp only [Act.put, List.setIfInBounds_toArray, List.set_cons_zero, List.set_cons_succ]
              refine take_in (i := 8) (v := ?v8a) rfl (by kernel_rfl) (by kernel_rfl) (by kernel_rfl) (fun _ _ _ h => h) (by rfl) ?hy8a (by assumption) ?_
              case hy8a => intro WW hSw; (try dsimp only at hSw); go_simp; try with_reducible rfl
              try simp only [Act.put, List.setIfInBounds_toArray, List.set_cons_zero, List.set_cons_succ]
              refine take_in (i := 9) (v := ?v9a) rfl (by kernel_rfl) (by kernel_rfl) (by kernel_rfl) (fun _ _ _ h => h) (by rfl) ?hy9a (by assumption) ?_
              case hy9a => intro WW hSw; (try dsimp only at hSw); go_simp; try with_reducible rfl
              try simp only [Act.put, List.setIfInBounds_toArray, List.set_cons_zero, List.set_cons_succ]
              refine take_in (i := 10) (v := ?v10a) rfl (by kernel_rfl) (by kernel_rfl) (by kernel_rfl) (fun _ _ _ h => h) (by rfl) ?hy10a (by assumption) ?_
              case hy10a => intro WW hSw; have h1 := hSw.1; have h2 := hSw.2; go_simp; try with_reducible rfl
              try simp only [Act.put, List.setIfInBounds_toArray, List.set_cons_zero, List.set_cons_succ]
              refine take_in (i := 11) (v := ?v11a) rfl (by kernel_rfl) (by kernel_rfl) (by kernel_rfl) (fun _ _ _ h => h) (by rfl) ?hy11a (by assumption) ?_
              case hy11a => intro WW hSw; (try dsimp only at hSw); go_simp; try with_reducible rfl
              try simp only [Act.put, List.setIfInBounds_toArray, List.set_cons_zero, List.set_cons_succ]
              refine take_in (i := 12) (v := ?v12a) rfl (by kernel_rfl) (by kernel_rfl) (by kernel_rfl) (fun _ _ _ h => h) (by rfl) ?hy12a (by assumption) ?_
              case hy12a => intro WW hSw; (try dsimp only at hSw); go_simp; try with_reducible rfl
              try simp only [Act.put, List.setIfInBounds_toArray, List.set_cons_zero, List.set_cons_succ]
              refine take_in (i := 13) (v := ?v13a) rfl (by kernel_rfl) (by kernel_rfl) (by kernel_rfl) (fun _ _ _ h => h) (by rfl) ?hy13a (by assumption) ?_
              case hy13a => intro WW hSw; have h1 := hSw.1; have h2 := hSw.2; go_simp; try with_reducible rfl
              try simp only [Act.put, List.setIfInBounds_toArray, List.set_cons_zero, List.set_cons_succ]
              refine one_step (i := 14) (by kernel_rfl) rfl (fun K hK => ?_)
              go_simp
              go_at_call 63
              refine (hkd _).mono ?_
              rintro e w8 ⟨rfl, rfl⟩
              refine hK.out _ _ ?_ (fun hHeld => ?_)
              · exact ⟨hx0, hx1⟩
              clear hK K
              try simp only [Act.put, List.setIfInBounds_toArray, List.set_cons_zero, List.set_cons_succ]
              refine take_in (i := 15) (v := .bool false) rfl (by kernel_rfl) (by kernel_rfl) (by kernel_rfl) (fun _ _ _ h => h) (by rfl) ?hy15a (by assumption) ?_
              case hy15a => intro WW hSw; have hh := hln; go_simp; try with_reducible rfl
              try simp only [Act.put, List.setIfInBounds_toArray, List.set_cons_zero, List.set_cons_succ]
              refine take_in (i := 16) (v := ?v16a) rfl (by kernel_rfl) (by kernel_rfl) (by kernel_rfl) (fun _ _ _ h => h) (by rfl) ?hy16a (by assumption) ?_
              case hy16a => intro WW hSw; (try dsimp only at hSw); go_simp; try with_reducible rfl
              try simp only [Act.put, List.setIfInBounds_toArray, List.set_cons_zero, List.set_cons_succ]
              refine wpAnyH_done (by kernel_rfl) ?_ _
              clear hx0 hx1
              go_wp2_with (go_at_call 64; refine (hR _ (by repeat (first | exact Below.refl _ _ | assumption | apply below_more | apply below_drew))).mono ?_; rintro e w2 ⟨rfl, hb2⟩; have hbx2 : ∀ i, w2.cell? ⟨w.heap.size, i, none⟩ = (#[.int .i64 1, .slice A n c, .string ⟨#[]⟩, .string ⟨#[]⟩, .int .i64 k, .bool b, .int .i64 nn, .string s, .slice pA p.length pc] : Array Value)[i]? := (fun i => (hb2.cell (p := ⟨w.heap.size, i, none⟩) (by first | omega | (simp; done) | (simp; omega))).trans (by simp [go_sem])); have hbv : ∀ i, w2.cell? ⟨w.heap.size + 1, i, none⟩ = (#[.int .i64 k, .bool b, .int .i64 nn, .string s, .slice pA p.length pc] : Array Value)[i]? := (fun i => (hb2.cell (p := ⟨w.heap.size + 1, i, none⟩) (by first | omega | (simp; done) | (simp; omega))).trans (by simp [go_sem])); have HB2 : Below w.heap.size w w2 := below_then (by repeat (first | exact Below.refl _ _ | assumption | apply below_more | apply below_drew)) hb2; clear hb2)
              go_ret
              exact ⟨by first | rfl | (simp; omega), by repeat (first | exact Below.refl _ _ | assumption | apply below_more | apply below_drew)⟩
          | false =>
            have hk3 : 3 < k := by have := of_decide_eq_false h_z3.symm; omega
            clear h_z3
            clear h_zg h_z2
            have hx0 : (w.alloc (.cells #[.int .i64 1, .slice A n c, .string ⟨#[]⟩, .string ⟨#[]⟩, .int .i64 k, .bool b, .int .i64 nn, .string s, .slice pA p.length pc] 29)).cell? ⟨w.heap.size, 0, none⟩ = some (.int .i64 1) := by simp [go_sem]
            have hx1 : (w.alloc (.cells #[.int .i64 1, .slice A n c, .string ⟨#[]⟩, .string ⟨#[]⟩, .int .i64 k, .bool b, .int .i64 nn, .string s, .slice pA p.length pc] 29)).cell? ⟨w.heap.size, 1, none⟩ = some (.slice A n c) := by simp [go_sem]
            go_enter Tryd.func41, Tryd.ntmps41
            go_upto_region 1 with (fail)
            refine wp_region_held_drew (S := (fun WW => WW.cell? ⟨w.heap.size, 0, none⟩ = some (.int .i64 1) ∧ WW.cell? ⟨w.heap.size, 1, none⟩ = some (.slice A n c))) (by kernel_rfl) ?_ (fun hHeld => ?_)
            · exact ⟨hx0, hx1⟩
            refine take_in (i := 0) (v := ?v0a) rfl (by kernel_rfl) (by kernel_rfl) (by kernel_rfl) (fun _ _ _ h => h) (by rfl) ?hy0a (by assumption) ?_
            case hy0a => intro WW hSw; (try dsimp only at hSw); go_simp; try with_reducible rfl
            try simp only [Act.put, List.setIfInBounds_toArray, List.set_cons_zero, List.set_cons_succ]
            refine take_in (i := 1) (v := ?v1a) rfl (by kernel_rfl) (by kernel_rfl) (by kernel_rfl) (fun _ _ _ h => h) (by rfl) ?hy1a (by assumption) ?_
            case hy1a => intro WW hSw; have h1 := hSw.1; have h2 := hSw.2; go_simp; try with_reducible rfl
            try simp only [Act.put, List.setIfInBounds_toArray, List.set_cons_zero, List.set_cons_succ]
            refine take_in (i := 2) (v := .bool false) rfl (by kernel_rfl) (by kernel_rfl) (by kernel_rfl) (fun _ _ _ h => h) (by rfl) ?hy2a (by assumption) ?_
            case hy2a => intro WW hSw; have hh := hlo; go_simp; try with_reducible rfl
            try simp only [Act.put, List.setIfInBounds_toArray, List.set_cons_zero, List.set_cons_succ]
            refine take_in (i := 3) (v := ?v3a) rfl (by kernel_rfl) (by kernel_rfl) (by kernel_rfl) (fun _ _ _ h => h) (by rfl) ?hy3a (by assumption) ?_
            case hy3a => intro WW hSw; (try dsimp only at hSw); go_simp; try with_reducible rfl
            try simp only [Act.put, List.setIfInBounds_toArray, List.set_cons_zero, List.set_cons_succ]
            refine take_in (i := 4) (v := ?v4a) rfl (by kernel_rfl) (by kernel_rfl) (by kernel_rfl) (fun _ _ _ h => h) (by rfl) ?hy4a (by assumption) ?_
            case hy4a => intro WW hSw; (try dsimp only at hSw); go_simp; try with_reducible rfl
            try simp only [Act.put, List.setIfInBounds_toArray, List.set_cons_zero, List.set_cons_succ]
            refine take_in (i := 5) (v := ?v5a) rfl (by kernel_rfl) (by kernel_rfl) (by kernel_rfl) (fun _ _ _ h => h) (by rfl) ?hy5a (by assumption) ?_
            case hy5a => intro WW hSw; have h1 := hSw.1; have h2 := hSw.2; go_simp; try with_reducible rfl
            try simp only [Act.put, List.setIfInBounds_toArray, List.set_cons_zero, List.set_cons_succ]
            refine take_in (i := 6) (v := .bool false) rfl (by kernel_rfl) (by kernel_rfl) (by kernel_rfl) (fun _ _ _ h => h) (by rfl) ?hy6a (by assumption) ?_
            case hy6a => intro WW hSw; have hh := hhi; go_simp; try with_reducible rfl
            try simp only [Act.put, List.setIfInBounds_toArray, List.set_cons_zero, List.set_cons_succ]
            refine take_in (i := 7) (v := ?v7a) rfl (by kernel_rfl) (by kernel_rfl) (by kernel_rfl) (fun _ _ _ h => h) (by rfl) ?hy7a (by assumption) ?_
            case hy7a => intro WW hSw; (try dsimp only at hSw); go_simp; try with_reducible rfl
            try simp only [Act.put, List.setIfInBounds_toArray, List.set_cons_zero, List.set_cons_succ]
            refine take_in (i := 8) (v := ?v8a) rfl (by kernel_rfl) (by kernel_rfl) (by kernel_rfl) (fun _ _ _ h => h) (by rfl) ?hy8a (by assumption) ?_
            case hy8a => intro WW hSw; (try dsimp only at hSw); go_simp; try with_reducible rfl
            try simp only [Act.put, List.setIfInBounds_toArray, List.set_cons_zero, List.set_cons_succ]
            refine take_in (i := 9) (v := ?v9a) rfl (by kernel_rfl) (by kernel_rfl) (by kernel_rfl) (fun _ _ _ h => h) (by rfl) ?hy9a (by assumption) ?_
            case hy9a => intro WW hSw; (try dsimp only at hSw); go_simp; try with_reducible rfl
            try simp only [Act.put, List.setIfInBounds_toArray, List.set_cons_zero, List.set_cons_succ]
            refine take_in (i := 10) (v := ?v10a) rfl (by kernel_rfl) (by kernel_rfl) (by kernel_rfl) (fun _ _ _ h => h) (by rfl) ?hy10a (by assumption) ?_
            case hy10a => intro WW hSw; have h1 := hSw.1; have h2 := hSw.2; go_simp; try with_reducible rfl
            try simp only [Act.put, List.setIfInBounds_toArray, List.set_cons_zero, List.set_cons_succ]
            refine take_in (i := 11) (v := ?v11a) rfl (by kernel_rfl) (by kernel_rfl) (by kernel_rfl) (fun _ _ _ h => h) (by rfl) ?hy11a (by assumption) ?_
            case hy11a => intro WW hSw; (try dsimp only at hSw); go_simp; try with_reducible rfl
            try simp only [Act.put, List.setIfInBounds_toArray, List.set_cons_zero, List.set_cons_succ]
            refine take_in (i := 12) (v := ?v12a) rfl (by kernel_rfl) (by kernel_rfl) (by kernel_rfl) (fun _ _ _ h => h) (by rfl) ?hy12a (by assumption) ?_
            case hy12a => intro WW hSw; (try dsimp only at hSw); go_simp; try with_reducible rfl
            try simp only [Act.put, List.setIfInBounds_toArray, List.set_cons_zero, List.set_cons_succ]
            refine take_in (i := 13) (v := ?v13a) rfl (by kernel_rfl) (by kernel_rfl) (by kernel_rfl) (fun _ _ _ h => h) (by rfl) ?hy13a (by assumption) ?_
            case hy13a => intro WW hSw; have h1 := hSw.1; have h2 := hSw.2; go_simp; try with_reducible rfl
            try simp only [Act.put, List.setIfInBounds_toArray, List.set_cons_zero, List.set_cons_succ]
            refine one_step (i := 14) (by kernel_rfl) rfl (fun K hK => ?_)
            go_simp
            go_at_call 63
            refine (hkd _).mono ?_
            rintro e w8 ⟨rfl, rfl⟩
            refine hK.out _ _ ?_ (fun hHeld => ?_)
            · exact ⟨hx0, hx1⟩
            clear hK K
            try simp only [Act.put, List.setIfInBounds_toArray, List.set_cons_zero, List.set_cons_succ]
            refine take_in (i := 15) (v := .bool false) rfl (by kernel_rfl) (by kernel_rfl) (by kernel_rfl) (fun _ _ _ h => h) (by rfl) ?hy15a (by assumption) ?_
            case hy15a => intro WW hSw; have hh := hln; go_simp; try with_reducible rfl
            try simp only [Act.put, List.setIfInBounds_toArray, List.set_cons_zero, List.set_cons_succ]
            refine take_in (i := 16) (v := ?v16a) rfl (by kernel_rfl) (by kernel_rfl) (by kernel_rfl) (fun _ _ _ h => h) (by rfl) ?hy16a (by assumption) ?_
            case hy16a => intro WW hSw; (try dsimp only at hSw); go_simp; try with_reducible rfl
            try simp only [Act.put, List.setIfInBounds_toArray, List.set_cons_zero, List.set_cons_succ]
            refine wpAnyH_done (by kernel_rfl) ?_ _
            clear hx0 hx1
            go_wp2_with (go_at_call 64; refine (hR _ (by repeat (first | exact Below.refl _ _ | assumption | apply below_more | apply below_drew))).mono ?_; rintro e w2 ⟨rfl, hb2⟩; have hbx2 : ∀ i, w2.cell? ⟨w.heap.size, i, none⟩ = (#[.int .i64 1, .slice A n c, .string ⟨#[]⟩, .string ⟨#[]⟩, .int .i64 k, .bool b, .int .i64 nn, .string s, .slice pA p.length pc] : Array Value)[i]? := (fun i => (hb2.cell (p := ⟨w.heap.size, i, none⟩) (by first | omega | (simp; done) | (simp; omega))).trans (by simp [go_sem])); have hbv : ∀ i, w2.cell? ⟨w.heap.size + 1, i, none⟩ = (#[.int .i64 k, .bool b, .int .i64 nn, .string s, .slice pA p.length pc] : Array Value)[i]? := (fun i => (hb2.cell (p := ⟨w.heap.size + 1, i, none⟩) (by first | omega | (simp; done) | (simp; omega))).trans (by simp [go_sem])); have HB2 : Below w.heap.size w w2 := below_then (by repeat (first | exact Below.refl _ _ | assumption | apply below_more | apply below_drew)) hb2; clear hb2)
            go_ret
            exact ⟨by first | rfl | (simp; omega), by repeat (first | exact Below.refl _ _ | assumption | apply below_more | apply below_drew)⟩
      | false =>
        clear h_zg h_z3 h_z2 h_z0
        have hx0 : (w.alloc (.cells #[.int .i64 1, .slice A n c, .string ⟨#[]⟩, .string ⟨#[]⟩, .int .i64 k, .bool b, .int .i64 nn, .string s, .slice pA p.length pc] 29)).cell? ⟨w.heap.size, 0, none⟩ = some (.int .i64 1) := by simp [go_sem]
        have hx1 : (w.alloc (.cells #[.int .i64 1, .slice A n c, .string ⟨#[]⟩, .string ⟨#[]⟩, .int .i64 k, .bool b, .int .i64 nn, .string s, .slice pA p.length pc] 29)).cell? ⟨w.heap.size, 1, none⟩ = some (.slice A n c) := by simp [go_sem]
        go_enter Tryd.func41, Tryd.ntmps41
        go_upto_region 1 with (fail)
        refine wp_region_held_drew (S := (fun WW => WW.cell? ⟨w.heap.size, 0, none⟩ = some (.int .i64 1) ∧ WW.cell? ⟨w.heap.size, 1, none⟩ = some (.slice A n c))) (by kernel_rfl) ?_ (fun hHeld => ?_)
        · exact ⟨hx0, hx1⟩
        refine take_in (i := 0) (v := ?v0a) rfl (by kernel_rfl) (by kernel_rfl) (by kernel_rfl) (fun _ _ _ h => h) (by rfl) ?hy0a (by assumption) ?_
        case hy0a => intro WW hSw; (try dsimp only at hSw); go_simp; try with_reducible rfl
        try simp only [Act.put, List.setIfInBounds_toArray, List.set_cons_zero, List.set_cons_succ]
        refine take_in (i := 1) (v := ?v1a) rfl (by kernel_rfl) (by kernel_rfl) (by kernel_rfl) (fun _ _ _ h => h) (by rfl) ?hy1a (by assumption) ?_
        case hy1a => intro WW hSw; have h1 := hSw.1; have h2 := hSw.2; go_simp; try with_reducible rfl
        try simp only [Act.put, List.setIfInBounds_toArray, List.set_cons_zero, List.set_cons_succ]
        refine take_in (i := 2) (v := .bool false) rfl (by kernel_rfl) (by kernel_rfl) (by kernel_rfl) (fun _ _ _ h => h) (by rfl) ?hy2a (by assumption) ?_
        case hy2a => intro WW hSw; have hh := hlo; go_simp; try with_reducible rfl
        try simp only [Act.put, List.setIfInBounds_toArray, List.set_cons_zero, List.set_cons_succ]
        refine take_in (i := 3) (v := ?v3a) rfl (by kernel_rfl) (by kernel_rfl) (by kernel_rfl) (fun _ _ _ h => h) (by rfl) ?hy3a (by assumption) ?_
        case hy3a => intro WW hSw; (try dsimp only at hSw); go_simp; try with_reducible rfl
        try simp only [Act.put, List.setIfInBounds_toArray, List.set_cons_zero, List.set_cons_succ]
        refine take_in (i := 4) (v := ?v4a) rfl (by kernel_rfl) (by kernel_rfl) (by kernel_rfl) (fun _ _ _ h => h) (by rfl) ?hy4a (by assumption) ?_
        case hy4a => intro WW hSw; (try dsimp only at hSw); go_simp; try with_reducible rfl
        try simp only [Act.put, List.setIfInBounds_toArray, List.set_cons_zero, List.set_cons_succ]
        refine take_in (i := 5) (v := ?v5a) rfl (by kernel_rfl) (by kernel_rfl) (by kernel_rfl) (fun _ _ _ h => h) (by rfl) ?hy5a (by assumption) ?_
        case hy5a => intro WW hSw; have h1 := hSw.1; have h2 := hSw.2; go_simp; try with_reducible rfl
        try simp only [Act.put, List.setIfInBounds_toArray, List.set_cons_zero, List.set_cons_succ]
        refine take_in (i := 6) (v := .bool false) rfl (by kernel_rfl) (by kernel_rfl) (by kernel_rfl) (fun _ _ _ h => h) (by rfl) ?hy6a (by assumption) ?_
        case hy6a => intro WW hSw; have hh := hhi; go_simp; try with_reducible rfl
        try simp only [Act.put, List.setIfInBounds_toArray, List.set_cons_zero, List.set_cons_succ]
        refine take_in (i := 7) (v := ?v7a) rfl (by kernel_rfl) (by kernel_rfl) (by kernel_rfl) (fun _ _ _ h => h) (by rfl) ?hy7a (by assumption) ?_
        case hy7a => intro WW hSw; (try dsimp only at hSw); go_simp; try with_reducible rfl
        try simp only [Act.put, List.setIfInBounds_toArray, List.set_cons_zero, List.set_cons_succ]
        refine take_in (i := 8) (v := ?v8a) rfl (by kernel_rfl) (by kernel_rfl) (by kernel_rfl) (fun _ _ _ h => h) (by rfl) ?hy8a (by assumption) ?_
        case hy8a => intro WW hSw; (try dsimp only at hSw); go_simp; try with_reducible rfl
        try simp only [Act.put, List.setIfInBounds_toArray, List.set_cons_zero, List.set_cons_succ]
        refine take_in (i := 9) (v := ?v9a) rfl (by kernel_rfl) (by kernel_rfl) (by kernel_rfl) (fun _ _ _ h => h) (by rfl) ?hy9a (by assumption) ?_
        case hy9a => intro WW hSw; (try dsimp only at hSw); go_simp; try with_reducible rfl
        try simp only [Act.put, List.setIfInBounds_toArray, List.set_cons_zero, List.set_cons_succ]
        refine take_in (i := 10) (v := ?v10a) rfl (by kernel_rfl) (by kernel_rfl) (by kernel_rfl) (fun _ _ _ h => h) (by rfl) ?hy10a (by assumption) ?_
        case hy10a => intro WW hSw; have h1 := hSw.1; have h2 := hSw.2; go_simp; try with_reducible rfl
        try simp only [Act.put, List.setIfInBounds_toArray, List.set_cons_zero, List.set_cons_succ]
        refine take_in (i := 11) (v := ?v11a) rfl (by kernel_rfl) (by kernel_rfl) (by kernel_rfl) (fun _ _ _ h => h) (by rfl) ?hy11a (by assumption) ?_
        case hy11a => intro WW hSw; (try dsimp only at hSw); go_simp; try with_reducible rfl
        try simp only [Act.put, List.setIfInBounds_toArray, List.set_cons_zero, List.set_cons_succ]
        refine take_in (i := 12) (v := ?v12a) rfl (by kernel_rfl) (by kernel_rfl) (by kernel_rfl) (fun _ _ _ h => h) (by rfl) ?hy12a (by assumption) ?_
        case hy12a => intro WW hSw; (try dsimp only at hSw); go_simp; try with_reducible rfl
        try simp only [Act.put, List.setIfInBounds_toArray, List.set_cons_zero, List.set_cons_succ]
        refine take_in (i := 13) (v := ?v13a) rfl (by kernel_rfl) (by kernel_rfl) (by kernel_rfl) (fun _ _ _ h => h) (by rfl) ?hy13a (by assumption) ?_
        case hy13a => intro WW hSw; have h1 := hSw.1; have h2 := hSw.2; go_simp; try with_reducible rfl
        try simp only [Act.put, List.setIfInBounds_toArray, List.set_cons_zero, List.set_cons_succ]
        refine one_step (i := 14) (by kernel_rfl) rfl (fun K hK => ?_)
        go_simp
        go_at_call 63
        refine (hkd _).mono ?_
        rintro e w8 ⟨rfl, rfl⟩
        refine hK.out _ _ ?_ (fun hHeld => ?_)
        · exact ⟨hx0, hx1⟩
        clear hK K
        try simp only [Act.put, List.setIfInBounds_toArray, List.set_cons_zero, List.set_cons_succ]
        refine take_in (i := 15) (v := .bool false) rfl (by kernel_rfl) (by kernel_rfl) (by kernel_rfl) (fun _ _ _ h => h) (by rfl) ?hy15a (by assumption) ?_
        case hy15a => intro WW hSw; have hh := hln; go_simp; try with_reducible rfl
        try simp only [Act.put, List.setIfInBounds_toArray, List.set_cons_zero, List.set_cons_succ]
        refine take_in (i := 16) (v := ?v16a) rfl (by kernel_rfl) (by kernel_rfl) (by kernel_rfl) (fun _ _ _ h => h) (by rfl) ?hy16a (by assumption) ?_
        case hy16a => intro WW hSw; (try dsimp only at hSw); go_simp; try with_reducible rfl
        try simp only [Act.put, List.setIfInBounds_toArray, List.set_cons_zero, List.set_cons_succ]
        refine wpAnyH_done (by kernel_rfl) ?_ _
        clear hx0 hx1
        go_wp2_with (go_at_call 64; refine (hR _ (by repeat (first | exact Below.refl _ _ | assumption | apply below_more | apply below_drew))).mono ?_; rintro e w2 ⟨rfl, hb2⟩; have hbx2 : ∀ i, w2.cell? ⟨w.heap.size, i, none⟩ = (#[.int .i64 1, .slice A n c, .string ⟨#[]⟩, .string ⟨#[]⟩, .int .i64 k, .bool b, .int .i64 nn, .string s, .slice pA p.length pc] : Array Value)[i]? := (fun i => (hb2.cell (p := ⟨w.heap.size, i, none⟩) (by first | omega | (simp; done) | (simp; omega))).trans (by simp [go_sem])); have hbv : ∀ i, w2.cell? ⟨w.heap.size + 1, i, none⟩ = (#[.int .i64 k, .bool b, .int .i64 nn, .string s, .slice pA p.length pc] : Array Value)[i]? := (fun i => (hb2.cell (p := ⟨w.heap.size + 1, i, none⟩) (by first | omega | (simp; done) | (simp; omega))).trans (by simp [go_sem])); have HB2 : Below w.heap.size w w2 := below_then (by repeat (first | exact Below.refl _ _ | assumption | apply below_more | apply below_drew)) hb2; clear hb2)
        go_ret
        exact ⟨by first | rfl | (simp; omega), by repeat (first | exact Below.refl _ _ | assumption | apply below_more | apply below_drew)⟩
    | false =>
      obtain ⟨e1_pr, e2_pr, e3_pr⟩ := text_some (of_decide_eq_false h_zp.symm)
      clear h_zp
      clear h_zg h_z3 h_z2 h_z0
      have hx0 : (w.alloc (.cells #[.int .i64 1, .slice A n c, .string ⟨#[]⟩, .string pr, .int .i64 k, .bool b, .int .i64 nn, .string s, .slice pA p.length pc] 29)).cell? ⟨w.heap.size, 0, none⟩ = some (.int .i64 1) := by simp [go_sem]
      have hx1 : (w.alloc (.cells #[.int .i64 1, .slice A n c, .string ⟨#[]⟩, .string pr, .int .i64 k, .bool b, .int .i64 nn, .string s, .slice pA p.length pc] 29)).cell? ⟨w.heap.size, 1, none⟩ = some (.slice A n c) := by simp [go_sem]
      go_enter Tryd.func41, Tryd.ntmps41
      go_upto_region 1 with (fail)
      refine wp_region_held_drew (S := (fun WW => WW.cell? ⟨w.heap.size, 0, none⟩ = some (.int .i64 1) ∧ WW.cell? ⟨w.heap.size, 1, none⟩ = some (.slice A n c))) (by kernel_rfl) ?_ (fun hHeld => ?_)
      · exact ⟨hx0, hx1⟩
      refine take_in (i := 0) (v := ?v0a) rfl (by kernel_rfl) (by kernel_rfl) (by kernel_rfl) (fun _ _ _ h => h) (by rfl) ?hy0a (by assumption) ?_
      case hy0a => intro WW hSw; (try dsimp only at hSw); go_simp; try with_reducible rfl
      try simp only [Act.put, List.setIfInBounds_toArray, List.set_cons_zero, List.set_cons_succ]
      refine take_in (i := 1) (v := ?v1a) rfl (by kernel_rfl) (by kernel_rfl) (by kernel_rfl) (fun _ _ _ h => h) (by rfl) ?hy1a (by assumption) ?_
      case hy1a => intro WW hSw; have h1 := hSw.1; have h2 := hSw.2; go_simp; try with_reducible rfl
      try simp only [Act.put, List.setIfInBounds_toArray, List.set_cons_zero, List.set_cons_succ]
      refine take_in (i := 2) (v := .bool false) rfl (by kernel_rfl) (by kernel_rfl) (by kernel_rfl) (fun _ _ _ h => h) (by rfl) ?hy2a (by assumption) ?_
      case hy2a => intro WW hSw; have hh := hlo; go_simp; try with_reducible rfl
      try simp only [Act.put, List.setIfInBounds_toArray, List.set_cons_zero, List.set_cons_succ]
      refine take_in (i := 3) (v := ?v3a) rfl (by kernel_rfl) (by kernel_rfl) (by kernel_rfl) (fun _ _ _ h => h) (by rfl) ?hy3a (by assumption) ?_
      case hy3a => intro WW hSw; (try dsimp only at hSw); go_simp; try with_reducible rfl
      try simp only [Act.put, List.setIfInBounds_toArray, List.set_cons_zero, List.set_cons_succ]
      refine take_in (i := 4) (v := ?v4a) rfl (by kernel_rfl) (by kernel_rfl) (by kernel_rfl) (fun _ _ _ h => h) (by rfl) ?hy4a (by assumption) ?_
      case hy4a => intro WW hSw; (try dsimp only at hSw); go_simp; try with_reducible rfl
      try simp only [Act.put, List.setIfInBounds_toArray, List.set_cons_zero, List.set_cons_succ]
      refine take_in (i := 5) (v := ?v5a) rfl (by kernel_rfl) (by kernel_rfl) (by kernel_rfl) (fun _ _ _ h => h) (by rfl) ?hy5a (by assumption) ?_
      case hy5a => intro WW hSw; have h1 := hSw.1; have h2 := hSw.2; go_simp; try with_reducible rfl
      try simp only [Act.put, List.setIfInBounds_toArray, List.set_cons_zero, List.set_cons_succ]
      refine take_in (i := 6) (v := .bool false) rfl (by kernel_rfl) (by kernel_rfl) (by kernel_rfl) (fun _ _ _ h => h) (by rfl) ?hy6a (by assumption) ?_
      case hy6a => intro WW hSw; have hh := hhi; go_simp; try with_reducible rfl
      try simp only [Act.put, List.setIfInBounds_toArray, List.set_cons_zero, List.set_cons_succ]
      refine take_in (i := 7) (v := ?v7a) rfl (by kernel_rfl) (by kernel_rfl) (by kernel_rfl) (fun _ _ _ h => h) (by rfl) ?hy7a (by assumption) ?_
      case hy7a => intro WW hSw; (try dsimp only at hSw); go_simp; try with_reducible rfl
      try simp only [Act.put, List.setIfInBounds_toArray, List.set_cons_zero, List.set_cons_succ]
      refine take_in (i := 8) (v := ?v8a) rfl (by kernel_rfl) (by kernel_rfl) (by kernel_rfl) (fun _ _ _ h => h) (by rfl) ?hy8a (by assumption) ?_
      case hy8a => intro WW hSw; (try dsimp only at hSw); go_simp; try with_reducible rfl
      try simp only [Act.put, List.setIfInBounds_toArray, List.set_cons_zero, List.set_cons_succ]
      refine take_in (i := 9) (v := ?v9a) rfl (by kernel_rfl) (by kernel_rfl) (by kernel_rfl) (fun _ _ _ h => h) (by rfl) ?hy9a (by assumption) ?_
      case hy9a => intro WW hSw; (try dsimp only at hSw); go_simp; try with_reducible rfl
      try simp only [Act.put, List.setIfInBounds_toArray, List.set_cons_zero, List.set_cons_succ]
      refine take_in (i := 10) (v := ?v10a) rfl (by kernel_rfl) (by kernel_rfl) (by kernel_rfl) (fun _ _ _ h => h) (by rfl) ?hy10a (by assumption) ?_
      case hy10a => intro WW hSw; have h1 := hSw.1; have h2 := hSw.2; go_simp; try with_reducible rfl
      try simp only [Act.put, List.setIfInBounds_toArray, List.set_cons_zero, List.set_cons_succ]
      refine take_in (i := 11) (v := ?v11a) rfl (by kernel_rfl) (by kernel_rfl) (by kernel_rfl) (fun _ _ _ h => h) (by rfl) ?hy11a (by assumption) ?_
      case hy11a => intro WW hSw; (try dsimp only at hSw); go_simp; try with_reducible rfl
      try simp only [Act.put, List.setIfInBounds_toArray, List.set_cons_zero, List.set_cons_succ]
      refine take_in (i := 12) (v := ?v12a) rfl (by kernel_rfl) (by kernel_rfl) (by kernel_rfl) (fun _ _ _ h => h) (by rfl) ?hy12a (by assumption) ?_
      case hy12a => intro WW hSw; (try dsimp only at hSw); go_simp; try with_reducible rfl
      try simp only [Act.put, List.setIfInBounds_toArray, List.set_cons_zero, List.set_cons_succ]
      refine take_in (i := 13) (v := ?v13a) rfl (by kernel_rfl) (by kernel_rfl) (by kernel_rfl) (fun _ _ _ h => h) (by rfl) ?hy13a (by assumption) ?_
      case hy13a => intro WW hSw; have h1 := hSw.1; have h2 := hSw.2; go_simp; try with_reducible rfl
      try simp only [Act.put, List.setIfInBounds_toArray, List.set_cons_zero, List.set_cons_succ]
      refine one_step (i := 14) (by kernel_rfl) rfl (fun K hK => ?_)
      go_simp
      go_at_call 63
      refine (hkd _).mono ?_
      rintro e w8 ⟨rfl, rfl⟩
      refine hK.out _ _ ?_ (fun hHeld => ?_)
      · exact ⟨hx0, hx1⟩
      clear hK K
      try simp only [Act.put, List.setIfInBounds_toArray, List.set_cons_zero, List.set_cons_succ]
      refine take_in (i := 15) (v := .bool false) rfl (by kernel_rfl) (by kernel_rfl) (by kernel_rfl) (fun _ _ _ h => h) (by rfl) ?hy15a (by assumption) ?_
      case hy15a => intro WW hSw; have hh := hln; go_simp; try with_reducible rfl
      try simp only [Act.put, List.setIfInBounds_toArray, List.set_cons_zero, List.set_cons_succ]
      refine take_in (i := 16) (v := ?v16a) rfl (by kernel_rfl) (by kernel_rfl) (by kernel_rfl) (fun _ _ _ h => h) (by rfl) ?hy16a (by assumption) ?_
      case hy16a => intro WW hSw; (try dsimp only at hSw); go_simp; try with_reducible rfl
      try simp only [Act.put, List.setIfInBounds_toArray, List.set_cons_zero, List.set_cons_succ]
      refine wpAnyH_done (by kernel_rfl) ?_ _
      clear hx0 hx1
      go_wp2
      go_ret
      exact ⟨by first | rfl | (simp; omega), by repeat (first | exact Below.refl _ _ | assumption | apply below_more | apply below_drew)⟩
  | false =>
    obtain ⟨e1_nm, e2_nm, e3_nm⟩ := text_some (of_decide_eq_false h_zn.symm)
    clear h_zn
    clear h_zg h_z3 h_z2 h_z0 h_zp
    have hx0 : (w.alloc (.cells #[.int .i64 1, .slice A n c, .string nm, .string pr, .int .i64 k, .bool b, .int .i64 nn, .string s, .slice pA p.length pc] 29)).cell? ⟨w.heap.size, 0, none⟩ = some (.int .i64 1) := by simp [go_sem]
    have hx1 : (w.alloc (.cells #[.int .i64 1, .slice A n c, .string nm, .string pr, .int .i64 k, .bool b, .int .i64 nn, .string s, .slice pA p.length pc] 29)).cell? ⟨w.heap.size, 1, none⟩ = some (.slice A n c) := by simp [go_sem]
    go_enter Tryd.func41, Tryd.ntmps41
    go_upto_region 1 with (fail)
    refine wp_region_held_drew (S := (fun WW => WW.cell? ⟨w.heap.size, 0, none⟩ = some (.int .i64 1) ∧ WW.cell? ⟨w.heap.size, 1, none⟩ = some (.slice A n c))) (by kernel_rfl) ?_ (fun hHeld => ?_)
    · exact ⟨hx0, hx1⟩
    refine take_in (i := 0) (v := ?v0a) rfl (by kernel_rfl) (by kernel_rfl) (by kernel_rfl) (fun _ _ _ h => h) (by rfl) ?hy0a (by assumption) ?_
    case hy0a => intro WW hSw; (try dsimp only at hSw); go_simp; try with_reducible rfl
    try simp only [Act.put, List.setIfInBounds_toArray, List.set_cons_zero, List.set_cons_succ]
    refine take_in (i := 1) (v := ?v1a) rfl (by kernel_rfl) (by kernel_rfl) (by kernel_rfl) (fun _ _ _ h => h) (by rfl) ?hy1a (by assumption) ?_
    case hy1a => intro WW hSw; have h1 := hSw.1; have h2 := hSw.2; go_simp; try with_reducible rfl
    try simp only [Act.put, List.setIfInBounds_toArray, List.set_cons_zero, List.set_cons_succ]
    refine take_in (i := 2) (v := .bool false) rfl (by kernel_rfl) (by kernel_rfl) (by kernel_rfl) (fun _ _ _ h => h) (by rfl) ?hy2a (by assumption) ?_
    case hy2a => intro WW hSw; have hh := hlo; go_simp; try with_reducible rfl
    try simp only [Act.put, List.setIfInBounds_toArray, List.set_cons_zero, List.set_cons_succ]
    refine take_in (i := 3) (v := ?v3a) rfl (by kernel_rfl) (by kernel_rfl) (by kernel_rfl) (fun _ _ _ h => h) (by rfl) ?hy3a (by assumption) ?_
    case hy3a => intro WW hSw; (try dsimp only at hSw); go_simp; try with_reducible rfl
    try simp only [Act.put, List.setIfInBounds_toArray, List.set_cons_zero, List.set_cons_succ]
    refine take_in (i := 4) (v := ?v4a) rfl (by kernel_rfl) (by kernel_rfl) (by kernel_rfl) (fun _ _ _ h => h) (by rfl) ?hy4a (by assumption) ?_
    case hy4a => intro WW hSw; (try dsimp only at hSw); go_simp; try with_reducible rfl
    try simp only [Act.put, List.setIfInBounds_toArray, List.set_cons_zero, List.set_cons_succ]
    refine take_in (i := 5) (v := ?v5a) rfl (by kernel_rfl) (by kernel_rfl) (by kernel_rfl) (fun _ _ _ h => h) (by rfl) ?hy5a (by assumption) ?_
    case hy5a => intro WW hSw; have h1 := hSw.1; have h2 := hSw.2; go_simp; try with_reducible rfl
    try simp only [Act.put, List.setIfInBounds_toArray, List.set_cons_zero, List.set_cons_succ]
    refine take_in (i := 6) (v := .bool false) rfl (by kernel_rfl) (by kernel_rfl) (by kernel_rfl) (fun _ _ _ h => h) (by rfl) ?hy6a (by assumption) ?_
    case hy6a => intro WW hSw; have hh := hhi; go_simp; try with_reducible rfl
    try simp only [Act.put, List.setIfInBounds_toArray, List.set_cons_zero, List.set_cons_succ]
    refine take_in (i := 7) (v := ?v7a) rfl (by kernel_rfl) (by kernel_rfl) (by kernel_rfl) (fun _ _ _ h => h) (by rfl) ?hy7a (by assumption) ?_
    case hy7a => intro WW hSw; (try dsimp only at hSw); go_simp; try with_reducible rfl
    try simp only [Act.put, List.setIfInBounds_toArray, List.set_cons_zero, List.set_cons_succ]
    refine take_in (i := 8) (v := ?v8a) rfl (by kernel_rfl) (by kernel_rfl) (by kernel_rfl) (fun _ _ _ h => h) (by rfl) ?hy8a (by assumption) ?_
    case hy8a => intro WW hSw; (try dsimp only at hSw); go_simp; try with_reducible rfl
    try simp only [Act.put, List.setIfInBounds_toArray, List.set_cons_zero, List.set_cons_succ]
    refine take_in (i := 9) (v := ?v9a) rfl (by kernel_rfl) (by kernel_rfl) (by kernel_rfl) (fun _ _ _ h => h) (by rfl) ?hy9a (by assumption) ?_
    case hy9a => intro WW hSw; (try dsimp only at hSw); go_simp; try with_reducible rfl
    try simp only [Act.put, List.setIfInBounds_toArray, List.set_cons_zero, List.set_cons_succ]
    refine take_in (i := 10) (v := ?v10a) rfl (by kernel_rfl) (by kernel_rfl) (by kernel_rfl) (fun _ _ _ h => h) (by rfl) ?hy10a (by assumption) ?_
    case hy10a => intro WW hSw; have h1 := hSw.1; have h2 := hSw.2; go_simp; try with_reducible rfl
    try simp only [Act.put, List.setIfInBounds_toArray, List.set_cons_zero, List.set_cons_succ]
    refine take_in (i := 11) (v := ?v11a) rfl (by kernel_rfl) (by kernel_rfl) (by kernel_rfl) (fun _ _ _ h => h) (by rfl) ?hy11a (by assumption) ?_
    case hy11a => intro WW hSw; (try dsimp only at hSw); go_simp; try with_reducible rfl
    try simp only [Act.put, List.setIfInBounds_toArray, List.set_cons_zero, List.set_cons_succ]
    refine take_in (i := 12) (v := ?v12a) rfl (by kernel_rfl) (by kernel_rfl) (by kernel_rfl) (fun _ _ _ h => h) (by rfl) ?hy12a (by assumption) ?_
    case hy12a => intro WW hSw; (try dsimp only at hSw); go_simp; try with_reducible rfl
    try simp only [Act.put, List.setIfInBounds_toArray, List.set_cons_zero, List.set_cons_succ]
    refine take_in (i := 13) (v := ?v13a) rfl (by kernel_rfl) (by kernel_rfl) (by kernel_rfl) (fun _ _ _ h => h) (by rfl) ?hy13a (by assumption) ?_
    case hy13a => intro WW hSw; have h1 := hSw.1; have h2 := hSw.2; go_simp; try with_reducible rfl
    try simp only [Act.put, List.setIfInBounds_toArray, List.set_cons_zero, List.set_cons_succ]
    refine one_step (i := 14) (by kernel_rfl) rfl (fun K hK => ?_)
    go_simp
    go_at_call 63
    refine (hkd _).mono ?_
    rintro e w8 ⟨rfl, rfl⟩
    refine hK.out _ _ ?_ (fun hHeld => ?_)
    · exact ⟨hx0, hx1⟩
    clear hK K
    try simp only [Act.put, List.setIfInBounds_toArray, List.set_cons_zero, List.set_cons_succ]
    refine take_in (i := 15) (v := .bool false) rfl (by kernel_rfl) (by kernel_rfl) (by kernel_rfl) (fun _ _ _ h => h) (by rfl) ?hy15a (by assumption) ?_
    case hy15a => intro WW hSw; have hh := hln; go_simp; try with_reducible rfl
    try simp only [Act.put, List.setIfInBounds_toArray, List.set_cons_zero, List.set_cons_succ]
    refine take_in (i := 16) (v := ?v16a) rfl (by kernel_rfl) (by kernel_rfl) (by kernel_rfl) (fun _ _ _ h => h) (by rfl) ?hy16a (by assumption) ?_
    case hy16a => intro WW hSw; (try dsimp only at hSw); go_simp; try with_reducible rfl
    try simp only [Act.put, List.setIfInBounds_toArray, List.set_cons_zero, List.set_cons_succ]
    refine wpAnyH_done (by kernel_rfl) ?_ _
    clear hx0 hx1
    go_wp2
    go_ret
    exact ⟨by first | rfl | (simp; omega), by repeat (first | exact Below.refl _ _ | assumption | apply below_more | apply below_drew)⟩
set_option maxRecDepth 100000 in
set_option maxHeartbeats 1600000 in
theorem fields_2 (A : Option Addr) (n c : Nat) (nm pr : ByteArray) (k : Int) (b : Bool) (nn : Int) (s : ByteArray) (pA : Option Addr) (p : List Int) (pc : Nat) (w : World) (r : Bool)
    (hR : ∀ W, Below w.heap.size w W → Calls Tryd.prog 64 #[.agg #[.int .i64 k, .bool b, .int .i64 nn, .string s, .slice pA p.length pc]] W fun e w' => e = .returned (.bool r) ∧ Below W.heap.size W w') (hkd : ∀ W, Calls Tryd.prog 63 #[.int .i64 2] W fun e w' => e = .returned (.int .i64 n) ∧ W = w') (z0 : Bool) (h_z0 : z0 = decide (k = 0)) (zp : Bool) (h_zp : zp = decide (pr.size = 0)) :
    Calls Tryd.prog 41 #[.agg #[.int .i64 2, .slice A n c, .string nm, .string pr, .int .i64 k, .bool b, .int .i64 nn, .string s, .slice pA p.length pc]] w fun e w' => e = .returned (.bool (r && (z0 && zp))) ∧ Below w.heap.size w w' := by
  have hlo : ¬ 2 < 1 := by decide
  have hhi : ¬ (26 : Int) < 2 := by decide
  have hln : True := trivial
  cases zp with
  | true =>
    obtain rfl := text_empty (of_decide_eq_true h_zp.symm)
    clear h_zp
    cases r with
    | true =>
      cases z0 with
      | true =>
        obtain rfl : k = 0 := of_decide_eq_true h_z0.symm
        clear h_z0
        have hx0 : (w.alloc (.cells #[.int .i64 2, .slice A n c, .string nm, .string ⟨#[]⟩, .int .i64 0, .bool b, .int .i64 nn, .string s, .slice pA p.length pc] 29)).cell? ⟨w.heap.size, 0, none⟩ = some (.int .i64 2) := by simp [go_sem]
        have hx1 : (w.alloc (.cells #[.int .i64 2, .slice A n c, .string nm, .string ⟨#[]⟩, .int .i64 0, .bool b, .int .i64 nn, .string s, .slice pA p.length pc] 29)).cell? ⟨w.heap.size, 1, none⟩ = some (.slice A n c) := by simp [go_sem]
        go_enter Tryd.func41, Tryd.ntmps41
        go_upto_region 1 with (fail)
        refine wp_region_held_drew (S := (fun WW => WW.cell? ⟨w.heap.size, 0, none⟩ = some (.int .i64 2) ∧ WW.cell? ⟨w.heap.size, 1, none⟩ = some (.slice A n c))) (by kernel_rfl) ?_ (fun hHeld => ?_)
        · exact ⟨hx0, hx1⟩
        refine take_in (i := 0) (v := ?v0a) rfl (by kernel_rfl) (by kernel_rfl) (by kernel_rfl) (fun _ _ _ h => h) (by rfl) ?hy0a (by assumption) ?_
        case hy0a => intro WW hSw; (try dsimp only at hSw); go_simp; try with_reducible rfl
        try simp only [Act.put, List.setIfInBounds_toArray, List.set_cons_zero, List.set_cons_succ]
        refine take_in (i := 1) (v := ?v1a) rfl (by kernel_rfl) (by kernel_rfl) (by kernel_rfl) (fun _ _ _ h => h) (by rfl) ?hy1a (by assumption) ?_
        case hy1a => intro WW hSw; have h1 := hSw.1; have h2 := hSw.2; go_simp; try with_reducible rfl
        try simp only [Act.put, List.setIfInBounds_toArray, List.set_cons_zero, List.set_cons_succ]
        refine take_in (i := 2) (v := .bool false) rfl (by kernel_rfl) (by kernel_rfl) (by kernel_rfl) (fun _ _ _ h => h) (by rfl) ?hy2a (by assumption) ?_
        case hy2a => intro WW hSw; have hh := hlo; go_simp; try with_reducible rfl
        try simp only [Act.put, List.setIfInBounds_toArray, List.set_cons_zero, List.set_cons_succ]
        refine take_in (i := 3) (v := ?v3a) rfl (by kernel_rfl) (by kernel_rfl) (by kernel_rfl) (fun _ _ _ h => h) (by rfl) ?hy3a (by assumption) ?_
        case hy3a => intro WW hSw; (try dsimp only at hSw); go_simp; try with_reducible rfl
        try simp only [Act.put, List.setIfInBounds_toArray, List.set_cons_zero, List.set_cons_succ]
        refine take_in (i := 4) (v := ?v4a) rfl (by kernel_rfl) (by kernel_rfl) (by kernel_rfl) (fun _ _ _ h => h) (by rfl) ?hy4a (by assumption) ?_
        case hy4a => intro WW hSw; (try dsimp only at hSw); go_simp; try with_reducible rfl
        try simp only [Act.put, List.setIfInBounds_toArray, List.set_cons_zero, List.set_cons_succ]
        refine take_in (i := 5) (v := ?v5a) rfl (by kernel_rfl) (by kernel_rfl) (by kernel_rfl) (fun _ _ _ h => h) (by rfl) ?hy5a (by assumption) ?_
        case hy5a => intro WW hSw; have h1 := hSw.1; have h2 := hSw.2; go_simp; try with_reducible rfl
        try simp only [Act.put, List.setIfInBounds_toArray, List.set_cons_zero, List.set_cons_succ]
        refine take_in (i := 6) (v := .bool false) rfl (by kernel_rfl) (by kernel_rfl) (by kernel_rfl) (fun _ _ _ h => h) (by rfl) ?hy6a (by assumption) ?_
        case hy6a => intro WW hSw; have hh := hhi; go_simp; try with_reducible rfl
        try simp only [Act.put, List.setIfInBounds_toArray, List.set_cons_zero, List.set_cons_succ]
        refine take_in (i := 7) (v := ?v7a) rfl (by kernel_rfl) (by kernel_rfl) (by kernel_rfl) (fun _ _ _ h => h) (by rfl) ?hy7a (by assumption) ?_
        case hy7a => intro WW hSw; (try dsimp only at hSw); go_simp; try with_reducible rfl
        try simp only [Act.put, List.setIfInBounds_toArray, List.set_cons_zero, List.set_cons_succ]
        refine take_in (i := 8) (v := ?v8a) rfl (by kernel_rfl) (by kernel_rfl) (by kernel_rfl) (fun _ _ _ h => h) (by rfl) ?hy8a (by assumption) ?_
        case hy8a => intro WW hSw; (try dsimp only at hSw); go_simp; try with_reducible rfl
        try simp only [Act.put, List.setIfInBounds_toArray, List.set_cons_zero, List.set_cons_succ]
        refine take_in (i := 9) (v := ?v9a) rfl (by kernel_rfl) (by kernel_rfl) (by kernel_rfl) (fun _ _ _ h => h) (by rfl) ?hy9a (by assumption) ?_
        case hy9a => intro WW hSw; (try dsimp only at hSw); go_simp; try with_reducible rfl
        try simp only [Act.put, List.setIfInBounds_toArray, List.set_cons_zero, List.set_cons_succ]
        refine take_in (i := 10) (v := ?v10a) rfl (by kernel_rfl) (by kernel_rfl) (by kernel_rfl) (fun _ _ _ h => h) (by rfl) ?hy10a (by assumption) ?_
        case hy10a => intro WW hSw; have h1 := hSw.1; have h2 := hSw.2; go_simp; try with_reducible rfl
        try simp only [Act.put, List.setIfInBounds_toArray, List.set_cons_zero, List.set_cons_succ]
        refine take_in (i := 11) (v := ?v11a) rfl (by kernel_rfl) (by kernel_rfl) (by kernel_rfl) (fun _ _ _ h => h) (by rfl) ?hy11a (by assumption) ?_
        case hy11a => intro WW hSw; (try dsimp only at hSw); go_simp; try with_reducible rfl
        try simp only [Act.put, List.setIfInBounds_toArray, List.set_cons_zero, List.set_cons_succ]
        refine take_in (i := 12) (v := ?v12a) rfl (by kernel_rfl) (by kernel_rfl) (by kernel_rfl) (fun _ _ _ h => h) (by rfl) ?hy12a (by assumption) ?_
        case hy12a => intro WW hSw; (try dsimp only at hSw); go_simp; try with_reducible rfl
        try simp only [Act.put, List.setIfInBounds_toArray, List.set_cons_zero, List.set_cons_succ]
        refine take_in (i := 13) (v := ?v13a) rfl (by kernel_rfl) (by kernel_rfl) (by kernel_rfl) (fun _ _ _ h => h) (by rfl) ?hy13a (by assumption) ?_
        case hy13a => intro WW hSw; have h1 := hSw.1; have h2 := hSw.2; go_simp; try with_reducible rfl
        try simp only [Act.put, List.setIfInBounds_toArray, List.set_cons_zero, List.set_cons_succ]
        refine one_step (i := 14) (by kernel_rfl) rfl (fun K hK => ?_)
        go_simp
        go_at_call 63
        refine (hkd _).mono ?_
        rintro e w8 ⟨rfl, rfl⟩
        refine hK.out _ _ ?_ (fun hHeld => ?_)
        · exact ⟨hx0, hx1⟩
        clear hK K
        try simp only [Act.put, List.setIfInBounds_toArray, List.set_cons_zero, List.set_cons_succ]
        refine take_in (i := 15) (v := .bool false) rfl (by kernel_rfl) (by kernel_rfl) (by kernel_rfl) (fun _ _ _ h => h) (by rfl) ?hy15a (by assumption) ?_
        case hy15a => intro WW hSw; have hh := hln; go_simp; try with_reducible rfl
        try simp only [Act.put, List.setIfInBounds_toArray, List.set_cons_zero, List.set_cons_succ]
        refine take_in (i := 16) (v := ?v16a) rfl (by kernel_rfl) (by kernel_rfl) (by kernel_rfl) (fun _ _ _ h => h) (by rfl) ?hy16a (by assumption) ?_
        case hy16a => intro WW hSw; (try dsimp only at hSw); go_simp; try with_reducible rfl
        try simp only [Act.put, List.setIfInBounds_toArray, List.set_cons_zero, List.set_cons_succ]
        refine wpAnyH_done (by kernel_rfl) ?_ _
        clear hx0 hx1
        go_wp2_with (go_at_call 64; refine (hR _ (by repeat (first | exact Below.refl _ _ | assumption | apply below_more | apply below_drew))).mono ?_; rintro e w2 ⟨rfl, hb2⟩; have hbx2 : ∀ i, w2.cell? ⟨w.heap.size, i, none⟩ = (#[.int .i64 2, .slice A n c, .string nm, .string ⟨#[]⟩, .int .i64 0, .bool b, .int .i64 nn, .string s, .slice pA p.length pc] : Array Value)[i]? := (fun i => (hb2.cell (p := ⟨w.heap.size, i, none⟩) (by first | omega | (simp; done) | (simp; omega))).trans (by simp [go_sem])); have hbv : ∀ i, w2.cell? ⟨w.heap.size + 1, i, none⟩ = (#[.int .i64 0, .bool b, .int .i64 nn, .string s, .slice pA p.length pc] : Array Value)[i]? := (fun i => (hb2.cell (p := ⟨w.heap.size + 1, i, none⟩) (by first | omega | (simp; done) | (simp; omega))).trans (by simp [go_sem])); have HB2 : Below w.heap.size w w2 := below_then (by repeat (first | exact Below.refl _ _ | assumption | apply below_more | apply below_drew)) hb2; clear hb2)
        go_ret
        exact ⟨by first | rfl | (simp; omega), by repeat (first | exact Below.refl _ _ | assumption | apply below_more | apply below_drew)⟩
      | false =>
        have f_z0 : (k == 0) = false := beq_eq_false_iff_ne.2 (of_decide_eq_false h_z0.symm)
        have g_z0 : ¬ 0 = k := fun e => of_decide_eq_false h_z0.symm e.symm
        have m_z0 : ¬ k = 0 := of_decide_eq_false h_z0.symm
        clear h_z0
        have hx0 : (w.alloc (.cells #[.int .i64 2, .slice A n c, .string nm, .string ⟨#[]⟩, .int .i64 k, .bool b, .int .i64 nn, .string s, .slice pA p.length pc] 29)).cell? ⟨w.heap.size, 0, none⟩ = some (.int .i64 2) := by simp [go_sem]
        have hx1 : (w.alloc (.cells #[.int .i64 2, .slice A n c, .string nm, .string ⟨#[]⟩, .int .i64 k, .bool b, .int .i64 nn, .string s, .slice pA p.length pc] 29)).cell? ⟨w.heap.size, 1, none⟩ = some (.slice A n c) := by simp [go_sem]
        go_enter Tryd.func41, Tryd.ntmps41
        go_upto_region 1 with (fail)
        refine wp_region_held_drew (S := (fun WW => WW.cell? ⟨w.heap.size, 0, none⟩ = some (.int .i64 2) ∧ WW.cell? ⟨w.heap.size, 1, none⟩ = some (.slice A n c))) (by kernel_rfl) ?_ (fun hHeld => ?_)
        · exact ⟨hx0, hx1⟩
        refine take_in (i := 0) (v := ?v0a) rfl (by kernel_rfl) (by kernel_rfl) (by kernel_rfl) (fun _ _ _ h => h) (by rfl) ?hy0a (by assumption) ?_
        case hy0a => intro WW hSw; (try dsimp only at hSw); go_simp; try with_reducible rfl
        try simp only [Act.put, List.setIfInBounds_toArray, List.set_cons_zero, List.set_cons_succ]
        refine take_in (i := 1) (v := ?v1a) rfl (by kernel_rfl) (by kernel_rfl) (by kernel_rfl) (fun _ _ _ h => h) (by rfl) ?hy1a (by assumption) ?_
        case hy1a => intro WW hSw; have h1 := hSw.1; have h2 := hSw.2; go_simp; try with_reducible rfl
        try simp only [Act.put, List.setIfInBounds_toArray, List.set_cons_zero, List.set_cons_succ]
        refine take_in (i := 2) (v := .bool false) rfl (by kernel_rfl) (by kernel_rfl) (by kernel_rfl) (fun _ _ _ h => h) (by rfl) ?hy2a (by assumption) ?_
        case hy2a => intro WW hSw; have hh := hlo; go_simp; try with_reducible rfl
        try simp only [Act.put, List.setIfInBounds_toArray, List.set_cons_zero, List.set_cons_succ]
        refine take_in (i := 3) (v := ?v3a) rfl (by kernel_rfl) (by kernel_rfl) (by kernel_rfl) (fun _ _ _ h => h) (by rfl) ?hy3a (by assumption) ?_
        case hy3a => intro WW hSw; (try dsimp only at hSw); go_simp; try with_reducible rfl
        try simp only [Act.put, List.setIfInBounds_toArray, List.set_cons_zero, List.set_cons_succ]
        refine take_in (i := 4) (v := ?v4a) rfl (by kernel_rfl) (by kernel_rfl) (by kernel_rfl) (fun _ _ _ h => h) (by rfl) ?hy4a (by assumption) ?_
        case hy4a => intro WW hSw; (try dsimp only at hSw); go_simp; try with_reducible rfl
        try simp only [Act.put, List.setIfInBounds_toArray, List.set_cons_zero, List.set_cons_succ]
        refine take_in (i := 5) (v := ?v5a) rfl (by kernel_rfl) (by kernel_rfl) (by kernel_rfl) (fun _ _ _ h => h) (by rfl) ?hy5a (by assumption) ?_
        case hy5a => intro WW hSw; have h1 := hSw.1; have h2 := hSw.2; go_simp; try with_reducible rfl
        try simp only [Act.put, List.setIfInBounds_toArray, List.set_cons_zero, List.set_cons_succ]
        refine take_in (i := 6) (v := .bool false) rfl (by kernel_rfl) (by kernel_rfl) (by kernel_rfl) (fun _ _ _ h => h) (by rfl) ?hy6a (by assumption) ?_
        case hy6a => intro WW hSw; have hh := hhi; go_simp; try with_reducible rfl
        try simp only [Act.put, List.setIfInBounds_toArray, List.set_cons_zero, List.set_cons_succ]
        refine take_in (i := 7) (v := ?v7a) rfl (by kernel_rfl) (by kernel_rfl) (by kernel_rfl) (fun _ _ _ h => h) (by rfl) ?hy7a (by assumption) ?_
        case hy7a => intro WW hSw; (try dsimp only at hSw); go_simp; try with_reducible rfl
        try simp only [Act.put, List.setIfInBounds_toArray, List.set_cons_zero, List.set_cons_succ]
        refine take_in (i := 8) (v := ?v8a) rfl (by kernel_rfl) (by kernel_rfl) (by kernel_rfl) (fun _ _ _ h => h) (by rfl) ?hy8a (by assumption) ?_
        case hy8a => intro WW hSw; (try dsimp only at hSw); go_simp; try with_reducible rfl
        try simp only [Act.put, List.setIfInBounds_toArray, List.set_cons_zero, List.set_cons_succ]
        refine take_in (i := 9) (v := ?v9a) rfl (by kernel_rfl) (by kernel_rfl) (by kernel_rfl) (fun _ _ _ h => h) (by rfl) ?hy9a (by assumption) ?_
        case hy9a => intro WW hSw; (try dsimp only at hSw); go_simp; try with_reducible rfl
        try simp only [Act.put, List.setIfInBounds_toArray, List.set_cons_zero, List.set_cons_succ]
        refine take_in (i := 10) (v := ?v10a) rfl (by kernel_rfl) (by kernel_rfl) (by kernel_rfl) (fun _ _ _ h => h) (by rfl) ?hy10a (by assumption) ?_
        case hy10a => intro WW hSw; have h1 := hSw.1; have h2 := hSw.2; go_simp; try with_reducible rfl
        try simp only [Act.put, List.setIfInBounds_toArray, List.set_cons_zero, List.set_cons_succ]
        refine take_in (i := 11) (v := ?v11a) rfl (by kernel_rfl) (by kernel_rfl) (by kernel_rfl) (fun _ _ _ h => h) (by rfl) ?hy11a (by assumption) ?_
        case hy11a => intro WW hSw; (try dsimp only at hSw); go_simp; try with_reducible rfl
        try simp only [Act.put, List.setIfInBounds_toArray, List.set_cons_zero, List.set_cons_succ]
        refine take_in (i := 12) (v := ?v12a) rfl (by kernel_rfl) (by kernel_rfl) (by kernel_rfl) (fun _ _ _ h => h) (by rfl) ?hy12a (by assumption) ?_
        case hy12a => intro WW hSw; (try dsimp only at hSw); go_simp; try with_reducible rfl
        try simp only [Act.put, List.setIfInBounds_toArray, List.set_cons_zero, List.set_cons_succ]
        refine take_in (i := 13) (v := ?v13a) rfl (by kernel_rfl) (by kernel_rfl) (by kernel_rfl) (fun _ _ _ h => h) (by rfl) ?hy13a (by assumption) ?_
        case hy13a => intro WW hSw; have h1 := hSw.1; have h2 := hSw.2; go_simp; try with_reducible rfl
        try simp only [Act.put, List.setIfInBounds_toArray, List.set_cons_zero, List.set_cons_succ]
        refine one_step (i := 14) (by kernel_rfl) rfl (fun K hK => ?_)
        go_simp
        go_at_call 63
        refine (hkd _).mono ?_
        rintro e w8 ⟨rfl, rfl⟩
        refine hK.out _ _ ?_ (fun hHeld => ?_)
        · exact ⟨hx0, hx1⟩
        clear hK K
        try simp only [Act.put, List.setIfInBounds_toArray, List.set_cons_zero, List.set_cons_succ]
        refine take_in (i := 15) (v := .bool false) rfl (by kernel_rfl) (by kernel_rfl) (by kernel_rfl) (fun _ _ _ h => h) (by rfl) ?hy15a (by assumption) ?_
        case hy15a => intro WW hSw; have hh := hln; go_simp; try with_reducible rfl
        try simp only [Act.put, List.setIfInBounds_toArray, List.set_cons_zero, List.set_cons_succ]
        refine take_in (i := 16) (v := ?v16a) rfl (by kernel_rfl) (by kernel_rfl) (by kernel_rfl) (fun _ _ _ h => h) (by rfl) ?hy16a (by assumption) ?_
        case hy16a => intro WW hSw; (try dsimp only at hSw); go_simp; try with_reducible rfl
        try simp only [Act.put, List.setIfInBounds_toArray, List.set_cons_zero, List.set_cons_succ]
        refine wpAnyH_done (by kernel_rfl) ?_ _
        clear hx0 hx1
        go_wp2_with (go_at_call 64; refine (hR _ (by repeat (first | exact Below.refl _ _ | assumption | apply below_more | apply below_drew))).mono ?_; rintro e w2 ⟨rfl, hb2⟩; have hbx2 : ∀ i, w2.cell? ⟨w.heap.size, i, none⟩ = (#[.int .i64 2, .slice A n c, .string nm, .string ⟨#[]⟩, .int .i64 k, .bool b, .int .i64 nn, .string s, .slice pA p.length pc] : Array Value)[i]? := (fun i => (hb2.cell (p := ⟨w.heap.size, i, none⟩) (by first | omega | (simp; done) | (simp; omega))).trans (by simp [go_sem])); have hbv : ∀ i, w2.cell? ⟨w.heap.size + 1, i, none⟩ = (#[.int .i64 k, .bool b, .int .i64 nn, .string s, .slice pA p.length pc] : Array Value)[i]? := (fun i => (hb2.cell (p := ⟨w.heap.size + 1, i, none⟩) (by first | omega | (simp; done) | (simp; omega))).trans (by simp [go_sem])); have HB2 : Below w.heap.size w w2 := below_then (by repeat (first | exact Below.refl _ _ | assumption | apply below_more | apply below_drew)) hb2; clear hb2)
        go_ret
        exact ⟨by first | rfl | (simp; omega), by repeat (first | exact Below.refl _ _ | assumption | apply below_more | apply below_drew)⟩
    | false =>
      clear h_z0
      have hx0 : (w.alloc (.cells #[.int .i64 2, .slice A n c, .string nm, .string ⟨#[]⟩, .int .i64 k, .bool b, .int .i64 nn, .string s, .slice pA p.length pc] 29)).cell? ⟨w.heap.size, 0, none⟩ = some (.int .i64 2) := by simp [go_sem]
      have hx1 : (w.alloc (.cells #[.int .i64 2, .slice A n c, .string nm, .string ⟨#[]⟩, .int .i64 k, .bool b, .int .i64 nn, .string s, .slice pA p.length pc] 29)).cell? ⟨w.heap.size, 1, none⟩ = some (.slice A n c) := by simp [go_sem]
      go_enter Tryd.func41, Tryd.ntmps41
      go_upto_region 1 with (fail)
      refine wp_region_held_drew (S := (fun WW => WW.cell? ⟨w.heap.size, 0, none⟩ = some (.int .i64 2) ∧ WW.cell? ⟨w.heap.size, 1, none⟩ = some (.slice A n c))) (by kernel_rfl) ?_ (fun hHeld => ?_)
      · exact ⟨hx0, hx1⟩
      refine take_in (i := 0) (v := ?v0a) rfl (by kernel_rfl) (by kernel_rfl) (by kernel_rfl) (fun _ _ _ h => h) (by rfl) ?hy0a (by assumption) ?_
      case hy0a => intro WW hSw; (try dsimp only at hSw); go_simp; try with_reducible rfl
      try simp only [Act.put, List.setIfInBounds_toArray, List.set_cons_zero, List.set_cons_succ]
      refine take_in (i := 1) (v := ?v1a) rfl (by kernel_rfl) (by kernel_rfl) (by kernel_rfl) (fun _ _ _ h => h) (by rfl) ?hy1a (by assumption) ?_
      case hy1a => intro WW hSw; have h1 := hSw.1; have h2 := hSw.2; go_simp; try with_reducible rfl
      try simp only [Act.put, List.setIfInBounds_toArray, List.set_cons_zero, List.set_cons_succ]
      refine take_in (i := 2) (v := .bool false) rfl (by kernel_rfl) (by kernel_rfl) (by kernel_rfl) (fun _ _ _ h => h) (by rfl) ?hy2a (by assumption) ?_
      case hy2a => intro WW hSw; have hh := hlo; go_simp; try with_reducible rfl
      try simp only [Act.put, List.setIfInBounds_toArray, List.set_cons_zero, List.set_cons_succ]
      refine take_in (i := 3) (v := ?v3a) rfl (by kernel_rfl) (by kernel_rfl) (by kernel_rfl) (fun _ _ _ h => h) (by rfl) ?hy3a (by assumption) ?_
      case hy3a => intro WW hSw; (try dsimp only at hSw); go_simp; try with_reducible rfl
      try simp only [Act.put, List.setIfInBounds_toArray, List.set_cons_zero, List.set_cons_succ]
      refine take_in (i := 4) (v := ?v4a) rfl (by kernel_rfl) (by kernel_rfl) (by kernel_rfl) (fun _ _ _ h => h) (by rfl) ?hy4a (by assumption) ?_
      case hy4a => intro WW hSw; (try dsimp only at hSw); go_simp; try with_reducible rfl
      try simp only [Act.put, List.setIfInBounds_toArray, List.set_cons_zero, List.set_cons_succ]
      refine take_in (i := 5) (v := ?v5a) rfl (by kernel_rfl) (by kernel_rfl) (by kernel_rfl) (fun _ _ _ h => h) (by rfl) ?hy5a (by assumption) ?_
      case hy5a => intro WW hSw; have h1 := hSw.1; have h2 := hSw.2; go_simp; try with_reducible rfl
      try simp only [Act.put, List.setIfInBounds_toArray, List.set_cons_zero, List.set_cons_succ]
      refine take_in (i := 6) (v := .bool false) rfl (by kernel_rfl) (by kernel_rfl) (by kernel_rfl) (fun _ _ _ h => h) (by rfl) ?hy6a (by assumption) ?_
      case hy6a => intro WW hSw; have hh := hhi; go_simp; try with_reducible rfl
      try simp only [Act.put, List.setIfInBounds_toArray, List.set_cons_zero, List.set_cons_succ]
      refine take_in (i := 7) (v := ?v7a) rfl (by kernel_rfl) (by kernel_rfl) (by kernel_rfl) (fun _ _ _ h => h) (by rfl) ?hy7a (by assumption) ?_
      case hy7a => intro WW hSw; (try dsimp only at hSw); go_simp; try with_reducible rfl
      try simp only [Act.put, List.setIfInBounds_toArray, List.set_cons_zero, List.set_cons_succ]
      refine take_in (i := 8) (v := ?v8a) rfl (by kernel_rfl) (by kernel_rfl) (by kernel_rfl) (fun _ _ _ h => h) (by rfl) ?hy8a (by assumption) ?_
      case hy8a => intro WW hSw; (try dsimp only at hSw); go_simp; try with_reducible rfl
      try simp only [Act.put, List.setIfInBounds_toArray, List.set_cons_zero, List.set_cons_succ]
      refine take_in (i := 9) (v := ?v9a) rfl (by kernel_rfl) (by kernel_rfl) (by kernel_rfl) (fun _ _ _ h => h) (by rfl) ?hy9a (by assumption) ?_
      case hy9a => intro WW hSw; (try dsimp only at hSw); go_simp; try with_reducible rfl
      try simp only [Act.put, List.setIfInBounds_toArray, List.set_cons_zero, List.set_cons_succ]
      refine take_in (i := 10) (v := ?v10a) rfl (by kernel_rfl) (by kernel_rfl) (by kernel_rfl) (fun _ _ _ h => h) (by rfl) ?hy10a (by assumption) ?_
      case hy10a => intro WW hSw; have h1 := hSw.1; have h2 := hSw.2; go_simp; try with_reducible rfl
      try simp only [Act.put, List.setIfInBounds_toArray, List.set_cons_zero, List.set_cons_succ]
      refine take_in (i := 11) (v := ?v11a) rfl (by kernel_rfl) (by kernel_rfl) (by kernel_rfl) (fun _ _ _ h => h) (by rfl) ?hy11a (by assumption) ?_
      case hy11a => intro WW hSw; (try dsimp only at hSw); go_simp; try with_reducible rfl
      try simp only [Act.put, List.setIfInBounds_toArray, List.set_cons_zero, List.set_cons_succ]
      refine take_in (i := 12) (v := ?v12a) rfl (by kernel_rfl) (by kernel_rfl) (by kernel_rfl) (fun _ _ _ h => h) (by rfl) ?hy12a (by assumption) ?_
      case hy12a => intro WW hSw; (try dsimp only at hSw); go_simp; try with_reducible rfl
      try simp only [Act.put, List.setIfInBounds_toArray, List.set_cons_zero, List.set_cons_succ]
      refine take_in (i := 13) (v := ?v13a) rfl (by kernel_rfl) (by kernel_rfl) (by kernel_rfl) (fun _ _ _ h => h) (by rfl) ?hy13a (by assumption) ?_
      case hy13a => intro WW hSw; have h1 := hSw.1; have h2 := hSw.2; go_simp; try with_reducible rfl
      try simp only [Act.put, List.setIfInBounds_toArray, List.set_cons_zero, List.set_cons_succ]
      refine one_step (i := 14) (by kernel_rfl) rfl (fun K hK => ?_)
      go_simp
      go_at_call 63
      refine (hkd _).mono ?_
      rintro e w8 ⟨rfl, rfl⟩
      refine hK.out _ _ ?_ (fun hHeld => ?_)
      · exact ⟨hx0, hx1⟩
      clear hK K
      try simp only [Act.put, List.setIfInBounds_toArray, List.set_cons_zero, List.set_cons_succ]
      refine take_in (i := 15) (v := .bool false) rfl (by kernel_rfl) (by kernel_rfl) (by kernel_rfl) (fun _ _ _ h => h) (by rfl) ?hy15a (by assumption) ?_
      case hy15a => intro WW hSw; have hh := hln; go_simp; try with_reducible rfl
      try simp only [Act.put, List.setIfInBounds_toArray, List.set_cons_zero, List.set_cons_succ]
      refine take_in (i := 16) (v := ?v16a) rfl (by kernel_rfl) (by kernel_rfl) (by kernel_rfl) (fun _ _ _ h => h) (by rfl) ?hy16a (by assumption) ?_
      case hy16a => intro WW hSw; (try dsimp only at hSw); go_simp; try with_reducible rfl
      try simp only [Act.put, List.setIfInBounds_toArray, List.set_cons_zero, List.set_cons_succ]
      refine wpAnyH_done (by kernel_rfl) ?_ _
      clear hx0 hx1
      go_wp2_with (go_at_call 64; refine (hR _ (by repeat (first | exact Below.refl _ _ | assumption | apply below_more | apply below_drew))).mono ?_; rintro e w2 ⟨rfl, hb2⟩; have hbx2 : ∀ i, w2.cell? ⟨w.heap.size, i, none⟩ = (#[.int .i64 2, .slice A n c, .string nm, .string ⟨#[]⟩, .int .i64 k, .bool b, .int .i64 nn, .string s, .slice pA p.length pc] : Array Value)[i]? := (fun i => (hb2.cell (p := ⟨w.heap.size, i, none⟩) (by first | omega | (simp; done) | (simp; omega))).trans (by simp [go_sem])); have hbv : ∀ i, w2.cell? ⟨w.heap.size + 1, i, none⟩ = (#[.int .i64 k, .bool b, .int .i64 nn, .string s, .slice pA p.length pc] : Array Value)[i]? := (fun i => (hb2.cell (p := ⟨w.heap.size + 1, i, none⟩) (by first | omega | (simp; done) | (simp; omega))).trans (by simp [go_sem])); have HB2 : Below w.heap.size w w2 := below_then (by repeat (first | exact Below.refl _ _ | assumption | apply below_more | apply below_drew)) hb2; clear hb2)
      go_ret
      exact ⟨by first | rfl | (simp; omega), by repeat (first | exact Below.refl _ _ | assumption | apply below_more | apply below_drew)⟩
  | false =>
    obtain ⟨e1_pr, e2_pr, e3_pr⟩ := text_some (of_decide_eq_false h_zp.symm)
    clear h_zp
    have e0 : (r && (z0 && false)) = false := by cases r <;> cases z0 <;> rfl
    rw [e0]
    clear h_z0
    have hx0 : (w.alloc (.cells #[.int .i64 2, .slice A n c, .string nm, .string pr, .int .i64 k, .bool b, .int .i64 nn, .string s, .slice pA p.length pc] 29)).cell? ⟨w.heap.size, 0, none⟩ = some (.int .i64 2) := by simp [go_sem]
    have hx1 : (w.alloc (.cells #[.int .i64 2, .slice A n c, .string nm, .string pr, .int .i64 k, .bool b, .int .i64 nn, .string s, .slice pA p.length pc] 29)).cell? ⟨w.heap.size, 1, none⟩ = some (.slice A n c) := by simp [go_sem]
    go_enter Tryd.func41, Tryd.ntmps41
    go_upto_region 1 with (fail)
    refine wp_region_held_drew (S := (fun WW => WW.cell? ⟨w.heap.size, 0, none⟩ = some (.int .i64 2) ∧ WW.cell? ⟨w.heap.size, 1, none⟩ = some (.slice A n c))) (by kernel_rfl) ?_ (fun hHeld => ?_)
    · exact ⟨hx0, hx1⟩
    refine take_in (i := 0) (v := ?v0a) rfl (by kernel_rfl) (by kernel_rfl) (by kernel_rfl) (fun _ _ _ h => h) (by rfl) ?hy0a (by assumption) ?_
    case hy0a => intro WW hSw; (try dsimp only at hSw); go_simp; try with_reducible rfl
    try simp only [Act.put, List.setIfInBounds_toArray, List.set_cons_zero, List.set_cons_succ]
    refine take_in (i := 1) (v := ?v1a) rfl (by kernel_rfl) (by kernel_rfl) (by kernel_rfl) (fun _ _ _ h => h) (by rfl) ?hy1a (by assumption) ?_
    case hy1a => intro WW hSw; have h1 := hSw.1; have h2 := hSw.2; go_simp; try with_reducible rfl
    try simp only [Act.put, List.setIfInBounds_toArray, List.set_cons_zero, List.set_cons_succ]
    refine take_in (i := 2) (v := .bool false) rfl (by kernel_rfl) (by kernel_rfl) (by kernel_rfl) (fun _ _ _ h => h) (by rfl) ?hy2a (by assumption) ?_
    case hy2a => intro WW hSw; have hh := hlo; go_simp; try with_reducible rfl
    try simp only [Act.put, List.setIfInBounds_toArray, List.set_cons_zero, List.set_cons_succ]
    refine take_in (i := 3) (v := ?v3a) rfl (by kernel_rfl) (by kernel_rfl) (by kernel_rfl) (fun _ _ _ h => h) (by rfl) ?hy3a (by assumption) ?_
    case hy3a => intro WW hSw; (try dsimp only at hSw); go_simp; try with_reducible rfl
    try simp only [Act.put, List.setIfInBounds_toArray, List.set_cons_zero, List.set_cons_succ]
    refine take_in (i := 4) (v := ?v4a) rfl (by kernel_rfl) (by kernel_rfl) (by kernel_rfl) (fun _ _ _ h => h) (by rfl) ?hy4a (by assumption) ?_
    case hy4a => intro WW hSw; (try dsimp only at hSw); go_simp; try with_reducible rfl
    try simp only [Act.put, List.setIfInBounds_toArray, List.set_cons_zero, List.set_cons_succ]
    refine take_in (i := 5) (v := ?v5a) rfl (by kernel_rfl) (by kernel_rfl) (by kernel_rfl) (fun _ _ _ h => h) (by rfl) ?hy5a (by assumption) ?_
    case hy5a => intro WW hSw; have h1 := hSw.1; have h2 := hSw.2; go_simp; try with_reducible rfl
    try simp only [Act.put, List.setIfInBounds_toArray, List.set_cons_zero, List.set_cons_succ]
    refine take_in (i := 6) (v := .bool false) rfl (by kernel_rfl) (by kernel_rfl) (by kernel_rfl) (fun _ _ _ h => h) (by rfl) ?hy6a (by assumption) ?_
    case hy6a => intro WW hSw; have hh := hhi; go_simp; try with_reducible rfl
    try simp only [Act.put, List.setIfInBounds_toArray, List.set_cons_zero, List.set_cons_succ]
    refine take_in (i := 7) (v := ?v7a) rfl (by kernel_rfl) (by kernel_rfl) (by kernel_rfl) (fun _ _ _ h => h) (by rfl) ?hy7a (by assumption) ?_
    case hy7a => intro WW hSw; (try dsimp only at hSw); go_simp; try with_reducible rfl
    try simp only [Act.put, List.setIfInBounds_toArray, List.set_cons_zero, List.set_cons_succ]
    refine take_in (i := 8) (v := ?v8a) rfl (by kernel_rfl) (by kernel_rfl) (by kernel_rfl) (fun _ _ _ h => h) (by rfl) ?hy8a (by assumption) ?_
    case hy8a => intro WW hSw; (try dsimp only at hSw); go_simp; try with_reducible rfl
    try simp only [Act.put, List.setIfInBounds_toArray, List.set_cons_zero, List.set_cons_succ]
    refine take_in (i := 9) (v := ?v9a) rfl (by kernel_rfl) (by kernel_rfl) (by kernel_rfl) (fun _ _ _ h => h) (by rfl) ?hy9a (by assumption) ?_
    case hy9a => intro WW hSw; (try dsimp only at hSw); go_simp; try with_reducible rfl
    try simp only [Act.put, List.setIfInBounds_toArray, List.set_cons_zero, List.set_cons_succ]
    refine take_in (i := 10) (v := ?v10a) rfl (by kernel_rfl) (by kernel_rfl) (by kernel_rfl) (fun _ _ _ h => h) (by rfl) ?hy10a (by assumption) ?_
    case hy10a => intro WW hSw; have h1 := hSw.1; have h2 := hSw.2; go_simp; try with_reducible rfl
    try simp only [Act.put, List.setIfInBounds_toArray, List.set_cons_zero, List.set_cons_succ]
    refine take_in (i := 11) (v := ?v11a) rfl (by kernel_rfl) (by kernel_rfl) (by kernel_rfl) (fun _ _ _ h => h) (by rfl) ?hy11a (by assumption) ?_
    case hy11a => intro WW hSw; (try dsimp only at hSw); go_simp; try with_reducible rfl
    try simp only [Act.put, List.setIfInBounds_toArray, List.set_cons_zero, List.set_cons_succ]
    refine take_in (i := 12) (v := ?v12a) rfl (by kernel_rfl) (by kernel_rfl) (by kernel_rfl) (fun _ _ _ h => h) (by rfl) ?hy12a (by assumption) ?_
    case hy12a => intro WW hSw; (try dsimp only at hSw); go_simp; try with_reducible rfl
    try simp only [Act.put, List.setIfInBounds_toArray, List.set_cons_zero, List.set_cons_succ]
    refine take_in (i := 13) (v := ?v13a) rfl (by kernel_rfl) (by kernel_rfl) (by kernel_rfl) (fun _ _ _ h => h) (by rfl) ?hy13a (by assumption) ?_
    case hy13a => intro WW hSw; have h1 := hSw.1; have h2 := hSw.2; go_simp; try with_reducible rfl
    try simp only [Act.put, List.setIfInBounds_toArray, List.set_cons_zero, List.set_cons_succ]
    refine one_step (i := 14) (by kernel_rfl) rfl (fun K hK => ?_)
    go_simp
    go_at_call 63
    refine (hkd _).mono ?_
    rintro e w8 ⟨rfl, rfl⟩
    refine hK.out _ _ ?_ (fun hHeld => ?_)
    · exact ⟨hx0, hx1⟩
    clear hK K
    try simp only [Act.put, List.setIfInBounds_toArray, List.set_cons_zero, List.set_cons_succ]
    refine take_in (i := 15) (v := .bool false) rfl (by kernel_rfl) (by kernel_rfl) (by kernel_rfl) (fun _ _ _ h => h) (by rfl) ?hy15a (by assumption) ?_
    case hy15a => intro WW hSw; have hh := hln; go_simp; try with_reducible rfl
    try simp only [Act.put, List.setIfInBounds_toArray, List.set_cons_zero, List.set_cons_succ]
    refine take_in (i := 16) (v := ?v16a) rfl (by kernel_rfl) (by kernel_rfl) (by kernel_rfl) (fun _ _ _ h => h) (by rfl) ?hy16a (by assumption) ?_
    case hy16a => intro WW hSw; (try dsimp only at hSw); go_simp; try with_reducible rfl
    try simp only [Act.put, List.setIfInBounds_toArray, List.set_cons_zero, List.set_cons_succ]
    refine wpAnyH_done (by kernel_rfl) ?_ _
    clear hx0 hx1
    go_wp2
    go_ret
    exact ⟨by first | rfl | (simp; omega), by repeat (first | exact Below.refl _ _ | assumption | apply below_more | apply below_drew)⟩
set_option maxRecDepth 100000 in
set_option maxHeartbeats 1600000 in
theorem fields_3 (A : Option Addr) (n c : Nat) (nm pr : ByteArray) (k : Int) (b : Bool) (nn : Int) (s : ByteArray) (pA : Option Addr) (p : List Int) (pc : Nat) (w : World) (r : Bool)
    (hR : ∀ W, Below w.heap.size w W → Calls Tryd.prog 64 #[.agg #[.int .i64 k, .bool b, .int .i64 nn, .string s, .slice pA p.length pc]] W fun e w' => e = .returned (.bool r) ∧ Below W.heap.size W w') (hkd : ∀ W, Calls Tryd.prog 63 #[.int .i64 3] W fun e w' => e = .returned (.int .i64 n) ∧ W = w') (z0 : Bool) (h_z0 : z0 = decide (k = 0)) :
    Calls Tryd.prog 41 #[.agg #[.int .i64 3, .slice A n c, .string nm, .string pr, .int .i64 k, .bool b, .int .i64 nn, .string s, .slice pA p.length pc]] w fun e w' => e = .returned (.bool (r && z0)) ∧ Below w.heap.size w w' := by
  have hlo : ¬ 3 < 1 := by decide
  have hhi : ¬ (26 : Int) < 3 := by decide
  have hln : True := trivial
  cases r with
  | true =>
    cases z0 with
    | true =>
      obtain rfl : k = 0 := of_decide_eq_true h_z0.symm
      clear h_z0
      have hx0 : (w.alloc (.cells #[.int .i64 3, .slice A n c, .string nm, .string pr, .int .i64 0, .bool b, .int .i64 nn, .string s, .slice pA p.length pc] 29)).cell? ⟨w.heap.size, 0, none⟩ = some (.int .i64 3) := by simp [go_sem]
      have hx1 : (w.alloc (.cells #[.int .i64 3, .slice A n c, .string nm, .string pr, .int .i64 0, .bool b, .int .i64 nn, .string s, .slice pA p.length pc] 29)).cell? ⟨w.heap.size, 1, none⟩ = some (.slice A n c) := by simp [go_sem]
      go_enter Tryd.func41, Tryd.ntmps41
      go_upto_region 1 with (fail)
      refine wp_region_held_drew (S := (fun WW => WW.cell? ⟨w.heap.size, 0, none⟩ = some (.int .i64 3) ∧ WW.cell? ⟨w.heap.size, 1, none⟩ = some (.slice A n c))) (by kernel_rfl) ?_ (fun hHeld => ?_)
      · exact ⟨hx0, hx1⟩
      refine take_in (i := 0) (v := ?v0a) rfl (by kernel_rfl) (by kernel_rfl) (by kernel_rfl) (fun _ _ _ h => h) (by rfl) ?hy0a (by assumption) ?_
      case hy0a => intro WW hSw; (try dsimp only at hSw); go_simp; try with_reducible rfl
      try simp only [Act.put, List.setIfInBounds_toArray, List.set_cons_zero, List.set_cons_succ]
      refine take_in (i := 1) (v := ?v1a) rfl (by kernel_rfl) (by kernel_rfl) (by kernel_rfl) (fun _ _ _ h => h) (by rfl) ?hy1a (by assumption) ?_
      case hy1a => intro WW hSw; have h1 := hSw.1; have h2 := hSw.2; go_simp; try with_reducible rfl
      try simp only [Act.put, List.setIfInBounds_toArray, List.set_cons_zero, List.set_cons_succ]
      refine take_in (i := 2) (v := .bool false) rfl (by kernel_rfl) (by kernel_rfl) (by kernel_rfl) (fun _ _ _ h => h) (by rfl) ?hy2a (by assumption) ?_
      case hy2a => intro WW hSw; have hh := hlo; go_simp; try with_reducible rfl
      try simp only [Act.put, List.setIfInBounds_toArray, List.set_cons_zero, List.set_cons_succ]
      refine take_in (i := 3) (v := ?v3a) rfl (by kernel_rfl) (by kernel_rfl) (by kernel_rfl) (fun _ _ _ h => h) (by rfl) ?hy3a (by assumption) ?_
      case hy3a => intro WW hSw; (try dsimp only at hSw); go_simp; try with_reducible rfl
      try simp only [Act.put, List.setIfInBounds_toArray, List.set_cons_zero, List.set_cons_succ]
      refine take_in (i := 4) (v := ?v4a) rfl (by kernel_rfl) (by kernel_rfl) (by kernel_rfl) (fun _ _ _ h => h) (by rfl) ?hy4a (by assumption) ?_
      case hy4a => intro WW hSw; (try dsimp only at hSw); go_simp; try with_reducible rfl
      try simp only [Act.put, List.setIfInBounds_toArray, List.set_cons_zero, List.set_cons_succ]
      refine take_in (i := 5) (v := ?v5a) rfl (by kernel_rfl) (by kernel_rfl) (by kernel_rfl) (fun _ _ _ h => h) (by rfl) ?hy5a (by assumption) ?_
      case hy5a => intro WW hSw; have h1 := hSw.1; have h2 := hSw.2; go_simp; try with_reducible rfl
      try simp only [Act.put, List.setIfInBounds_toArray, List.set_cons_zero, List.set_cons_succ]
      refine take_in (i := 6) (v := .bool false) rfl (by kernel_rfl) (by kernel_rfl) (by kernel_rfl) (fun _ _ _ h => h) (by rfl) ?hy6a (by assumption) ?_
      case hy6a => intro WW hSw; have hh := hhi; go_simp; try with_reducible rfl
      try simp only [Act.put, List.setIfInBounds_toArray, List.set_cons_zero, List.set_cons_succ]
      refine take_in (i := 7) (v := ?v7a) rfl (by kernel_rfl) (by kernel_rfl) (by kernel_rfl) (fun _ _ _ h => h) (by rfl) ?hy7a (by assumption) ?_
      case hy7a => intro WW hSw; (try dsimp only at hSw); go_simp; try with_reducible rfl
      try simp only [Act.put, List.setIfInBounds_toArray, List.set_cons_zero, List.set_cons_succ]
      refine take_in (i := 8) (v := ?v8a) rfl (by kernel_rfl) (by kernel_rfl) (by kernel_rfl) (fun _ _ _ h => h) (by rfl) ?hy8a (by assumption) ?_
      case hy8a => intro WW hSw; (try dsimp only at hSw); go_simp; try with_reducible rfl
      try simp only [Act.put, List.setIfInBounds_toArray, List.set_cons_zero, List.set_cons_succ]
      refine take_in (i := 9) (v := ?v9a) rfl (by kernel_rfl) (by kernel_rfl) (by kernel_rfl) (fun _ _ _ h => h) (by rfl) ?hy9a (by assumption) ?_
      case hy9a => intro WW hSw; (try dsimp only at hSw); go_simp; try with_reducible rfl
      try simp only [Act.put, List.setIfInBounds_toArray, List.set_cons_zero, List.set_cons_succ]
      refine take_in (i := 10) (v := ?v10a) rfl (by kernel_rfl) (by kernel_rfl) (by kernel_rfl) (fun _ _ _ h => h) (by rfl) ?hy10a (by assumption) ?_
      case hy10a => intro WW hSw; have h1 := hSw.1; have h2 := hSw.2; go_simp; try with_reducible rfl
      try simp only [Act.put, List.setIfInBounds_toArray, List.set_cons_zero, List.set_cons_succ]
      refine take_in (i := 11) (v := ?v11a) rfl (by kernel_rfl) (by kernel_rfl) (by kernel_rfl) (fun _ _ _ h => h) (by rfl) ?hy11a (by assumption) ?_
      case hy11a => intro WW hSw; (try dsimp only at hSw); go_simp; try with_reducible rfl
      try simp only [Act.put, List.setIfInBounds_toArray, List.set_cons_zero, List.set_cons_succ]
      refine take_in (i := 12) (v := ?v12a) rfl (by kernel_rfl) (by kernel_rfl) (by kernel_rfl) (fun _ _ _ h => h) (by rfl) ?hy12a (by assumption) ?_
      case hy12a => intro WW hSw; (try dsimp only at hSw); go_simp; try with_reducible rfl
      try simp only [Act.put, List.setIfInBounds_toArray, List.set_cons_zero, List.set_cons_succ]
      refine take_in (i := 13) (v := ?v13a) rfl (by kernel_rfl) (by kernel_rfl) (by kernel_rfl) (fun _ _ _ h => h) (by rfl) ?hy13a (by assumption) ?_
      case hy13a => intro WW hSw; have h1 := hSw.1; have h2 := hSw.2; go_simp; try with_reducible rfl
      try simp only [Act.put, List.setIfInBounds_toArray, List.set_cons_zero, List.set_cons_succ]
      refine one_step (i := 14) (by kernel_rfl) rfl (fun K hK => ?_)
      go_simp
      go_at_call 63
      refine (hkd _).mono ?_
      rintro e w8 ⟨rfl, rfl⟩
      refine hK.out _ _ ?_ (fun hHeld => ?_)
      · exact ⟨hx0, hx1⟩
      clear hK K
      try simp only [Act.put, List.setIfInBounds_toArray, List.set_cons_zero, List.set_cons_succ]
      refine take_in (i := 15) (v := .bool false) rfl (by kernel_rfl) (by kernel_rfl) (by kernel_rfl) (fun _ _ _ h => h) (by rfl) ?hy15a (by assumption) ?_
      case hy15a => intro WW hSw; have hh := hln; go_simp; try with_reducible rfl
      try simp only [Act.put, List.setIfInBounds_toArray, List.set_cons_zero, List.set_cons_succ]
      refine take_in (i := 16) (v := ?v16a) rfl (by kernel_rfl) (by kernel_rfl) (by kernel_rfl) (fun _ _ _ h => h) (by rfl) ?hy16a (by assumption) ?_
      case hy16a => intro WW hSw; (try dsimp only at hSw); go_simp; try with_reducible rfl
      try simp only [Act.put, List.setIfInBounds_toArray, List.set_cons_zero, List.set_cons_succ]
      refine wpAnyH_done (by kernel_rfl) ?_ _
      clear hx0 hx1
      go_wp2_with (go_at_call 64; refine (hR _ (by repeat (first | exact Below.refl _ _ | assumption | apply below_more | apply below_drew))).mono ?_; rintro e w2 ⟨rfl, hb2⟩; have hbx2 : ∀ i, w2.cell? ⟨w.heap.size, i, none⟩ = (#[.int .i64 3, .slice A n c, .string nm, .string pr, .int .i64 0, .bool b, .int .i64 nn, .string s, .slice pA p.length pc] : Array Value)[i]? := (fun i => (hb2.cell (p := ⟨w.heap.size, i, none⟩) (by first | omega | (simp; done) | (simp; omega))).trans (by simp [go_sem])); have hbv : ∀ i, w2.cell? ⟨w.heap.size + 1, i, none⟩ = (#[.int .i64 0, .bool b, .int .i64 nn, .string s, .slice pA p.length pc] : Array Value)[i]? := (fun i => (hb2.cell (p := ⟨w.heap.size + 1, i, none⟩) (by first | omega | (simp; done) | (simp; omega))).trans (by simp [go_sem])); have HB2 : Below w.heap.size w w2 := below_then (by repeat (first | exact Below.refl _ _ | assumption | apply below_more | apply below_drew)) hb2; clear hb2)
      go_ret
      exact ⟨by first | rfl | (simp; omega), by repeat (first | exact Below.refl _ _ | assumption | apply below_more | apply below_drew)⟩
    | false =>
      have f_z0 : (k == 0) = false := beq_eq_false_iff_ne.2 (of_decide_eq_false h_z0.symm)
      have g_z0 : ¬ 0 = k := fun e => of_decide_eq_false h_z0.symm e.symm
      have m_z0 : ¬ k = 0 := of_decide_eq_false h_z0.symm
      clear h_z0
      have hx0 : (w.alloc (.cells #[.int .i64 3, .slice A n c, .string nm, .string pr, .int .i64 k, .bool b, .int .i64 nn, .string s, .slice pA p.length pc] 29)).cell? ⟨w.heap.size, 0, none⟩ = some (.int .i64 3) := by simp [go_sem]
      have hx1 : (w.alloc (.cells #[.int .i64 3, .slice A n c, .string nm, .string pr, .int .i64 k, .bool b, .int .i64 nn, .string s, .slice pA p.length pc] 29)).cell? ⟨w.heap.size, 1, none⟩ = some (.slice A n c) := by simp [go_sem]
      go_enter Tryd.func41, Tryd.ntmps41
      go_upto_region 1 with (fail)
      refine wp_region_held_drew (S := (fun WW => WW.cell? ⟨w.heap.size, 0, none⟩ = some (.int .i64 3) ∧ WW.cell? ⟨w.heap.size, 1, none⟩ = some (.slice A n c))) (by kernel_rfl) ?_ (fun hHeld => ?_)
      · exact ⟨hx0, hx1⟩
      refine take_in (i := 0) (v := ?v0a) rfl (by kernel_rfl) (by kernel_rfl) (by kernel_rfl) (fun _ _ _ h => h) (by rfl) ?hy0a (by assumption) ?_
      case hy0a => intro WW hSw; (try dsimp only at hSw); go_simp; try with_reducible rfl
      try simp only [Act.put, List.setIfInBounds_toArray, List.set_cons_zero, List.set_cons_succ]
      refine take_in (i := 1) (v := ?v1a) rfl (by kernel_rfl) (by kernel_rfl) (by kernel_rfl) (fun _ _ _ h => h) (by rfl) ?hy1a (by assumption) ?_
      case hy1a => intro WW hSw; have h1 := hSw.1; have h2 := hSw.2; go_simp; try with_reducible rfl
      try simp only [Act.put, List.setIfInBounds_toArray, List.set_cons_zero, List.set_cons_succ]
      refine take_in (i := 2) (v := .bool false) rfl (by kernel_rfl) (by kernel_rfl) (by kernel_rfl) (fun _ _ _ h => h) (by rfl) ?hy2a (by assumption) ?_
      case hy2a => intro WW hSw; have hh := hlo; go_simp; try with_reducible rfl
      try simp only [Act.put, List.setIfInBounds_toArray, List.set_cons_zero, List.set_cons_succ]
      refine take_in (i := 3) (v := ?v3a) rfl (by kernel_rfl) (by kernel_rfl) (by kernel_rfl) (fun _ _ _ h => h) (by rfl) ?hy3a (by assumption) ?_
      case hy3a => intro WW hSw; (try dsimp only at hSw); go_simp; try with_reducible rfl
      try simp only [Act.put, List.setIfInBounds_toArray, List.set_cons_zero, List.set_cons_succ]
      refine take_in (i := 4) (v := ?v4a) rfl (by kernel_rfl) (by kernel_rfl) (by kernel_rfl) (fun _ _ _ h => h) (by rfl) ?hy4a (by assumption) ?_
      case hy4a => intro WW hSw; (try dsimp only at hSw); go_simp; try with_reducible rfl
      try simp only [Act.put, List.setIfInBounds_toArray, List.set_cons_zero, List.set_cons_succ]
      refine take_in (i := 5) (v := ?v5a) rfl (by kernel_rfl) (by kernel_rfl) (by kernel_rfl) (fun _ _ _ h => h) (by rfl) ?hy5a (by assumption) ?_
      case hy5a => intro WW hSw; have h1 := hSw.1; have h2 := hSw.2; go_simp; try with_reducible rfl
      try simp only [Act.put, List.setIfInBounds_toArray, List.set_cons_zero, List.set_cons_succ]
      refine take_in (i := 6) (v := .bool false) rfl (by kernel_rfl) (by kernel_rfl) (by kernel_rfl) (fun _ _ _ h => h) (by rfl) ?hy6a (by assumption) ?_
      case hy6a => intro WW hSw; have hh := hhi; go_simp; try with_reducible rfl
      try simp only [Act.put, List.setIfInBounds_toArray, List.set_cons_zero, List.set_cons_succ]
      refine take_in (i := 7) (v := ?v7a) rfl (by kernel_rfl) (by kernel_rfl) (by kernel_rfl) (fun _ _ _ h => h) (by rfl) ?hy7a (by assumption) ?_
      case hy7a => intro WW hSw; (try dsimp only at hSw); go_simp; try with_reducible rfl
      try simp only [Act.put, List.setIfInBounds_toArray, List.set_cons_zero, List.set_cons_succ]
      refine take_in (i := 8) (v := ?v8a) rfl (by kernel_rfl) (by kernel_rfl) (by kernel_rfl) (fun _ _ _ h => h) (by rfl) ?hy8a (by assumption) ?_
      case hy8a => intro WW hSw; (try dsimp only at hSw); go_simp; try with_reducible rfl
      try simp only [Act.put, List.setIfInBounds_toArray, List.set_cons_zero, List.set_cons_succ]
      refine take_in (i := 9) (v := ?v9a) rfl (by kernel_rfl) (by kernel_rfl) (by kernel_rfl) (fun _ _ _ h => h) (by rfl) ?hy9a (by assumption) ?_
      case hy9a => intro WW hSw; (try dsimp only at hSw); go_simp; try with_reducible rfl
      try simp only [Act.put, List.setIfInBounds_toArray, List.set_cons_zero, List.set_cons_succ]
      refine take_in (i := 10) (v := ?v10a) rfl (by kernel_rfl) (by kernel_rfl) (by kernel_rfl) (fun _ _ _ h => h) (by rfl) ?hy10a (by assumption) ?_
      case hy10a => intro WW hSw; have h1 := hSw.1; have h2 := hSw.2; go_simp; try with_reducible rfl
      try simp only [Act.put, List.setIfInBounds_toArray, List.set_cons_zero, List.set_cons_succ]
      refine take_in (i := 11) (v := ?v11a) rfl (by kernel_rfl) (by kernel_rfl) (by kernel_rfl) (fun _ _ _ h => h) (by rfl) ?hy11a (by assumption) ?_
      case hy11a => intro WW hSw; (try dsimp only at hSw); go_simp; try with_reducible rfl
      try simp only [Act.put, List.setIfInBounds_toArray, List.set_cons_zero, List.set_cons_succ]
      refine take_in (i := 12) (v := ?v12a) rfl (by kernel_rfl) (by kernel_rfl) (by kernel_rfl) (fun _ _ _ h => h) (by rfl) ?hy12a (by assumption) ?_
      case hy12a => intro WW hSw; (try dsimp only at hSw); go_simp; try with_reducible rfl
      try simp only [Act.put, List.setIfInBounds_toArray, List.set_cons_zero, List.set_cons_succ]
      refine take_in (i := 13) (v := ?v13a) rfl (by kernel_rfl) (by kernel_rfl) (by kernel_rfl) (fun _ _ _ h => h) (by rfl) ?hy13a (by assumption) ?_
      case hy13a => intro WW hSw; have h1 := hSw.1; have h2 := hSw.2; go_simp; try with_reducible rfl
      try simp only [Act.put, List.setIfInBounds_toArray, List.set_cons_zero, List.set_cons_succ]
      refine one_step (i := 14) (by kernel_rfl) rfl (fun K hK => ?_)
      go_simp
      go_at_call 63
      refine (hkd _).mono ?_
      rintro e w8 ⟨rfl, rfl⟩
      refine hK.out _ _ ?_ (fun hHeld => ?_)
      · exact ⟨hx0, hx1⟩
      clear hK K
      try simp only [Act.put, List.setIfInBounds_toArray, List.set_cons_zero, List.set_cons_succ]
      refine take_in (i := 15) (v := .bool false) rfl (by kernel_rfl) (by kernel_rfl) (by kernel_rfl) (fun _ _ _ h => h) (by rfl) ?hy15a (by assumption) ?_
      case hy15a => intro WW hSw; have hh := hln; go_simp; try with_reducible rfl
      try simp only [Act.put, List.setIfInBounds_toArray, List.set_cons_zero, List.set_cons_succ]
      refine take_in (i := 16) (v := ?v16a) rfl (by kernel_rfl) (by kernel_rfl) (by kernel_rfl) (fun _ _ _ h => h) (by rfl) ?hy16a (by assumption) ?_
      case hy16a => intro WW hSw; (try dsimp only at hSw); go_simp; try with_reducible rfl
      try simp only [Act.put, List.setIfInBounds_toArray, List.set_cons_zero, List.set_cons_succ]
      refine wpAnyH_done (by kernel_rfl) ?_ _
      clear hx0 hx1
      go_wp2_with (go_at_call 64; refine (hR _ (by repeat (first | exact Below.refl _ _ | assumption | apply below_more | apply below_drew))).mono ?_; rintro e w2 ⟨rfl, hb2⟩; have hbx2 : ∀ i, w2.cell? ⟨w.heap.size, i, none⟩ = (#[.int .i64 3, .slice A n c, .string nm, .string pr, .int .i64 k, .bool b, .int .i64 nn, .string s, .slice pA p.length pc] : Array Value)[i]? := (fun i => (hb2.cell (p := ⟨w.heap.size, i, none⟩) (by first | omega | (simp; done) | (simp; omega))).trans (by simp [go_sem])); have hbv : ∀ i, w2.cell? ⟨w.heap.size + 1, i, none⟩ = (#[.int .i64 k, .bool b, .int .i64 nn, .string s, .slice pA p.length pc] : Array Value)[i]? := (fun i => (hb2.cell (p := ⟨w.heap.size + 1, i, none⟩) (by first | omega | (simp; done) | (simp; omega))).trans (by simp [go_sem])); have HB2 : Below w.heap.size w w2 := below_then (by repeat (first | exact Below.refl _ _ | assumption | apply below_more | apply below_drew)) hb2; clear hb2)
      go_ret
      exact ⟨by first | rfl | (simp; omega), by repeat (first | exact Below.refl _ _ | assumption | apply below_more | apply below_drew)⟩
  | false =>
    clear h_z0
    have hx0 : (w.alloc (.cells #[.int .i64 3, .slice A n c, .string nm, .string pr, .int .i64 k, .bool b, .int .i64 nn, .string s, .slice pA p.length pc] 29)).cell? ⟨w.heap.size, 0, none⟩ = some (.int .i64 3) := by simp [go_sem]
    have hx1 : (w.alloc (.cells #[.int .i64 3, .slice A n c, .string nm, .string pr, .int .i64 k, .bool b, .int .i64 nn, .string s, .slice pA p.length pc] 29)).cell? ⟨w.heap.size, 1, none⟩ = some (.slice A n c) := by simp [go_sem]
    go_enter Tryd.func41, Tryd.ntmps41
    go_upto_region 1 with (fail)
    refine wp_region_held_drew (S := (fun WW => WW.cell? ⟨w.heap.size, 0, none⟩ = some (.int .i64 3) ∧ WW.cell? ⟨w.heap.size, 1, none⟩ = some (.slice A n c))) (by kernel_rfl) ?_ (fun hHeld => ?_)
    · exact ⟨hx0, hx1⟩
    refine take_in (i := 0) (v := ?v0a) rfl (by kernel_rfl) (by kernel_rfl) (by kernel_rfl) (fun _ _ _ h => h) (by rfl) ?hy0a (by assumption) ?_
    case hy0a => intro WW hSw; (try dsimp only at hSw); go_simp; try with_reducible rfl
    try simp only [Act.put, List.setIfInBounds_toArray, List.set_cons_zero, List.set_cons_succ]
    refine take_in (i := 1) (v := ?v1a) rfl (by kernel_rfl) (by kernel_rfl) (by kernel_rfl) (fun _ _ _ h => h) (by rfl) ?hy1a (by assumption) ?_
    case hy1a => intro WW hSw; have h1 := hSw.1; have h2 := hSw.2; go_simp; try with_reducible rfl
    try simp only [Act.put, List.setIfInBounds_toArray, List.set_cons_zero, List.set_cons_succ]
    refine take_in (i := 2) (v := .bool false) rfl (by kernel_rfl) (by kernel_rfl) (by kernel_rfl) (fun _ _ _ h => h) (by rfl) ?hy2a (by assumption) ?_
    case hy2a => intro WW hSw; have hh := hlo; go_simp; try with_reducible rfl
    try simp only [Act.put, List.setIfInBounds_toArray, List.set_cons_zero, List.set_cons_succ]
    refine take_in (i := 3) (v := ?v3a) rfl (by kernel_rfl) (by kernel_rfl) (by kernel_rfl) (fun _ _ _ h => h) (by rfl) ?hy3a (by assumption) ?_
    case hy3a => intro WW hSw; (try dsimp only at hSw); go_simp; try with_reducible rfl
    try simp only [Act.put, List.setIfInBounds_toArray, List.set_cons_zero, List.set_cons_succ]
    refine take_in (i := 4) (v := ?v4a) rfl (by kernel_rfl) (by kernel_rfl) (by kernel_rfl) (fun _ _ _ h => h) (by rfl) ?hy4a (by assumption) ?_
    case hy4a => intro WW hSw; (try dsimp only at hSw); go_simp; try with_reducible rfl
    try simp only [Act.put, List.setIfInBounds_toArray, List.set_cons_zero, List.set_cons_succ]
    refine take_in (i := 5) (v := ?v5a) rfl (by kernel_rfl) (by kernel_rfl) (by kernel_rfl) (fun _ _ _ h => h) (by rfl) ?hy5a (by assumption) ?_
    case hy5a => intro WW hSw; have h1 := hSw.1; have h2 := hSw.2; go_simp; try with_reducible rfl
    try simp only [Act.put, List.setIfInBounds_toArray, List.set_cons_zero, List.set_cons_succ]
    refine take_in (i := 6) (v := .bool false) rfl (by kernel_rfl) (by kernel_rfl) (by kernel_rfl) (fun _ _ _ h => h) (by rfl) ?hy6a (by assumption) ?_
    case hy6a => intro WW hSw; have hh := hhi; go_simp; try with_reducible rfl
    try simp only [Act.put, List.setIfInBounds_toArray, List.set_cons_zero, List.set_cons_succ]
    refine take_in (i := 7) (v := ?v7a) rfl (by kernel_rfl) (by kernel_rfl) (by kernel_rfl) (fun _ _ _ h => h) (by rfl) ?hy7a (by assumption) ?_
    case hy7a => intro WW hSw; (try dsimp only at hSw); go_simp; try with_reducible rfl
    try simp only [Act.put, List.setIfInBounds_toArray, List.set_cons_zero, List.set_cons_succ]
    refine take_in (i := 8) (v := ?v8a) rfl (by kernel_rfl) (by kernel_rfl) (by kernel_rfl) (fun _ _ _ h => h) (by rfl) ?hy8a (by assumption) ?_
    case hy8a => intro WW hSw; (try dsimp only at hSw); go_simp; try with_reducible rfl
    try simp only [Act.put, List.setIfInBounds_toArray, List.set_cons_zero, List.set_cons_succ]
    refine take_in (i := 9) (v := ?v9a) rfl (by kernel_rfl) (by kernel_rfl) (by kernel_rfl) (fun _ _ _ h => h) (by rfl) ?hy9a (by assumption) ?_
    case hy9a => intro WW hSw; (try dsimp only at hSw); go_simp; try with_reducible rfl
    try simp only [Act.put, List.setIfInBounds_toArray, List.set_cons_zero, List.set_cons_succ]
    refine take_in (i := 10) (v := ?v10a) rfl (by kernel_rfl) (by kernel_rfl) (by kernel_rfl) (fun _ _ _ h => h) (by rfl) ?hy10a (by assumption) ?_
    case hy10a => intro WW hSw; have h1 := hSw.1; have h2 := hSw.2; go_simp; try with_reducible rfl
    try simp only [Act.put, List.setIfInBounds_toArray, List.set_cons_zero, List.set_cons_succ]
    refine take_in (i := 11) (v := ?v11a) rfl (by kernel_rfl) (by kernel_rfl) (by kernel_rfl) (fun _ _ _ h => h) (by rfl) ?hy11a (by assumption) ?_
    case hy11a => intro WW hSw; (try dsimp only at hSw); go_simp; try with_reducible rfl
    try simp only [Act.put, List.setIfInBounds_toArray, List.set_cons_zero, List.set_cons_succ]
    refine take_in (i := 12) (v := ?v12a) rfl (by kernel_rfl) (by kernel_rfl) (by kernel_rfl) (fun _ _ _ h => h) (by rfl) ?hy12a (by assumption) ?_
    case hy12a => intro WW hSw; (try dsimp only at hSw); go_simp; try with_reducible rfl
    try simp only [Act.put, List.setIfInBounds_toArray, List.set_cons_zero, List.set_cons_succ]
    refine take_in (i := 13) (v := ?v13a) rfl (by kernel_rfl) (by kernel_rfl) (by kernel_rfl) (fun _ _ _ h => h) (by rfl) ?hy13a (by assumption) ?_
    case hy13a => intro WW hSw; have h1 := hSw.1; have h2 := hSw.2; go_simp; try with_reducible rfl
    try simp only [Act.put, List.setIfInBounds_toArray, List.set_cons_zero, List.set_cons_succ]
    refine one_step (i := 14) (by kernel_rfl) rfl (fun K hK => ?_)
    go_simp
    go_at_call 63
    refine (hkd _).mono ?_
    rintro e w8 ⟨rfl, rfl⟩
    refine hK.out _ _ ?_ (fun hHeld => ?_)
    · exact ⟨hx0, hx1⟩
    clear hK K
    try simp only [Act.put, List.setIfInBounds_toArray, List.set_cons_zero, List.set_cons_succ]
    refine take_in (i := 15) (v := .bool false) rfl (by kernel_rfl) (by kernel_rfl) (by kernel_rfl) (fun _ _ _ h => h) (by rfl) ?hy15a (by assumption) ?_
    case hy15a => intro WW hSw; have hh := hln; go_simp; try with_reducible rfl
    try simp only [Act.put, List.setIfInBounds_toArray, List.set_cons_zero, List.set_cons_succ]
    refine take_in (i := 16) (v := ?v16a) rfl (by kernel_rfl) (by kernel_rfl) (by kernel_rfl) (fun _ _ _ h => h) (by rfl) ?hy16a (by assumption) ?_
    case hy16a => intro WW hSw; (try dsimp only at hSw); go_simp; try with_reducible rfl
    try simp only [Act.put, List.setIfInBounds_toArray, List.set_cons_zero, List.set_cons_succ]
    refine wpAnyH_done (by kernel_rfl) ?_ _
    clear hx0 hx1
    go_wp2_with (go_at_call 64; refine (hR _ (by repeat (first | exact Below.refl _ _ | assumption | apply below_more | apply below_drew))).mono ?_; rintro e w2 ⟨rfl, hb2⟩; have hbx2 : ∀ i, w2.cell? ⟨w.heap.size, i, none⟩ = (#[.int .i64 3, .slice A n c, .string nm, .string pr, .int .i64 k, .bool b, .int .i64 nn, .string s, .slice pA p.length pc] : Array Value)[i]? := (fun i => (hb2.cell (p := ⟨w.heap.size, i, none⟩) (by first | omega | (simp; done) | (simp; omega))).trans (by simp [go_sem])); have hbv : ∀ i, w2.cell? ⟨w.heap.size + 1, i, none⟩ = (#[.int .i64 k, .bool b, .int .i64 nn, .string s, .slice pA p.length pc] : Array Value)[i]? := (fun i => (hb2.cell (p := ⟨w.heap.size + 1, i, none⟩) (by first | omega | (simp; done) | (simp; omega))).trans (by simp [go_sem])); have HB2 : Below w.heap.size w w2 := below_then (by repeat (first | exact Below.refl _ _ | assumption | apply below_more | apply below_drew)) hb2; clear hb2)
    go_ret
    exact ⟨by first | rfl | (simp; omega), by repeat (first | exact Below.refl _ _ | assumption | apply below_more | apply below_drew)⟩
set_option maxRecDepth 100000 in
set_option maxHeartbeats 1600000 in
theorem fields_x (op : Int) (A : Option Addr) (n c : Nat) (nm pr : ByteArray) (k : Int) (b : Bool) (nn : Int) (s : ByteArray) (pA : Option Addr) (p : List Int) (pc : Nat) (w : World) (r : Bool)
    (hR : ∀ W, Below w.heap.size w W → Calls Tryd.prog 64 #[.agg #[.int .i64 k, .bool b, .int .i64 nn, .string s, .slice pA p.length pc]] W fun e w' => e = .returned (.bool r) ∧ Below W.heap.size W w') (hop : 4 ≤ op) (hop2 : op ≤ 26) (hkd : ∀ W, Calls Tryd.prog 63 #[.int .i64 op] W fun e w' => e = .returned (.int .i64 n) ∧ W = w') (z0 : Bool) (h_z0 : z0 = decide (k = 0)) (zn : Bool) (h_zn : zn = decide (nm.size = 0)) (zp : Bool) (h_zp : zp = decide (pr.size = 0)) :
    Calls Tryd.prog 41 #[.agg #[.int .i64 op, .slice A n c, .string nm, .string pr, .int .i64 k, .bool b, .int .i64 nn, .string s, .slice pA p.length pc]] w fun e w' => e = .returned (.bool (r && (z0 && (zn && zp)))) ∧ Below w.heap.size w w' := by
  have hlo : ¬ op < 1 := by omega
  have hhi : ¬ (26 : Int) < op := by omega
  have hln : True := trivial
  have e1 : (op == 1) = false := beq_eq_false_iff_ne.2 (by omega)
  have e2 : (op == 2) = false := beq_eq_false_iff_ne.2 (by omega)
  have e3 : (op == 3) = false := beq_eq_false_iff_ne.2 (by omega)
  have g1 : ¬ 1 = op := by omega
  have g2 : ¬ 2 = op := by omega
  have g3 : ¬ 3 = op := by omega
  have m1 : ¬ op = 1 := by omega
  have m2 : ¬ op = 2 := by omega
  have m3 : ¬ op = 3 := by omega
  clear hop hop2
  cases zn with
  | true =>
    obtain rfl := text_empty (of_decide_eq_true h_zn.symm)
    clear h_zn
    cases zp with
    | true =>
      obtain rfl := text_empty (of_decide_eq_true h_zp.symm)
      clear h_zp
      cases r with
      | true =>
        cases z0 with
        | true =>
          obtain rfl : k = 0 := of_decide_eq_true h_z0.symm
          clear h_z0
          have hx0 : (w.alloc (.cells #[.int .i64 op, .slice A n c, .string ⟨#[]⟩, .string ⟨#[]⟩, .int .i64 0, .bool b, .int .i64 nn, .string s, .slice pA p.length pc] 29)).cell? ⟨w.heap.size, 0, none⟩ = some (.int .i64 op) := by simp [go_sem]
          have hx1 : (w.alloc (.cells #[.int .i64 op, .slice A n c, .string ⟨#[]⟩, .string ⟨#[]⟩, .int .i64 0, .bool b, .int .i64 nn, .string s, .slice pA p.length pc] 29)).cell? ⟨w.heap.size, 1, none⟩ = some (.slice A n c) := by simp [go_sem]
          go_enter Tryd.func41, Tryd.ntmps41
          go_upto_region 1 with (fail)
          refine wp_region_held_drew (S := (fun WW => WW.cell? ⟨w.heap.size, 0, none⟩ = some (.int .i64 op) ∧ WW.cell? ⟨w.heap.size, 1, none⟩ = some (.slice A n c))) (by kernel_rfl) ?_ (fun hHeld => ?_)
          · exact ⟨hx0, hx1⟩
          refine take_in (i := 0) (v := ?v0a) rfl (by kernel_rfl) (by kernel_rfl) (by kernel_rfl) (fun _ _ _ h => h) (by rfl) ?hy0a (by assumption) ?_
          case hy0a => intro WW hSw; (try dsimp only at hSw); go_simp; try with_reducible rfl
          try simp only [Act.put, List.setIfInBounds_toArray, List.set_cons_zero, List.set_cons_succ]
          refine take_in (i := 1) (v := ?v1a) rfl (by kernel_rfl) (by kernel_rfl) (by kernel_rfl) (fun _ _ _ h => h) (by rfl) ?hy1a (by assumption) ?_
          case hy1a => intro WW hSw; have h1 := hSw.1; have h2 := hSw.2; go_simp; try with_reducible rfl
          try simp only [Act.put, List.setIfInBounds_toArray, List.set_cons_zero, List.set_cons_succ]
          refine take_in (i := 2) (v := .bool false) rfl (by kernel_rfl) (by kernel_rfl) (by kernel_rfl) (fun _ _ _ h => h) (by rfl) ?hy2a (by assumption) ?_
          case hy2a => intro WW hSw; have hh := hlo; go_simp; try with_reducible rfl
          try simp only [Act.put, List.setIfInBounds_toArray, List.set_cons_zero, List.set_cons_succ]
          refine take_in (i := 3) (v := ?v3a) rfl (by kernel_rfl) (by kernel_rfl) (by kernel_rfl) (fun _ _ _ h => h) (by rfl) ?hy3a (by assumption) ?_
          case hy3a => intro WW hSw; (try dsimp only at hSw); go_simp; try with_reducible rfl
          try simp only [Act.put, List.setIfInBounds_toArray, List.set_cons_zero, List.set_cons_succ]
          refine take_in (i := 4) (v := ?v4a) rfl (by kernel_rfl) (by kernel_rfl) (by kernel_rfl) (fun _ _ _ h => h) (by rfl) ?hy4a (by assumption) ?_
          case hy4a => intro WW hSw; (try dsimp only at hSw); go_simp; try with_reducible rfl
          try simp only [Act.put, List.setIfInBounds_toArray, List.set_cons_zero, List.set_cons_succ]
          refine take_in (i := 5) (v := ?v5a) rfl (by kernel_rfl) (by kernel_rfl) (by kernel_rfl) (fun _ _ _ h => h) (by rfl) ?hy5a (by assumption) ?_
          case hy5a => intro WW hSw; have h1 := hSw.1; have h2 := hSw.2; go_simp; try with_reducible rfl
          try simp only [Act.put, List.setIfInBounds_toArray, List.set_cons_zero, List.set_cons_succ]
          refine take_in (i := 6) (v := .bool false) rfl (by kernel_rfl) (by kernel_rfl) (by kernel_rfl) (fun _ _ _ h => h) (by rfl) ?hy6a (by assumption) ?_
          case hy6a => intro WW hSw; have hh := hhi; go_simp; try with_reducible rfl
          try simp only [Act.put, List.setIfInBounds_toArray, List.set_cons_zero, List.set_cons_succ]
          refine take_in (i := 7) (v := ?v7a) rfl (by kernel_rfl) (by kernel_rfl) (by kernel_rfl) (fun _ _ _ h => h) (by rfl) ?hy7a (by assumption) ?_
          case hy7a => intro WW hSw; (try dsimp only at hSw); go_simp; try with_reducible rfl
          try simp only [Act.put, List.setIfInBounds_toArray, List.set_cons_zero, List.set_cons_succ]
          refine take_in (i := 8) (v := ?v8a) rfl (by kernel_rfl) (by kernel_rfl) (by kernel_rfl) (fun _ _ _ h => h) (by rfl) ?hy8a (by assumption) ?_
          case hy8a => intro WW hSw; (try dsimp only at hSw); go_simp; try with_reducible rfl
          try simp only [Act.put, List.setIfInBounds_toArray, List.set_cons_zero, List.set_cons_succ]
          refine take_in (i := 9) (v := ?v9a) rfl (by kernel_rfl) (by kernel_rfl) (by kernel_rfl) (fun _ _ _ h => h) (by rfl) ?hy9a (by assumption) ?_
          case hy9a => intro WW hSw; (try dsimp only at hSw); go_simp; try with_reducible rfl
          try simp only [Act.put, List.setIfInBounds_toArray, List.set_cons_zero, List.set_cons_succ]
          refine take_in (i := 10) (v := ?v10a) rfl (by kernel_rfl) (by kernel_rfl) (by kernel_rfl) (fun _ _ _ h => h) (by rfl) ?hy10a (by assumption) ?_
          case hy10a => intro WW hSw; have h1 := hSw.1; have h2 := hSw.2; go_simp; try with_reducible rfl
          try simp only [Act.put, List.setIfInBounds_toArray, List.set_cons_zero, List.set_cons_succ]
          refine take_in (i := 11) (v := ?v11a) rfl (by kernel_rfl) (by kernel_rfl) (by kernel_rfl) (fun _ _ _ h => h) (by rfl) ?hy11a (by assumption) ?_
          case hy11a => intro WW hSw; (try dsimp only at hSw); go_simp; try with_reducible rfl
          try simp only [Act.put, List.setIfInBounds_toArray, List.set_cons_zero, List.set_cons_succ]
          refine take_in (i := 12) (v := ?v12a) rfl (by kernel_rfl) (by kernel_rfl) (by kernel_rfl) (fun _ _ _ h => h) (by rfl) ?hy12a (by assumption) ?_
          case hy12a => intro WW hSw; (try dsimp only at hSw); go_simp; try with_reducible rfl
          try simp only [Act.put, List.setIfInBounds_toArray, List.set_cons_zero, List.set_cons_succ]
          refine take_in (i := 13) (v := ?v13a) rfl (by kernel_rfl) (by kernel_rfl) (by kernel_rfl) (fun _ _ _ h => h) (by rfl) ?hy13a (by assumption) ?_
          case hy13a => intro WW hSw; have h1 := hSw.1; have h2 := hSw.2; go_simp; try with_reducible rfl
          try simp only [Act.put, List.setIfInBounds_toArray, List.set_cons_zero, List.set_cons_succ]
          refine one_step (i := 14) (by kernel_rfl) rfl (fun K hK => ?_)
          go_simp
          go_at_call 63
          refine (hkd _).mono ?_
          rintro e w8 ⟨rfl, rfl⟩
          refine hK.out _ _ ?_ (fun hHeld => ?_)
          · exact ⟨hx0, hx1⟩
          clear hK K
          try simp only [Act.put, List.setIfInBounds_toArray, List.set_cons_zero, List.set_cons_succ]
          refine take_in (i := 15) (v := .bool false) rfl (by kernel_rfl) (by kernel_rfl) (by kernel_rfl) (fun _ _ _ h => h) (by rfl) ?hy15a (by assumption) ?_
          case hy15a => intro WW hSw; have hh := hln; go_simp; try with_reducible rfl
          try simp only [Act.put, List.setIfInBounds_toArray, List.set_cons_zero, List.set_cons_succ]
          refine take_in (i := 16) (v := ?v16a) rfl (by kernel_rfl) (by kernel_rfl) (by kernel_rfl) (fun _ _ _ h => h) (by rfl) ?hy16a (by assumption) ?_
          case hy16a => intro WW hSw; (try dsimp only at hSw); go_simp; try with_reducible rfl
          try simp only [Act.put, List.setIfInBounds_toArray, List.set_cons_zero, List.set_cons_succ]
          refine wpAnyH_done (by kernel_rfl) ?_ _
          clear hx0 hx1
          go_wp2_with (go_at_call 64; refine (hR _ (by repeat (first | exact Below.refl _ _ | assumption | apply below_more | apply below_drew))).mono ?_; rintro e w2 ⟨rfl, hb2⟩; have hbx2 : ∀ i, w2.cell? ⟨w.heap.size, i, none⟩ = (#[.int .i64 op, .slice A n c, .string ⟨#[]⟩, .string ⟨#[]⟩, .int .i64 0, .bool b, .int .i64 nn, .string s, .slice pA p.length pc] : Array Value)[i]? := (fun i => (hb2.cell (p := ⟨w.heap.size, i, none⟩) (by first | omega | (simp; done) | (simp; omega))).trans (by simp [go_sem])); have hbv : ∀ i, w2.cell? ⟨w.heap.size + 1, i, none⟩ = (#[.int .i64 0, .bool b, .int .i64 nn, .string s, .slice pA p.length pc] : Array Value)[i]? := (fun i => (hb2.cell (p := ⟨w.heap.size + 1, i, none⟩) (by first | omega | (simp; done) | (simp; omega))).trans (by simp [go_sem])); have HB2 : Below w.heap.size w w2 := below_then (by repeat (first | exact Below.refl _ _ | assumption | apply below_more | apply below_drew)) hb2; clear hb2)
          go_ret
          exact ⟨by first | rfl | (simp; omega), by repeat (first | exact Below.refl _ _ | assumption | apply below_more | apply below_drew)⟩
        | false =>
          have f_z0 : (k == 0) = false := beq_eq_false_iff_ne.2 (of_decide_eq_false h_z0.symm)
          have g_z0 : ¬ 0 = k := fun e => of_decide_eq_false h_z0.symm e.symm
          have m_z0 : ¬ k = 0 := of_decide_eq_false h_z0.symm
          clear h_z0
          have hx0 : (w.alloc (.cells #[.int .i64 op, .slice A n c, .string ⟨#[]⟩, .string ⟨#[]⟩, .int .i64 k, .bool b, .int .i64 nn, .string s, .slice pA p.length pc] 29)).cell? ⟨w.heap.size, 0, none⟩ = some (.int .i64 op) := by simp [go_sem]
          have hx1 : (w.alloc (.cells #[.int .i64 op, .slice A n c, .string ⟨#[]⟩, .string ⟨#[]⟩, .int .i64 k, .bool b, .int .i64 nn, .string s, .slice pA p.length pc] 29)).cell? ⟨w.heap.size, 1, none⟩ = some (.slice A n c) := by simp [go_sem]
          go_enter Tryd.func41, Tryd.ntmps41
          go_upto_region 1 with (fail)
          refine wp_region_held_drew (S := (fun WW => WW.cell? ⟨w.heap.size, 0, none⟩ = some (.int .i64 op) ∧ WW.cell? ⟨w.heap.size, 1, none⟩ = some (.slice A n c))) (by kernel_rfl) ?_ (fun hHeld => ?_)
          · exact ⟨hx0, hx1⟩
          refine take_in (i := 0) (v := ?v0a) rfl (by kernel_rfl) (by kernel_rfl) (by kernel_rfl) (fun _ _ _ h => h) (by rfl) ?hy0a (by assumption) ?_
          case hy0a => intro WW hSw; (try dsimp only at hSw); go_simp; try with_reducible rfl
          try simp only [Act.put, List.setIfInBounds_toArray, List.set_cons_zero, List.set_cons_succ]
          refine take_in (i := 1) (v := ?v1a) rfl (by kernel_rfl) (by kernel_rfl) (by kernel_rfl) (fun _ _ _ h => h) (by rfl) ?hy1a (by assumption) ?_
          case hy1a => intro WW hSw; have h1 := hSw.1; have h2 := hSw.2; go_simp; try with_reducible rfl
          try simp only [Act.put, List.setIfInBounds_toArray, List.set_cons_zero, List.set_cons_succ]
          refine take_in (i := 2) (v := .bool false) rfl (by kernel_rfl) (by kernel_rfl) (by kernel_rfl) (fun _ _ _ h => h) (by rfl) ?hy2a (by assumption) ?_
          case hy2a => intro WW hSw; have hh := hlo; go_simp; try with_reducible rfl
          try simp only [Act.put, List.setIfInBounds_toArray, List.set_cons_zero, List.set_cons_succ]
          refine take_in (i := 3) (v := ?v3a) rfl (by kernel_rfl) (by kernel_rfl) (by kernel_rfl) (fun _ _ _ h => h) (by rfl) ?hy3a (by assumption) ?_
          case hy3a => intro WW hSw; (try dsimp only at hSw); go_simp; try with_reducible rfl
          try simp only [Act.put, List.setIfInBounds_toArray, List.set_cons_zero, List.set_cons_succ]
          refine take_in (i := 4) (v := ?v4a) rfl (by kernel_rfl) (by kernel_rfl) (by kernel_rfl) (fun _ _ _ h => h) (by rfl) ?hy4a (by assumption) ?_
          case hy4a => intro WW hSw; (try dsimp only at hSw); go_simp; try with_reducible rfl
          try simp only [Act.put, List.setIfInBounds_toArray, List.set_cons_zero, List.set_cons_succ]
          refine take_in (i := 5) (v := ?v5a) rfl (by kernel_rfl) (by kernel_rfl) (by kernel_rfl) (fun _ _ _ h => h) (by rfl) ?hy5a (by assumption) ?_
          case hy5a => intro WW hSw; have h1 := hSw.1; have h2 := hSw.2; go_simp; try with_reducible rfl
          try simp only [Act.put, List.setIfInBounds_toArray, List.set_cons_zero, List.set_cons_succ]
          refine take_in (i := 6) (v := .bool false) rfl (by kernel_rfl) (by kernel_rfl) (by kernel_rfl) (fun _ _ _ h => h) (by rfl) ?hy6a (by assumption) ?_
          case hy6a => intro WW hSw; have hh := hhi; go_simp; try with_reducible rfl
          try simp only [Act.put, List.setIfInBounds_toArray, List.set_cons_zero, List.set_cons_succ]
          refine take_in (i := 7) (v := ?v7a) rfl (by kernel_rfl) (by kernel_rfl) (by kernel_rfl) (fun _ _ _ h => h) (by rfl) ?hy7a (by assumption) ?_
          case hy7a => intro WW hSw; (try dsimp only at hSw); go_simp; try with_reducible rfl
          try simp only [Act.put, List.setIfInBounds_toArray, List.set_cons_zero, List.set_cons_succ]
          refine take_in (i := 8) (v := ?v8a) rfl (by kernel_rfl) (by kernel_rfl) (by kernel_rfl) (fun _ _ _ h => h) (by rfl) ?hy8a (by assumption) ?_
          case hy8a => intro WW hSw; (try dsimp only at hSw); go_simp; try with_reducible rfl
          try simp only [Act.put, List.setIfInBounds_toArray, List.set_cons_zero, List.set_cons_succ]
          refine take_in (i := 9) (v := ?v9a) rfl (by kernel_rfl) (by kernel_rfl) (by kernel_rfl) (fun _ _ _ h => h) (by rfl) ?hy9a (by assumption) ?_
          case hy9a => intro WW hSw; (try dsimp only at hSw); go_simp; try with_reducible rfl
          try simp only [Act.put, List.setIfInBounds_toArray, List.set_cons_zero, List.set_cons_succ]
          refine take_in (i := 10) (v := ?v10a) rfl (by kernel_rfl) (by kernel_rfl) (by kernel_rfl) (fun _ _ _ h => h) (by rfl) ?hy10a (by assumption) ?_
          case hy10a => intro WW hSw; have h1 := hSw.1; have h2 := hSw.2; go_simp; try with_reducible rfl
          try simp only [Act.put, List.setIfInBounds_toArray, List.set_cons_zero, List.set_cons_succ]
          refine take_in (i := 11) (v := ?v11a) rfl (by kernel_rfl) (by kernel_rfl) (by kernel_rfl) (fun _ _ _ h => h) (by rfl) ?hy11a (by assumption) ?_
          case hy11a => intro WW hSw; (try dsimp only at hSw); go_simp; try with_reducible rfl
          try simp only [Act.put, List.setIfInBounds_toArray, List.set_cons_zero, List.set_cons_succ]
          refine take_in (i := 12) (v := ?v12a) rfl (by kernel_rfl) (by kernel_rfl) (by kernel_rfl) (fun _ _ _ h => h) (by rfl) ?hy12a (by assumption) ?_
          case hy12a => intro WW hSw; (try dsimp only at hSw); go_simp; try with_reducible rfl
          try simp only [Act.put, List.setIfInBounds_toArray, List.set_cons_zero, List.set_cons_succ]
          refine take_in (i := 13) (v := ?v13a) rfl (by kernel_rfl) (by kernel_rfl) (by kernel_rfl) (fun _ _ _ h => h) (by rfl) ?hy13a (by assumption) ?_
          case hy13a => intro WW hSw; have h1 := hSw.1; have h2 := hSw.2; go_simp; try with_reducible rfl
          try simp only [Act.put, List.setIfInBounds_toArray, List.set_cons_zero, List.set_cons_succ]
          refine one_step (i := 14) (by kernel_rfl) rfl (fun K hK => ?_)
          go_simp
          go_at_call 63
          refine (hkd _).mono ?_
          rintro e w8 ⟨rfl, rfl⟩
          refine hK.out _ _ ?_ (fun hHeld => ?_)
          · exact ⟨hx0, hx1⟩
          clear hK K
          try simp only [Act.put, List.setIfInBounds_toArray, List.set_cons_zero, List.set_cons_succ]
          refine take_in (i := 15) (v := .bool false) rfl (by kernel_rfl) (by kernel_rfl) (by kernel_rfl) (fun _ _ _ h => h) (by rfl) ?hy15a (by assumption) ?_
          case hy15a => intro WW hSw; have hh := hln; go_simp; try with_reducible rfl
          try simp only [Act.put, List.setIfInBounds_toArray, List.set_cons_zero, List.set_cons_succ]
          refine take_in (i := 16) (v := ?v16a) rfl (by kernel_rfl) (by kernel_rfl) (by kernel_rfl) (fun _ _ _ h => h) (by rfl) ?hy16a (by assumption) ?_
          case hy16a => intro WW hSw; (try dsimp only at hSw); go_simp; try with_reducible rfl
          try simp only [Act.put, List.setIfInBounds_toArray, List.set_cons_zero, List.set_cons_succ]
          refine wpAnyH_done (by kernel_rfl) ?_ _
          clear hx0 hx1
          go_wp2_with (go_at_call 64; refine (hR _ (by repeat (first | exact Below.refl _ _ | assumption | apply below_more | apply below_drew))).mono ?_; rintro e w2 ⟨rfl, hb2⟩; have hbx2 : ∀ i, w2.cell? ⟨w.heap.size, i, none⟩ = (#[.int .i64 op, .slice A n c, .string ⟨#[]⟩, .string ⟨#[]⟩, .int .i64 k, .bool b, .int .i64 nn, .string s, .slice pA p.length pc] : Array Value)[i]? := (fun i => (hb2.cell (p := ⟨w.heap.size, i, none⟩) (by first | omega | (simp; done) | (simp; omega))).trans (by simp [go_sem])); have hbv : ∀ i, w2.cell? ⟨w.heap.size + 1, i, none⟩ = (#[.int .i64 k, .bool b, .int .i64 nn, .string s, .slice pA p.length pc] : Array Value)[i]? := (fun i => (hb2.cell (p := ⟨w.heap.size + 1, i, none⟩) (by first | omega | (simp; done) | (simp; omega))).trans (by simp [go_sem])); have HB2 : Below w.heap.size w w2 := below_then (by repeat (first | exact Below.refl _ _ | assumption | apply below_more | apply below_drew)) hb2; clear hb2)
          go_ret
          exact ⟨by first | rfl | (simp; omega), by repeat (first | exact Below.refl _ _ | assumption | apply below_more | apply below_drew)⟩
      | false =>
        clear h_z0
        have hx0 : (w.alloc (.cells #[.int .i64 op, .slice A n c, .string ⟨#[]⟩, .string ⟨#[]⟩, .int .i64 k, .bool b, .int .i64 nn, .string s, .slice pA p.length pc] 29)).cell? ⟨w.heap.size, 0, none⟩ = some (.int .i64 op) := by simp [go_sem]
        have hx1 : (w.alloc (.cells #[.int .i64 op, .slice A n c, .string ⟨#[]⟩, .string ⟨#[]⟩, .int .i64 k, .bool b, .int .i64 nn, .string s, .slice pA p.length pc] 29)).cell? ⟨w.heap.size, 1, none⟩ = some (.slice A n c) := by simp [go_sem]
        go_enter Tryd.func41, Tryd.ntmps41
        go_upto_region 1 with (fail)
        refine wp_region_held_drew (S := (fun WW => WW.cell? ⟨w.heap.size, 0, none⟩ = some (.int .i64 op) ∧ WW.cell? ⟨w.heap.size, 1, none⟩ = some (.slice A n c))) (by kernel_rfl) ?_ (fun hHeld => ?_)
        · exact ⟨hx0, hx1⟩
        refine take_in (i := 0) (v := ?v0a) rfl (by kernel_rfl) (by kernel_rfl) (by kernel_rfl) (fun _ _ _ h => h) (by rfl) ?hy0a (by assumption) ?_
        case hy0a => intro WW hSw; (try dsimp only at hSw); go_simp; try with_reducible rfl
        try simp only [Act.put, List.setIfInBounds_toArray, List.set_cons_zero, List.set_cons_succ]
        refine take_in (i := 1) (v := ?v1a) rfl (by kernel_rfl) (by kernel_rfl) (by kernel_rfl) (fun _ _ _ h => h) (by rfl) ?hy1a (by assumption) ?_
        case hy1a => intro WW hSw; have h1 := hSw.1; have h2 := hSw.2; go_simp; try with_reducible rfl
        try simp only [Act.put, List.setIfInBounds_toArray, List.set_cons_zero, List.set_cons_succ]
        refine take_in (i := 2) (v := .bool false) rfl (by kernel_rfl) (by kernel_rfl) (by kernel_rfl) (fun _ _ _ h => h) (by rfl) ?hy2a (by assumption) ?_
        case hy2a => intro WW hSw; have hh := hlo; go_simp; try with_reducible rfl
        try simp only [Act.put, List.setIfInBounds_toArray, List.set_cons_zero, List.set_cons_succ]
        refine take_in (i := 3) (v := ?v3a) rfl (by kernel_rfl) (by kernel_rfl) (by kernel_rfl) (fun _ _ _ h => h) (by rfl) ?hy3a (by assumption) ?_
        case hy3a => intro WW hSw; (try dsimp only at hSw); go_simp; try with_reducible rfl
        try simp only [Act.put, List.setIfInBounds_toArray, List.set_cons_zero, List.set_cons_succ]
        refine take_in (i := 4) (v := ?v4a) rfl (by kernel_rfl) (by kernel_rfl) (by kernel_rfl) (fun _ _ _ h => h) (by rfl) ?hy4a (by assumption) ?_
        case hy4a => intro WW hSw; (try dsimp only at hSw); go_simp; try with_reducible rfl
        try simp only [Act.put, List.setIfInBounds_toArray, List.set_cons_zero, List.set_cons_succ]
        refine take_in (i := 5) (v := ?v5a) rfl (by kernel_rfl) (by kernel_rfl) (by kernel_rfl) (fun _ _ _ h => h) (by rfl) ?hy5a (by assumption) ?_
        case hy5a => intro WW hSw; have h1 := hSw.1; have h2 := hSw.2; go_simp; try with_reducible rfl
        try simp only [Act.put, List.setIfInBounds_toArray, List.set_cons_zero, List.set_cons_succ]
        refine take_in (i := 6) (v := .bool false) rfl (by kernel_rfl) (by kernel_rfl) (by kernel_rfl) (fun _ _ _ h => h) (by rfl) ?hy6a (by assumption) ?_
        case hy6a => intro WW hSw; have hh := hhi; go_simp; try with_reducible rfl
        try simp only [Act.put, List.setIfInBounds_toArray, List.set_cons_zero, List.set_cons_succ]
        refine take_in (i := 7) (v := ?v7a) rfl (by kernel_rfl) (by kernel_rfl) (by kernel_rfl) (fun _ _ _ h => h) (by rfl) ?hy7a (by assumption) ?_
        case hy7a => intro WW hSw; (try dsimp only at hSw); go_simp; try with_reducible rfl
        try simp only [Act.put, List.setIfInBounds_toArray, List.set_cons_zero, List.set_cons_succ]
        refine take_in (i := 8) (v := ?v8a) rfl (by kernel_rfl) (by kernel_rfl) (by kernel_rfl) (fun _ _ _ h => h) (by rfl) ?hy8a (by assumption) ?_
        case hy8a => intro WW hSw; (try dsimp only at hSw); go_simp; try with_reducible rfl
        try simp only [Act.put, List.setIfInBounds_toArray, List.set_cons_zero, List.set_cons_succ]
        refine take_in (i := 9) (v := ?v9a) rfl (by kernel_rfl) (by kernel_rfl) (by kernel_rfl) (fun _ _ _ h => h) (by rfl) ?hy9a (by assumption) ?_
        case hy9a => intro WW hSw; (try dsimp only at hSw); go_simp; try with_reducible rfl
        try simp only [Act.put, List.setIfInBounds_toArray, List.set_cons_zero, List.set_cons_succ]
        refine take_in (i := 10) (v := ?v10a) rfl (by kernel_rfl) (by kernel_rfl) (by kernel_rfl) (fun _ _ _ h => h) (by rfl) ?hy10a (by assumption) ?_
        case hy10a => intro WW hSw; have h1 := hSw.1; have h2 := hSw.2; go_simp; try with_reducible rfl
        try simp only [Act.put, List.setIfInBounds_toArray, List.set_cons_zero, List.set_cons_succ]
        refine take_in (i := 11) (v := ?v11a) rfl (by kernel_rfl) (by kernel_rfl) (by kernel_rfl) (fun _ _ _ h => h) (by rfl) ?hy11a (by assumption) ?_
        case hy11a => intro WW hSw; (try dsimp only at hSw); go_simp; try with_reducible rfl
        try simp only [Act.put, List.setIfInBounds_toArray, List.set_cons_zero, List.set_cons_succ]
        refine take_in (i := 12) (v := ?v12a) rfl (by kernel_rfl) (by kernel_rfl) (by kernel_rfl) (fun _ _ _ h => h) (by rfl) ?hy12a (by assumption) ?_
        case hy12a => intro WW hSw; (try dsimp only at hSw); go_simp; try with_reducible rfl
        try simp only [Act.put, List.setIfInBounds_toArray, List.set_cons_zero, List.set_cons_succ]
        refine take_in (i := 13) (v := ?v13a) rfl (by kernel_rfl) (by kernel_rfl) (by kernel_rfl) (fun _ _ _ h => h) (by rfl) ?hy13a (by assumption) ?_
        case hy13a => intro WW hSw; have h1 := hSw.1; have h2 := hSw.2; go_simp; try with_reducible rfl
        try simp only [Act.put, List.setIfInBounds_toArray, List.set_cons_zero, List.set_cons_succ]
        refine one_step (i := 14) (by kernel_rfl) rfl (fun K hK => ?_)
        go_simp
        go_at_call 63
        refine (hkd _).mono ?_
        rintro e w8 ⟨rfl, rfl⟩
        refine hK.out _ _ ?_ (fun hHeld => ?_)
        · exact ⟨hx0, hx1⟩
        clear hK K
        try simp only [Act.put, List.setIfInBounds_toArray, List.set_cons_zero, List.set_cons_succ]
        refine take_in (i := 15) (v := .bool false) rfl (by kernel_rfl) (by kernel_rfl) (by kernel_rfl) (fun _ _ _ h => h) (by rfl) ?hy15a (by assumption) ?_
        case hy15a => intro WW hSw; have hh := hln; go_simp; try with_reducible rfl
        try simp only [Act.put, List.setIfInBounds_toArray, List.set_cons_zero, List.set_cons_succ]
        refine take_in (i := 16) (v := ?v16a) rfl (by kernel_rfl) (by kernel_rfl) (by kernel_rfl) (fun _ _ _ h => h) (by rfl) ?hy16a (by assumption) ?_
        case hy16a => intro WW hSw; (try dsimp only at hSw); go_simp; try with_reducible rfl
        try simp only [Act.put, List.setIfInBounds_toArray, List.set_cons_zero, List.set_cons_succ]
        refine wpAnyH_done (by kernel_rfl) ?_ _
        clear hx0 hx1
        go_wp2_with (go_at_call 64; refine (hR _ (by repeat (first | exact Below.refl _ _ | assumption | apply below_more | apply below_drew))).mono ?_; rintro e w2 ⟨rfl, hb2⟩; have hbx2 : ∀ i, w2.cell? ⟨w.heap.size, i, none⟩ = (#[.int .i64 op, .slice A n c, .string ⟨#[]⟩, .string ⟨#[]⟩, .int .i64 k, .bool b, .int .i64 nn, .string s, .slice pA p.length pc] : Array Value)[i]? := (fun i => (hb2.cell (p := ⟨w.heap.size, i, none⟩) (by first | omega | (simp; done) | (simp; omega))).trans (by simp [go_sem])); have hbv : ∀ i, w2.cell? ⟨w.heap.size + 1, i, none⟩ = (#[.int .i64 k, .bool b, .int .i64 nn, .string s, .slice pA p.length pc] : Array Value)[i]? := (fun i => (hb2.cell (p := ⟨w.heap.size + 1, i, none⟩) (by first | omega | (simp; done) | (simp; omega))).trans (by simp [go_sem])); have HB2 : Below w.heap.size w w2 := below_then (by repeat (first | exact Below.refl _ _ | assumption | apply below_more | apply below_drew)) hb2; clear hb2)
        go_ret
        exact ⟨by first | rfl | (simp; omega), by repeat (first | exact Below.refl _ _ | assumption | apply below_more | apply below_drew)⟩
    | false =>
      obtain ⟨e1_pr, e2_pr, e3_pr⟩ := text_some (of_decide_eq_false h_zp.symm)
      clear h_zp
      have e0 : (r && (z0 && (true && false))) = false := by cases r <;> cases z0 <;> rfl
      rw [e0]
      clear h_z0
      have hx0 : (w.alloc (.cells #[.int .i64 op, .slice A n c, .string ⟨#[]⟩, .string pr, .int .i64 k, .bool b, .int .i64 nn, .string s, .slice pA p.length pc] 29)).cell? ⟨w.heap.size, 0, none⟩ = some (.int .i64 op) := by simp [go_sem]
      have hx1 : (w.alloc (.cells #[.int .i64 op, .slice A n c, .string ⟨#[]⟩, .string pr, .int .i64 k, .bool b, .int .i64 nn, .string s, .slice pA p.length pc] 29)).cell? ⟨w.heap.size, 1, none⟩ = some (.slice A n c) := by simp [go_sem]
      go_enter Tryd.func41, Tryd.ntmps41
      go_upto_region 1 with (fail)
      refine wp_region_held_drew (S := (fun WW => WW.cell? ⟨w.heap.size, 0, none⟩ = some (.int .i64 op) ∧ WW.cell? ⟨w.heap.size, 1, none⟩ = some (.slice A n c))) (by kernel_rfl) ?_ (fun hHeld => ?_)
      · exact ⟨hx0, hx1⟩
      refine take_in (i := 0) (v := ?v0a) rfl (by kernel_rfl) (by kernel_rfl) (by kernel_rfl) (fun _ _ _ h => h) (by rfl) ?hy0a (by assumption) ?_
      case hy0a => intro WW hSw; (try dsimp only at hSw); go_simp; try with_reducible rfl
      try simp only [Act.put, List.setIfInBounds_toArray, List.set_cons_zero, List.set_cons_succ]
      refine take_in (i := 1) (v := ?v1a) rfl (by kernel_rfl) (by kernel_rfl) (by kernel_rfl) (fun _ _ _ h => h) (by rfl) ?hy1a (by assumption) ?_
      case hy1a => intro WW hSw; have h1 := hSw.1; have h2 := hSw.2; go_simp; try with_reducible rfl
      try simp only [Act.put, List.setIfInBounds_toArray, List.set_cons_zero, List.set_cons_succ]
      refine take_in (i := 2) (v := .bool false) rfl (by kernel_rfl) (by kernel_rfl) (by kernel_rfl) (fun _ _ _ h => h) (by rfl) ?hy2a (by assumption) ?_
      case hy2a => intro WW hSw; have hh := hlo; go_simp; try with_reducible rfl
      try simp only [Act.put, List.setIfInBounds_toArray, List.set_cons_zero, List.set_cons_succ]
      refine take_in (i := 3) (v := ?v3a) rfl (by kernel_rfl) (by kernel_rfl) (by kernel_rfl) (fun _ _ _ h => h) (by rfl) ?hy3a (by assumption) ?_
      case hy3a => intro WW hSw; (try dsimp only at hSw); go_simp; try with_reducible rfl
      try simp only [Act.put, List.setIfInBounds_toArray, List.set_cons_zero, List.set_cons_succ]
      refine take_in (i := 4) (v := ?v4a) rfl (by kernel_rfl) (by kernel_rfl) (by kernel_rfl) (fun _ _ _ h => h) (by rfl) ?hy4a (by assumption) ?_
      case hy4a => intro WW hSw; (try dsimp only at hSw); go_simp; try with_reducible rfl
      try simp only [Act.put, List.setIfInBounds_toArray, List.set_cons_zero, List.set_cons_succ]
      refine take_in (i := 5) (v := ?v5a) rfl (by kernel_rfl) (by kernel_rfl) (by kernel_rfl) (fun _ _ _ h => h) (by rfl) ?hy5a (by assumption) ?_
      case hy5a => intro WW hSw; have h1 := hSw.1; have h2 := hSw.2; go_simp; try with_reducible rfl
      try simp only [Act.put, List.setIfInBounds_toArray, List.set_cons_zero, List.set_cons_succ]
      refine take_in (i := 6) (v := .bool false) rfl (by kernel_rfl) (by kernel_rfl) (by kernel_rfl) (fun _ _ _ h => h) (by rfl) ?hy6a (by assumption) ?_
      case hy6a => intro WW hSw; have hh := hhi; go_simp; try with_reducible rfl
      try simp only [Act.put, List.setIfInBounds_toArray, List.set_cons_zero, List.set_cons_succ]
      refine take_in (i := 7) (v := ?v7a) rfl (by kernel_rfl) (by kernel_rfl) (by kernel_rfl) (fun _ _ _ h => h) (by rfl) ?hy7a (by assumption) ?_
      case hy7a => intro WW hSw; (try dsimp only at hSw); go_simp; try with_reducible rfl
      try simp only [Act.put, List.setIfInBounds_toArray, List.set_cons_zero, List.set_cons_succ]
      refine take_in (i := 8) (v := ?v8a) rfl (by kernel_rfl) (by kernel_rfl) (by kernel_rfl) (fun _ _ _ h => h) (by rfl) ?hy8a (by assumption) ?_
      case hy8a => intro WW hSw; (try dsimp only at hSw); go_simp; try with_reducible rfl
      try simp only [Act.put, List.setIfInBounds_toArray, List.set_cons_zero, List.set_cons_succ]
      refine take_in (i := 9) (v := ?v9a) rfl (by kernel_rfl) (by kernel_rfl) (by kernel_rfl) (fun _ _ _ h => h) (by rfl) ?hy9a (by assumption) ?_
      case hy9a => intro WW hSw; (try dsimp only at hSw); go_simp; try with_reducible rfl
      try simp only [Act.put, List.setIfInBounds_toArray, List.set_cons_zero, List.set_cons_succ]
      refine take_in (i := 10) (v := ?v10a) rfl (by kernel_rfl) (by kernel_rfl) (by kernel_rfl) (fun _ _ _ h => h) (by rfl) ?hy10a (by assumption) ?_
      case hy10a => intro WW hSw; have h1 := hSw.1; have h2 := hSw.2; go_simp; try with_reducible rfl
      try simp only [Act.put, List.setIfInBounds_toArray, List.set_cons_zero, List.set_cons_succ]
      refine take_in (i := 11) (v := ?v11a) rfl (by kernel_rfl) (by kernel_rfl) (by kernel_rfl) (fun _ _ _ h => h) (by rfl) ?hy11a (by assumption) ?_
      case hy11a => intro WW hSw; (try dsimp only at hSw); go_simp; try with_reducible rfl
      try simp only [Act.put, List.setIfInBounds_toArray, List.set_cons_zero, List.set_cons_succ]
      refine take_in (i := 12) (v := ?v12a) rfl (by kernel_rfl) (by kernel_rfl) (by kernel_rfl) (fun _ _ _ h => h) (by rfl) ?hy12a (by assumption) ?_
      case hy12a => intro WW hSw; (try dsimp only at hSw); go_simp; try with_reducible rfl
      try simp only [Act.put, List.setIfInBounds_toArray, List.set_cons_zero, List.set_cons_succ]
      refine take_in (i := 13) (v := ?v13a) rfl (by kernel_rfl) (by kernel_rfl) (by kernel_rfl) (fun _ _ _ h => h) (by rfl) ?hy13a (by assumption) ?_
      case hy13a => intro WW hSw; have h1 := hSw.1; have h2 := hSw.2; go_simp; try with_reducible rfl
      try simp only [Act.put, List.setIfInBounds_toArray, List.set_cons_zero, List.set_cons_succ]
      refine one_step (i := 14) (by kernel_rfl) rfl (fun K hK => ?_)
      go_simp
      go_at_call 63
      refine (hkd _).mono ?_
      rintro e w8 ⟨rfl, rfl⟩
      refine hK.out _ _ ?_ (fun hHeld => ?_)
      · exact ⟨hx0, hx1⟩
      clear hK K
      try simp only [Act.put, List.setIfInBounds_toArray, List.set_cons_zero, List.set_cons_succ]
      refine take_in (i := 15) (v := .bool false) rfl (by kernel_rfl) (by kernel_rfl) (by kernel_rfl) (fun _ _ _ h => h) (by rfl) ?hy15a (by assumption) ?_
      case hy15a => intro WW hSw; have hh := hln; go_simp; try with_reducible rfl
      try simp only [Act.put, List.setIfInBounds_toArray, List.set_cons_zero, List.set_cons_succ]
      refine take_in (i := 16) (v := ?v16a) rfl (by kernel_rfl) (by kernel_rfl) (by kernel_rfl) (fun _ _ _ h => h) (by rfl) ?hy16a (by assumption) ?_
      case hy16a => intro WW hSw; (try dsimp only at hSw); go_simp; try with_reducible rfl
      try simp only [Act.put, List.setIfInBounds_toArray, List.set_cons_zero, List.set_cons_succ]
      refine wpAnyH_done (by kernel_rfl) ?_ _
      clear hx0 hx1
      go_wp2
      go_ret
      exact ⟨by first | rfl | (simp; omega), by repeat (first | exact Below.refl _ _ | assumption | apply below_more | apply below_drew)⟩
  | false =>
    obtain ⟨e1_nm, e2_nm, e3_nm⟩ := text_some (of_decide_eq_false h_zn.symm)
    clear h_zn
    have e0 : (r && (z0 && (false && zp))) = false := by cases r <;> cases z0 <;> rfl
    rw [e0]
    clear h_z0 h_zp
    have hx0 : (w.alloc (.cells #[.int .i64 op, .slice A n c, .string nm, .string pr, .int .i64 k, .bool b, .int .i64 nn, .string s, .slice pA p.length pc] 29)).cell? ⟨w.heap.size, 0, none⟩ = some (.int .i64 op) := by simp [go_sem]
    have hx1 : (w.alloc (.cells #[.int .i64 op, .slice A n c, .string nm, .string pr, .int .i64 k, .bool b, .int .i64 nn, .string s, .slice pA p.length pc] 29)).cell? ⟨w.heap.size, 1, none⟩ = some (.slice A n c) := by simp [go_sem]
    go_enter Tryd.func41, Tryd.ntmps41
    go_upto_region 1 with (fail)
    refine wp_region_held_drew (S := (fun WW => WW.cell? ⟨w.heap.size, 0, none⟩ = some (.int .i64 op) ∧ WW.cell? ⟨w.heap.size, 1, none⟩ = some (.slice A n c))) (by kernel_rfl) ?_ (fun hHeld => ?_)
    · exact ⟨hx0, hx1⟩
    refine take_in (i := 0) (v := ?v0a) rfl (by kernel_rfl) (by kernel_rfl) (by kernel_rfl) (fun _ _ _ h => h) (by rfl) ?hy0a (by assumption) ?_
    case hy0a => intro WW hSw; (try dsimp only at hSw); go_simp; try with_reducible rfl
    try simp only [Act.put, List.setIfInBounds_toArray, List.set_cons_zero, List.set_cons_succ]
    refine take_in (i := 1) (v := ?v1a) rfl (by kernel_rfl) (by kernel_rfl) (by kernel_rfl) (fun _ _ _ h => h) (by rfl) ?hy1a (by assumption) ?_
    case hy1a => intro WW hSw; have h1 := hSw.1; have h2 := hSw.2; go_simp; try with_reducible rfl
    try simp only [Act.put, List.setIfInBounds_toArray, List.set_cons_zero, List.set_cons_succ]
    refine take_in (i := 2) (v := .bool false) rfl (by kernel_rfl) (by kernel_rfl) (by kernel_rfl) (fun _ _ _ h => h) (by rfl) ?hy2a (by assumption) ?_
    case hy2a => intro WW hSw; have hh := hlo; go_simp; try with_reducible rfl
    try simp only [Act.put, List.setIfInBounds_toArray, List.set_cons_zero, List.set_cons_succ]
    refine take_in (i := 3) (v := ?v3a) rfl (by kernel_rfl) (by kernel_rfl) (by kernel_rfl) (fun _ _ _ h => h) (by rfl) ?hy3a (by assumption) ?_
    case hy3a => intro WW hSw; (try dsimp only at hSw); go_simp; try with_reducible rfl
    try simp only [Act.put, List.setIfInBounds_toArray, List.set_cons_zero, List.set_cons_succ]
    refine take_in (i := 4) (v := ?v4a) rfl (by kernel_rfl) (by kernel_rfl) (by kernel_rfl) (fun _ _ _ h => h) (by rfl) ?hy4a (by assumption) ?_
    case hy4a => intro WW hSw; (try dsimp only at hSw); go_simp; try with_reducible rfl
    try simp only [Act.put, List.setIfInBounds_toArray, List.set_cons_zero, List.set_cons_succ]
    refine take_in (i := 5) (v := ?v5a) rfl (by kernel_rfl) (by kernel_rfl) (by kernel_rfl) (fun _ _ _ h => h) (by rfl) ?hy5a (by assumption) ?_
    case hy5a => intro WW hSw; have h1 := hSw.1; have h2 := hSw.2; go_simp; try with_reducible rfl
    try simp only [Act.put, List.setIfInBounds_toArray, List.set_cons_zero, List.set_cons_succ]
    refine take_in (i := 6) (v := .bool false) rfl (by kernel_rfl) (by kernel_rfl) (by kernel_rfl) (fun _ _ _ h => h) (by rfl) ?hy6a (by assumption) ?_
    case hy6a => intro WW hSw; have hh := hhi; go_simp; try with_reducible rfl
    try simp only [Act.put, List.setIfInBounds_toArray, List.set_cons_zero, List.set_cons_succ]
    refine take_in (i := 7) (v := ?v7a) rfl (by kernel_rfl) (by kernel_rfl) (by kernel_rfl) (fun _ _ _ h => h) (by rfl) ?hy7a (by assumption) ?_
    case hy7a => intro WW hSw; (try dsimp only at hSw); go_simp; try with_reducible rfl
    try simp only [Act.put, List.setIfInBounds_toArray, List.set_cons_zero, List.set_cons_succ]
    refine take_in (i := 8) (v := ?v8a) rfl (by kernel_rfl) (by kernel_rfl) (by kernel_rfl) (fun _ _ _ h => h) (by rfl) ?hy8a (by assumption) ?_
    case hy8a => intro WW hSw; (try dsimp only at hSw); go_simp; try with_reducible rfl
    try simp only [Act.put, List.setIfInBounds_toArray, List.set_cons_zero, List.set_cons_succ]
    refine take_in (i := 9) (v := ?v9a) rfl (by kernel_rfl) (by kernel_rfl) (by kernel_rfl) (fun _ _ _ h => h) (by rfl) ?hy9a (by assumption) ?_
    case hy9a => intro WW hSw; (try dsimp only at hSw); go_simp; try with_reducible rfl
    try simp only [Act.put, List.setIfInBounds_toArray, List.set_cons_zero, List.set_cons_succ]
    refine take_in (i := 10) (v := ?v10a) rfl (by kernel_rfl) (by kernel_rfl) (by kernel_rfl) (fun _ _ _ h => h) (by rfl) ?hy10a (by assumption) ?_
    case hy10a => intro WW hSw; have h1 := hSw.1; have h2 := hSw.2; go_simp; try with_reducible rfl
    try simp only [Act.put, List.setIfInBounds_toArray, List.set_cons_zero, List.set_cons_succ]
    refine take_in (i := 11) (v := ?v11a) rfl (by kernel_rfl) (by kernel_rfl) (by kernel_rfl) (fun _ _ _ h => h) (by rfl) ?hy11a (by assumption) ?_
    case hy11a => intro WW hSw; (try dsimp only at hSw); go_simp; try with_reducible rfl
    try simp only [Act.put, List.setIfInBounds_toArray, List.set_cons_zero, List.set_cons_succ]
    refine take_in (i := 12) (v := ?v12a) rfl (by kernel_rfl) (by kernel_rfl) (by kernel_rfl) (fun _ _ _ h => h) (by rfl) ?hy12a (by assumption) ?_
    case hy12a => intro WW hSw; (try dsimp only at hSw); go_simp; try with_reducible rfl
    try simp only [Act.put, List.setIfInBounds_toArray, List.set_cons_zero, List.set_cons_succ]
    refine take_in (i := 13) (v := ?v13a) rfl (by kernel_rfl) (by kernel_rfl) (by kernel_rfl) (fun _ _ _ h => h) (by rfl) ?hy13a (by assumption) ?_
    case hy13a => intro WW hSw; have h1 := hSw.1; have h2 := hSw.2; go_simp; try with_reducible rfl
    try simp only [Act.put, List.setIfInBounds_toArray, List.set_cons_zero, List.set_cons_succ]
    refine one_step (i := 14) (by kernel_rfl) rfl (fun K hK => ?_)
    go_simp
    go_at_call 63
    refine (hkd _).mono ?_
    rintro e w8 ⟨rfl, rfl⟩
    refine hK.out _ _ ?_ (fun hHeld => ?_)
    · exact ⟨hx0, hx1⟩
    clear hK K
    try simp only [Act.put, List.setIfInBounds_toArray, List.set_cons_zero, List.set_cons_succ]
    refine take_in (i := 15) (v := .bool false) rfl (by kernel_rfl) (by kernel_rfl) (by kernel_rfl) (fun _ _ _ h => h) (by rfl) ?hy15a (by assumption) ?_
    case hy15a => intro WW hSw; have hh := hln; go_simp; try with_reducible rfl
    try simp only [Act.put, List.setIfInBounds_toArray, List.set_cons_zero, List.set_cons_succ]
    refine take_in (i := 16) (v := ?v16a) rfl (by kernel_rfl) (by kernel_rfl) (by kernel_rfl) (fun _ _ _ h => h) (by rfl) ?hy16a (by assumption) ?_
    case hy16a => intro WW hSw; (try dsimp only at hSw); go_simp; try with_reducible rfl
    try simp only [Act.put, List.setIfInBounds_toArray, List.set_cons_zero, List.set_cons_succ]
    refine wpAnyH_done (by kernel_rfl) ?_ _
    clear hx0 hx1
    go_wp2
    go_ret
    exact ⟨by first | rfl | (simp; omega), by repeat (first | exact Below.refl _ _ | assumption | apply below_more | apply below_drew)⟩
set_option maxRecDepth 100000 in
set_option maxHeartbeats 1600000 in
theorem fields_lo (op : Int) (A : Option Addr) (n c : Nat) (nm pr : ByteArray) (k : Int) (b : Bool) (nn : Int) (s : ByteArray) (pA : Option Addr) (p : List Int) (pc : Nat) (w : World) (r : Bool)
    (hR : ∀ W, Below w.heap.size w W → Calls Tryd.prog 64 #[.agg #[.int .i64 k, .bool b, .int .i64 nn, .string s, .slice pA p.length pc]] W fun e w' => e = .returned (.bool r) ∧ Below W.heap.size W w') (hlo : op < 1) :
    Calls Tryd.prog 41 #[.agg #[.int .i64 op, .slice A n c, .string nm, .string pr, .int .i64 k, .bool b, .int .i64 nn, .string s, .slice pA p.length pc]] w fun e w' => e = .returned (.bool (false)) ∧ Below w.heap.size w w' := by
  have g : ¬ (1 : Int) ≤ op := by omega
  have hx0 : (w.alloc (.cells #[.int .i64 op, .slice A n c, .string nm, .string pr, .int .i64 k, .bool b, .int .i64 nn, .string s, .slice pA p.length pc] 29)).cell? ⟨w.heap.size, 0, none⟩ = some (.int .i64 op) := by simp [go_sem]
  have hx1 : (w.alloc (.cells #[.int .i64 op, .slice A n c, .string nm, .string pr, .int .i64 k, .bool b, .int .i64 nn, .string s, .slice pA p.length pc] 29)).cell? ⟨w.heap.size, 1, none⟩ = some (.slice A n c) := by simp [go_sem]
  go_enter Tryd.func41, Tryd.ntmps41
  go_upto_region 1 with (fail)
  refine wp_region_held_drew (S := (fun WW => WW.cell? ⟨w.heap.size, 0, none⟩ = some (.int .i64 op) ∧ WW.cell? ⟨w.heap.size, 1, none⟩ = some (.slice A n c))) (by kernel_rfl) ?_ (fun hHeld => ?_)
  · exact ⟨hx0, hx1⟩
  refine take_in (i := 0) (v := ?v0a) rfl (by kernel_rfl) (by kernel_rfl) (by kernel_rfl) (fun _ _ _ h => h) (by rfl) ?hy0a (by assumption) ?_
  case hy0a => intro WW hSw; (try dsimp only at hSw); go_simp; try with_reducible rfl
  try simp only [Act.put, List.setIfInBounds_toArray, List.set_cons_zero, List.set_cons_succ]
  refine take_in (i := 1) (v := ?v1a) rfl (by kernel_rfl) (by kernel_rfl) (by kernel_rfl) (fun _ _ _ h => h) (by rfl) ?hy1a (by assumption) ?_
  case hy1a => intro WW hSw; have h1 := hSw.1; have h2 := hSw.2; go_simp; try with_reducible rfl
  try simp only [Act.put, List.setIfInBounds_toArray, List.set_cons_zero, List.set_cons_succ]
  refine take_in (i := 2) (v := .bool true) rfl (by kernel_rfl) (by kernel_rfl) (by kernel_rfl) (fun _ _ _ h => h) (by rfl) ?hy2a (by assumption) ?_
  case hy2a => intro WW hSw; have hh := hlo; go_simp; try with_reducible rfl
  try simp only [Act.put, List.setIfInBounds_toArray, List.set_cons_zero, List.set_cons_succ]
  refine take_in (i := 3) (v := ?v3a) rfl (by kernel_rfl) (by kernel_rfl) (by kernel_rfl) (fun _ _ _ h => h) (by rfl) ?hy3a (by assumption) ?_
  case hy3a => intro WW hSw; (try dsimp only at hSw); go_simp; try with_reducible rfl
  try simp only [Act.put, List.setIfInBounds_toArray, List.set_cons_zero, List.set_cons_succ]
  refine take_out (i := 4) rfl (by kernel_rfl) (by kernel_rfl) (by kernel_rfl) (fun _ _ _ h => h) (by rfl) (by assumption) ?_
  try simp only [Act.put, List.setIfInBounds_toArray, List.set_cons_zero, List.set_cons_succ]
  refine take_out (i := 5) rfl (by kernel_rfl) (by kernel_rfl) (by kernel_rfl) (fun _ _ _ h => h) (by rfl) (by assumption) ?_
  try simp only [Act.put, List.setIfInBounds_toArray, List.set_cons_zero, List.set_cons_succ]
  refine take_out (i := 6) rfl (by kernel_rfl) (by kernel_rfl) (by kernel_rfl) (fun _ _ _ h => h) (by rfl) (by assumption) ?_
  try simp only [Act.put, List.setIfInBounds_toArray, List.set_cons_zero, List.set_cons_succ]
  refine take_in (i := 7) (v := ?v7a) rfl (by kernel_rfl) (by kernel_rfl) (by kernel_rfl) (fun _ _ _ h => h) (by rfl) ?hy7a (by assumption) ?_
  case hy7a => intro WW hSw; (try dsimp only at hSw); go_simp; try with_reducible rfl
  try simp only [Act.put, List.setIfInBounds_toArray, List.set_cons_zero, List.set_cons_succ]
  refine take_in (i := 8) (v := ?v8a) rfl (by kernel_rfl) (by kernel_rfl) (by kernel_rfl) (fun _ _ _ h => h) (by rfl) ?hy8a (by assumption) ?_
  case hy8a => intro WW hSw; (try dsimp only at hSw); go_simp; try with_reducible rfl
  try simp only [Act.put, List.setIfInBounds_toArray, List.set_cons_zero, List.set_cons_succ]
  refine take_out (i := 9) rfl (by kernel_rfl) (by kernel_rfl) (by kernel_rfl) (fun _ _ _ h => h) (by rfl) (by assumption) ?_
  try simp only [Act.put, List.setIfInBounds_toArray, List.set_cons_zero, List.set_cons_succ]
  refine take_out (i := 10) rfl (by kernel_rfl) (by kernel_rfl) (by kernel_rfl) (fun _ _ _ h => h) (by rfl) (by assumption) ?_
  try simp only [Act.put, List.setIfInBounds_toArray, List.set_cons_zero, List.set_cons_succ]
  refine take_out (i := 11) rfl (by kernel_rfl) (by kernel_rfl) (by kernel_rfl) (fun _ _ _ h => h) (by rfl) (by assumption) ?_
  try simp only [Act.put, List.setIfInBounds_toArray, List.set_cons_zero, List.set_cons_succ]
  refine take_out (i := 12) rfl (by kernel_rfl) (by kernel_rfl) (by kernel_rfl) (fun _ _ _ h => h) (by rfl) (by assumption) ?_
  try simp only [Act.put, List.setIfInBounds_toArray, List.set_cons_zero, List.set_cons_succ]
  refine take_out (i := 13) rfl (by kernel_rfl) (by kernel_rfl) (by kernel_rfl) (fun _ _ _ h => h) (by rfl) (by assumption) ?_
  try simp only [Act.put, List.setIfInBounds_toArray, List.set_cons_zero, List.set_cons_succ]
  refine take_out (i := 14) rfl (by kernel_rfl) (by kernel_rfl) (by kernel_rfl) (fun _ _ _ h => h) (by rfl) (by assumption) ?_
  try simp only [Act.put, List.setIfInBounds_toArray, List.set_cons_zero, List.set_cons_succ]
  refine take_out (i := 15) rfl (by kernel_rfl) (by kernel_rfl) (by kernel_rfl) (fun _ _ _ h => h) (by rfl) (by assumption) ?_
  try simp only [Act.put, List.setIfInBounds_toArray, List.set_cons_zero, List.set_cons_succ]
  refine take_in (i := 16) (v := ?v16a) rfl (by kernel_rfl) (by kernel_rfl) (by kernel_rfl) (fun _ _ _ h => h) (by rfl) ?hy16a (by assumption) ?_
  case hy16a => intro WW hSw; (try dsimp only at hSw); go_simp; try with_reducible rfl
  try simp only [Act.put, List.setIfInBounds_toArray, List.set_cons_zero, List.set_cons_succ]
  refine wpAnyH_done (by kernel_rfl) ?_ _
  clear hx0 hx1
  go_wp2
  go_ret
  exact ⟨by first | rfl | (simp; omega), by repeat (first | exact Below.refl _ _ | assumption | apply below_more | apply below_drew)⟩
set_option maxRecDepth 100000 in
set_option maxHeartbeats 1600000 in
theorem fields_hi (op : Int) (A : Option Addr) (n c : Nat) (nm pr : ByteArray) (k : Int) (b : Bool) (nn : Int) (s : ByteArray) (pA : Option Addr) (p : List Int) (pc : Nat) (w : World) (r : Bool)
    (hR : ∀ W, Below w.heap.size w W → Calls Tryd.prog 64 #[.agg #[.int .i64 k, .bool b, .int .i64 nn, .string s, .slice pA p.length pc]] W fun e w' => e = .returned (.bool r) ∧ Below W.heap.size W w') (hlo : ¬ op < 1) (hhi : 26 < op) :
    Calls Tryd.prog 41 #[.agg #[.int .i64 op, .slice A n c, .string nm, .string pr, .int .i64 k, .bool b, .int .i64 nn, .string s, .slice pA p.length pc]] w fun e w' => e = .returned (.bool (false)) ∧ Below w.heap.size w w' := by
  have hx0 : (w.alloc (.cells #[.int .i64 op, .slice A n c, .string nm, .string pr, .int .i64 k, .bool b, .int .i64 nn, .string s, .slice pA p.length pc] 29)).cell? ⟨w.heap.size, 0, none⟩ = some (.int .i64 op) := by simp [go_sem]
  have hx1 : (w.alloc (.cells #[.int .i64 op, .slice A n c, .string nm, .string pr, .int .i64 k, .bool b, .int .i64 nn, .string s, .slice pA p.length pc] 29)).cell? ⟨w.heap.size, 1, none⟩ = some (.slice A n c) := by simp [go_sem]
  go_enter Tryd.func41, Tryd.ntmps41
  go_upto_region 1 with (fail)
  refine wp_region_held_drew (S := (fun WW => WW.cell? ⟨w.heap.size, 0, none⟩ = some (.int .i64 op) ∧ WW.cell? ⟨w.heap.size, 1, none⟩ = some (.slice A n c))) (by kernel_rfl) ?_ (fun hHeld => ?_)
  · exact ⟨hx0, hx1⟩
  refine take_in (i := 0) (v := ?v0a) rfl (by kernel_rfl) (by kernel_rfl) (by kernel_rfl) (fun _ _ _ h => h) (by rfl) ?hy0a (by assumption) ?_
  case hy0a => intro WW hSw; (try dsimp only at hSw); go_simp; try with_reducible rfl
  try simp only [Act.put, List.setIfInBounds_toArray, List.set_cons_zero, List.set_cons_succ]
  refine take_in (i := 1) (v := ?v1a) rfl (by kernel_rfl) (by kernel_rfl) (by kernel_rfl) (fun _ _ _ h => h) (by rfl) ?hy1a (by assumption) ?_
  case hy1a => intro WW hSw; have h1 := hSw.1; have h2 := hSw.2; go_simp; try with_reducible rfl
  try simp only [Act.put, List.setIfInBounds_toArray, List.set_cons_zero, List.set_cons_succ]
  refine take_in (i := 2) (v := .bool false) rfl (by kernel_rfl) (by kernel_rfl) (by kernel_rfl) (fun _ _ _ h => h) (by rfl) ?hy2a (by assumption) ?_
  case hy2a => intro WW hSw; have hh := hlo; go_simp; try with_reducible rfl
  try simp only [Act.put, List.setIfInBounds_toArray, List.set_cons_zero, List.set_cons_succ]
  refine take_in (i := 3) (v := ?v3a) rfl (by kernel_rfl) (by kernel_rfl) (by kernel_rfl) (fun _ _ _ h => h) (by rfl) ?hy3a (by assumption) ?_
  case hy3a => intro WW hSw; (try dsimp only at hSw); go_simp; try with_reducible rfl
  try simp only [Act.put, List.setIfInBounds_toArray, List.set_cons_zero, List.set_cons_succ]
  refine take_in (i := 4) (v := ?v4a) rfl (by kernel_rfl) (by kernel_rfl) (by kernel_rfl) (fun _ _ _ h => h) (by rfl) ?hy4a (by assumption) ?_
  case hy4a => intro WW hSw; (try dsimp only at hSw); go_simp; try with_reducible rfl
  try simp only [Act.put, List.setIfInBounds_toArray, List.set_cons_zero, List.set_cons_succ]
  refine take_in (i := 5) (v := ?v5a) rfl (by kernel_rfl) (by kernel_rfl) (by kernel_rfl) (fun _ _ _ h => h) (by rfl) ?hy5a (by assumption) ?_
  case hy5a => intro WW hSw; have h1 := hSw.1; have h2 := hSw.2; go_simp; try with_reducible rfl
  try simp only [Act.put, List.setIfInBounds_toArray, List.set_cons_zero, List.set_cons_succ]
  refine take_in (i := 6) (v := .bool true) rfl (by kernel_rfl) (by kernel_rfl) (by kernel_rfl) (fun _ _ _ h => h) (by rfl) ?hy6a (by assumption) ?_
  case hy6a => intro WW hSw; have hh := hhi; go_simp; try with_reducible rfl
  try simp only [Act.put, List.setIfInBounds_toArray, List.set_cons_zero, List.set_cons_succ]
  refine take_in (i := 7) (v := ?v7a) rfl (by kernel_rfl) (by kernel_rfl) (by kernel_rfl) (fun _ _ _ h => h) (by rfl) ?hy7a (by assumption) ?_
  case hy7a => intro WW hSw; (try dsimp only at hSw); go_simp; try with_reducible rfl
  try simp only [Act.put, List.setIfInBounds_toArray, List.set_cons_zero, List.set_cons_succ]
  refine take_in (i := 8) (v := ?v8a) rfl (by kernel_rfl) (by kernel_rfl) (by kernel_rfl) (fun _ _ _ h => h) (by rfl) ?hy8a (by assumption) ?_
  case hy8a => intro WW hSw; (try dsimp only at hSw); go_simp; try with_reducible rfl
  try simp only [Act.put, List.setIfInBounds_toArray, List.set_cons_zero, List.set_cons_succ]
  refine take_out (i := 9) rfl (by kernel_rfl) (by kernel_rfl) (by kernel_rfl) (fun _ _ _ h => h) (by rfl) (by assumption) ?_
  try simp only [Act.put, List.setIfInBounds_toArray, List.set_cons_zero, List.set_cons_succ]
  refine take_out (i := 10) rfl (by kernel_rfl) (by kernel_rfl) (by kernel_rfl) (fun _ _ _ h => h) (by rfl) (by assumption) ?_
  try simp only [Act.put, List.setIfInBounds_toArray, List.set_cons_zero, List.set_cons_succ]
  refine take_out (i := 11) rfl (by kernel_rfl) (by kernel_rfl) (by kernel_rfl) (fun _ _ _ h => h) (by rfl) (by assumption) ?_
  try simp only [Act.put, List.setIfInBounds_toArray, List.set_cons_zero, List.set_cons_succ]
  refine take_out (i := 12) rfl (by kernel_rfl) (by kernel_rfl) (by kernel_rfl) (fun _ _ _ h => h) (by rfl) (by assumption) ?_
  try simp only [Act.put, List.setIfInBounds_toArray, List.set_cons_zero, List.set_cons_succ]
  refine take_out (i := 13) rfl (by kernel_rfl) (by kernel_rfl) (by kernel_rfl) (fun _ _ _ h => h) (by rfl) (by assumption) ?_
  try simp only [Act.put, List.setIfInBounds_toArray, List.set_cons_zero, List.set_cons_succ]
  refine take_out (i := 14) rfl (by kernel_rfl) (by kernel_rfl) (by kernel_rfl) (fun _ _ _ h => h) (by rfl) (by assumption) ?_
  try simp only [Act.put, List.setIfInBounds_toArray, List.set_cons_zero, List.set_cons_succ]
  refine take_out (i := 15) rfl (by kernel_rfl) (by kernel_rfl) (by kernel_rfl) (fun _ _ _ h => h) (by rfl) (by assumption) ?_
  try simp only [Act.put, List.setIfInBounds_toArray, List.set_cons_zero, List.set_cons_succ]
  refine take_in (i := 16) (v := ?v16a) rfl (by kernel_rfl) (by kernel_rfl) (by kernel_rfl) (fun _ _ _ h => h) (by rfl) ?hy16a (by assumption) ?_
  case hy16a => intro WW hSw; (try dsimp only at hSw); go_simp; try with_reducible rfl
  try simp only [Act.put, List.setIfInBounds_toArray, List.set_cons_zero, List.set_cons_succ]
  refine wpAnyH_done (by kernel_rfl) ?_ _
  clear hx0 hx1
  go_wp2
  go_ret
  exact ⟨by first | rfl | (simp; omega), by repeat (first | exact Below.refl _ _ | assumption | apply below_more | apply below_drew)⟩
set_option maxRecDepth 100000 in
set_option maxHeartbeats 1600000 in
theorem fields_len (op : Int) (A : Option Addr) (n c : Nat) (nm pr : ByteArray) (k : Int) (b : Bool) (nn : Int) (s : ByteArray) (pA : Option Addr) (p : List Int) (pc : Nat) (w : World) (r : Bool)
    (hR : ∀ W, Below w.heap.size w W → Calls Tryd.prog 64 #[.agg #[.int .i64 k, .bool b, .int .i64 nn, .string s, .slice pA p.length pc]] W fun e w' => e = .returned (.bool r) ∧ Below W.heap.size W w') (m : Nat) (hlo : ¬ op < 1) (hhi : ¬ 26 < op) (hkd : ∀ W, Calls Tryd.prog 63 #[.int .i64 op] W fun e w' => e = .returned (.int .i64 m) ∧ W = w') (hln : ((n : Int) != m) = true) (hln2 : ¬ (n : Int) = m) :
    Calls Tryd.prog 41 #[.agg #[.int .i64 op, .slice A n c, .string nm, .string pr, .int .i64 k, .bool b, .int .i64 nn, .string s, .slice pA p.length pc]] w fun e w' => e = .returned (.bool (false)) ∧ Below w.heap.size w w' := by
  have hx0 : (w.alloc (.cells #[.int .i64 op, .slice A n c, .string nm, .string pr, .int .i64 k, .bool b, .int .i64 nn, .string s, .slice pA p.length pc] 29)).cell? ⟨w.heap.size, 0, none⟩ = some (.int .i64 op) := by simp [go_sem]
  have hx1 : (w.alloc (.cells #[.int .i64 op, .slice A n c, .string nm, .string pr, .int .i64 k, .bool b, .int .i64 nn, .string s, .slice pA p.length pc] 29)).cell? ⟨w.heap.size, 1, none⟩ = some (.slice A n c) := by simp [go_sem]
  go_enter Tryd.func41, Tryd.ntmps41
  go_upto_region 1 with (fail)
  refine wp_region_held_drew (S := (fun WW => WW.cell? ⟨w.heap.size, 0, none⟩ = some (.int .i64 op) ∧ WW.cell? ⟨w.heap.size, 1, none⟩ = some (.slice A n c))) (by kernel_rfl) ?_ (fun hHeld => ?_)
  · exact ⟨hx0, hx1⟩
  refine take_in (i := 0) (v := ?v0a) rfl (by kernel_rfl) (by kernel_rfl) (by kernel_rfl) (fun _ _ _ h => h) (by rfl) ?hy0a (by assumption) ?_
  case hy0a => intro WW hSw; (try dsimp only at hSw); go_simp; try with_reducible rfl
  try simp only [Act.put, List.setIfInBounds_toArray, List.set_cons_zero, List.set_cons_succ]
  refine take_in (i := 1) (v := ?v1a) rfl (by kernel_rfl) (by kernel_rfl) (by kernel_rfl) (fun _ _ _ h => h) (by rfl) ?hy1a (by assumption) ?_
  case hy1a => intro WW hSw; have h1 := hSw.1; have h2 := hSw.2; go_simp; try with_reducible rfl
  try simp only [Act.put, List.setIfInBounds_toArray, List.set_cons_zero, List.set_cons_succ]
  refine take_in (i := 2) (v := .bool false) rfl (by kernel_rfl) (by kernel_rfl) (by kernel_rfl) (fun _ _ _ h => h) (by rfl) ?hy2a (by assumption) ?_
  case hy2a => intro WW hSw; have hh := hlo; go_simp; try with_reducible rfl
  try simp only [Act.put, List.setIfInBounds_toArray, List.set_cons_zero, List.set_cons_succ]
  refine take_in (i := 3) (v := ?v3a) rfl (by kernel_rfl) (by kernel_rfl) (by kernel_rfl) (fun _ _ _ h => h) (by rfl) ?hy3a (by assumption) ?_
  case hy3a => intro WW hSw; (try dsimp only at hSw); go_simp; try with_reducible rfl
  try simp only [Act.put, List.setIfInBounds_toArray, List.set_cons_zero, List.set_cons_succ]
  refine take_in (i := 4) (v := ?v4a) rfl (by kernel_rfl) (by kernel_rfl) (by kernel_rfl) (fun _ _ _ h => h) (by rfl) ?hy4a (by assumption) ?_
  case hy4a => intro WW hSw; (try dsimp only at hSw); go_simp; try with_reducible rfl
  try simp only [Act.put, List.setIfInBounds_toArray, List.set_cons_zero, List.set_cons_succ]
  refine take_in (i := 5) (v := ?v5a) rfl (by kernel_rfl) (by kernel_rfl) (by kernel_rfl) (fun _ _ _ h => h) (by rfl) ?hy5a (by assumption) ?_
  case hy5a => intro WW hSw; have h1 := hSw.1; have h2 := hSw.2; go_simp; try with_reducible rfl
  try simp only [Act.put, List.setIfInBounds_toArray, List.set_cons_zero, List.set_cons_succ]
  refine take_in (i := 6) (v := .bool false) rfl (by kernel_rfl) (by kernel_rfl) (by kernel_rfl) (fun _ _ _ h => h) (by rfl) ?hy6a (by assumption) ?_
  case hy6a => intro WW hSw; have hh := hhi; go_simp; try with_reducible rfl
  try simp only [Act.put, List.setIfInBounds_toArray, List.set_cons_zero, List.set_cons_succ]
  refine take_in (i := 7) (v := ?v7a) rfl (by kernel_rfl) (by kernel_rfl) (by kernel_rfl) (fun _ _ _ h => h) (by rfl) ?hy7a (by assumption) ?_
  case hy7a => intro WW hSw; (try dsimp only at hSw); go_simp; try with_reducible rfl
  try simp only [Act.put, List.setIfInBounds_toArray, List.set_cons_zero, List.set_cons_succ]
  refine take_in (i := 8) (v := ?v8a) rfl (by kernel_rfl) (by kernel_rfl) (by kernel_rfl) (fun _ _ _ h => h) (by rfl) ?hy8a (by assumption) ?_
  case hy8a => intro WW hSw; (try dsimp only at hSw); go_simp; try with_reducible rfl
  try simp only [Act.put, List.setIfInBounds_toArray, List.set_cons_zero, List.set_cons_succ]
  refine take_in (i := 9) (v := ?v9a) rfl (by kernel_rfl) (by kernel_rfl) (by kernel_rfl) (fun _ _ _ h => h) (by rfl) ?hy9a (by assumption) ?_
  case hy9a => intro WW hSw; (try dsimp only at hSw); go_simp; try with_reducible rfl
  try simp only [Act.put, List.setIfInBounds_toArray, List.set_cons_zero, List.set_cons_succ]
  refine take_in (i := 10) (v := ?v10a) rfl (by kernel_rfl) (by kernel_rfl) (by kernel_rfl) (fun _ _ _ h => h) (by rfl) ?hy10a (by assumption) ?_
  case hy10a => intro WW hSw; have h1 := hSw.1; have h2 := hSw.2; go_simp; try with_reducible rfl
  try simp only [Act.put, List.setIfInBounds_toArray, List.set_cons_zero, List.set_cons_succ]
  refine take_in (i := 11) (v := ?v11a) rfl (by kernel_rfl) (by kernel_rfl) (by kernel_rfl) (fun _ _ _ h => h) (by rfl) ?hy11a (by assumption) ?_
  case hy11a => intro WW hSw; (try dsimp only at hSw); go_simp; try with_reducible rfl
  try simp only [Act.put, List.setIfInBounds_toArray, List.set_cons_zero, List.set_cons_succ]
  refine take_in (i := 12) (v := ?v12a) rfl (by kernel_rfl) (by kernel_rfl) (by kernel_rfl) (fun _ _ _ h => h) (by rfl) ?hy12a (by assumption) ?_
  case hy12a => intro WW hSw; (try dsimp only at hSw); go_simp; try with_reducible rfl
  try simp only [Act.put, List.setIfInBounds_toArray, List.set_cons_zero, List.set_cons_succ]
  refine take_in (i := 13) (v := ?v13a) rfl (by kernel_rfl) (by kernel_rfl) (by kernel_rfl) (fun _ _ _ h => h) (by rfl) ?hy13a (by assumption) ?_
  case hy13a => intro WW hSw; have h1 := hSw.1; have h2 := hSw.2; go_simp; try with_reducible rfl
  try simp only [Act.put, List.setIfInBounds_toArray, List.set_cons_zero, List.set_cons_succ]
  refine one_step (i := 14) (by kernel_rfl) rfl (fun K hK => ?_)
  go_simp
  go_at_call 63
  refine (hkd _).mono ?_
  rintro e w8 ⟨rfl, rfl⟩
  refine hK.out _ _ ?_ (fun hHeld => ?_)
  · exact ⟨hx0, hx1⟩
  clear hK K
  try simp only [Act.put, List.setIfInBounds_toArray, List.set_cons_zero, List.set_cons_succ]
  refine take_in (i := 15) (v := .bool true) rfl (by kernel_rfl) (by kernel_rfl) (by kernel_rfl) (fun _ _ _ h => h) (by rfl) ?hy15a (by assumption) ?_
  case hy15a => intro WW hSw; have hh := hln2; go_simp; try with_reducible rfl
  try simp only [Act.put, List.setIfInBounds_toArray, List.set_cons_zero, List.set_cons_succ]
  refine take_in (i := 16) (v := ?v16a) rfl (by kernel_rfl) (by kernel_rfl) (by kernel_rfl) (fun _ _ _ h => h) (by rfl) ?hy16a (by assumption) ?_
  case hy16a => intro WW hSw; (try dsimp only at hSw); go_simp; try with_reducible rfl
  try simp only [Act.put, List.setIfInBounds_toArray, List.set_cons_zero, List.set_cons_succ]
  refine wpAnyH_done (by kernel_rfl) ?_ _
  clear hx0 hx1
  go_wp2
  go_ret
  exact ⟨by first | rfl | (simp; omega), by repeat (first | exact Below.refl _ _ | assumption | apply below_more | apply below_drew)⟩
end Go.Proofs.YtkchpgjjkckfbaaDoor
