/- The printer's plain: has an expression just the fields of its Op? -/
import Derived.Test.YtkchpgjjkckfbaaDoorPrS
import Derived.BigGuardPart
set_option linter.unusedVariables false
set_option linter.unusedSimpArgs false
namespace Go.Proofs.YtkchpgjjkckfbaaDoor
open Go.RowKit

theorem text_empty {s : ByteArray} (h0 : s.size = 0) : s = ⟨#[]⟩ := by
  obtain ⟨a⟩ := s
  congr 1
  exact Array.eq_empty_of_size_eq_zero h0
theorem text_some {s : ByteArray} (h0 : ¬ s.size = 0) : (s.toList == ([] : List UInt8)) = false ∧ s.toList.isEmpty = false ∧ s.isEmpty = false :=
  ⟨by rw [empty_toList]; exact decide_eq_false h0, not_isEmpty_of h0, by rw [ByteArray.isEmpty]; simp [h0]⟩

set_option maxRecDepth 100000 in
set_option maxHeartbeats 1600000 in
theorem plain_1 (A : Option Addr) (n c : Nat) (m : Int) (nm pr : ByteArray) (k : Int) (b : Bool) (nn : Int) (s : ByteArray) (pA : Option Addr) (p : List Int) (pc : Nat) (w : World) (r b1 b2 : Bool)
    (hR : ∀ W, Below w.heap.size w W → Calls Tryd.prog 61 #[.agg #[.int .i64 k, .bool b, .int .i64 nn, .string s, .slice pA p.length pc]] W fun e w' => e = .returned (.bool r) ∧ Below W.heap.size W w') (hm : m = (n : Int)) (zn : Bool) (h_zn : zn = decide (nm.size = 0)) (zp : Bool) (h_zp : zp = decide (pr.size = 0)) (z0 : Bool) (h_z0 : z0 = decide (k = 0)) (z3 : Bool) (h_z3 : z3 = decide (k ≤ 3)) (z2 : Bool) (h_z2 : z2 = decide (k = 2)) (zg : Bool) (h_zg : zg = decide (nn < 0)) :
    Calls Tryd.prog 37 #[.agg #[.int .i64 1, .slice A n c, .string nm, .string pr, .int .i64 k, .bool b, .int .i64 nn, .string s, .slice pA p.length pc], .int .i64 m] w fun e w' => e = .returned (.bool (zn && (zp && (r && (z3 && !(z2 && zg)))))) ∧ Below w.heap.size w w' := by
  subst hm
  cases r with
  | true =>
    cases zn with
    | true =>
      obtain rfl := text_empty (of_decide_eq_true h_zn.symm)
      clear h_zn
      cases zp with
      | true =>
        obtain rfl := text_empty (of_decide_eq_true h_zp.symm)
        clear h_zp
        cases z0 with
        | true =>
          obtain rfl : k = 0 := of_decide_eq_true h_z0.symm
          clear h_z0
          have e3 : z3 = true := h_z3
          have e2 : z2 = false := h_z2
          clear h_zg h_z3 h_z2
          subst e3 e2
          go_enter Tryd.func37, Tryd.ntmps37
          go_upto_region 6 with (go_at_call 61; refine (hR _ (by repeat (first | exact Below.refl _ _ | assumption | apply below_more))).mono ?_; rintro e w1 ⟨rfl, hb1⟩; have hz1 : w.heap.size < w1.heap.size := (by have := hb1.size; (try simp at this); omega); have hbx : ∀ i, w1.cell? ⟨w.heap.size, i, none⟩ = (#[.int .i64 1, .slice A n c, .string ⟨#[]⟩, .string ⟨#[]⟩, .int .i64 0, .bool b, .int .i64 nn, .string s, .slice pA p.length pc] : Array Value)[i]? := (fun i => (hb1.cell (p := ⟨w.heap.size, i, none⟩) (by first | omega | (simp; done) | (simp; omega))).trans (by simp [go_sem])); have HB1 : Below w.heap.size w w1 := below_then (by repeat (first | exact Below.refl _ _ | assumption | apply below_more)) hb1; clear hb1)
          go_wp2_with (go_at_call 61; refine (hR _ (by repeat (first | exact Below.refl _ _ | assumption | apply below_more))).mono ?_; rintro e w2 ⟨rfl, hb2⟩; have hz2 : w1.heap.size < w2.heap.size := (by have := hb2.size; (try simp at this); omega); have hbx2 : ∀ i, w2.cell? ⟨w.heap.size, i, none⟩ = (#[.int .i64 1, .slice A n c, .string ⟨#[]⟩, .string ⟨#[]⟩, .int .i64 0, .bool b, .int .i64 nn, .string s, .slice pA p.length pc] : Array Value)[i]? := (fun i => (hb2.cell (p := ⟨w.heap.size, i, none⟩) (by first | omega | (simp; done) | (simp; omega))).trans ((((Below.refl w1.heap.size w1).alloc (Nat.le_refl _) _).cell (p := ⟨w.heap.size, i, none⟩) hz1).trans (hbx i))); have hbv : ∀ i, w2.cell? ⟨w1.heap.size, i, none⟩ = (#[.int .i64 0, .bool b, .int .i64 nn, .string s, .slice pA p.length pc] : Array Value)[i]? := (fun i => (hb2.cell (p := ⟨w1.heap.size, i, none⟩) (by first | omega | (simp; done) | (simp; omega))).trans (by simp [go_sem])); have HB2 : Below w.heap.size w w2 := below_then (by repeat (first | exact Below.refl _ _ | assumption | apply below_more)) hb2; clear hb2 hbx)
          go_ret
          exact ⟨by first | rfl | (simp; omega), by repeat (first | exact Below.refl _ _ | assumption | apply below_more)⟩
        | false =>
          have f_z0 : (k == 0) = false := beq_eq_false_iff_ne.2 (of_decide_eq_false h_z0.symm)
          have g_z0 : ¬ 0 = k := fun e => of_decide_eq_false h_z0.symm e.symm
          clear h_z0
          cases z3 with
          | true =>
            have hk3 : k ≤ 3 := of_decide_eq_true h_z3.symm
            have hk3b : ¬ 3 < k := by omega
            clear h_z3
            cases z2 with
            | true =>
              obtain rfl : k = 2 := of_decide_eq_true h_z2.symm
              clear h_z2
              cases zg with
              | true =>
                have hg : nn < 0 := of_decide_eq_true h_zg.symm
                have hgb : ¬ 0 ≤ nn := by omega
                clear h_zg
                go_enter Tryd.func37, Tryd.ntmps37
                go_upto_region 6 with (go_at_call 61; refine (hR _ (by repeat (first | exact Below.refl _ _ | assumption | apply below_more))).mono ?_; rintro e w1 ⟨rfl, hb1⟩; have hz1 : w.heap.size < w1.heap.size := (by have := hb1.size; (try simp at this); omega); have hbx : ∀ i, w1.cell? ⟨w.heap.size, i, none⟩ = (#[.int .i64 1, .slice A n c, .string ⟨#[]⟩, .string ⟨#[]⟩, .int .i64 2, .bool b, .int .i64 nn, .string s, .slice pA p.length pc] : Array Value)[i]? := (fun i => (hb1.cell (p := ⟨w.heap.size, i, none⟩) (by first | omega | (simp; done) | (simp; omega))).trans (by simp [go_sem])); have HB1 : Below w.heap.size w w1 := below_then (by repeat (first | exact Below.refl _ _ | assumption | apply below_more)) hb1; clear hb1)
                go_wp2_with (go_at_call 61; refine (hR _ (by repeat (first | exact Below.refl _ _ | assumption | apply below_more))).mono ?_; rintro e w2 ⟨rfl, hb2⟩; have hz2 : w1.heap.size < w2.heap.size := (by have := hb2.size; (try simp at this); omega); have hbx2 : ∀ i, w2.cell? ⟨w.heap.size, i, none⟩ = (#[.int .i64 1, .slice A n c, .string ⟨#[]⟩, .string ⟨#[]⟩, .int .i64 2, .bool b, .int .i64 nn, .string s, .slice pA p.length pc] : Array Value)[i]? := (fun i => (hb2.cell (p := ⟨w.heap.size, i, none⟩) (by first | omega | (simp; done) | (simp; omega))).trans ((((Below.refl w1.heap.size w1).alloc (Nat.le_refl _) _).cell (p := ⟨w.heap.size, i, none⟩) hz1).trans (hbx i))); have hbv : ∀ i, w2.cell? ⟨w1.heap.size, i, none⟩ = (#[.int .i64 2, .bool b, .int .i64 nn, .string s, .slice pA p.length pc] : Array Value)[i]? := (fun i => (hb2.cell (p := ⟨w1.heap.size, i, none⟩) (by first | omega | (simp; done) | (simp; omega))).trans (by simp [go_sem])); have HB2 : Below w.heap.size w w2 := below_then (by repeat (first | exact Below.refl _ _ | assumption | apply below_more)) hb2; clear hb2 hbx)
                go_ret
                exact ⟨by first | rfl | (simp; omega), by repeat (first | exact Below.refl _ _ | assumption | apply below_more)⟩
              | false =>
                have hg : 0 ≤ nn := by have := of_decide_eq_false h_zg.symm; omega
                have hgb : ¬ nn < 0 := by omega
                clear h_zg
                go_enter Tryd.func37, Tryd.ntmps37
                go_upto_region 6 with (go_at_call 61; refine (hR _ (by repeat (first | exact Below.refl _ _ | assumption | apply below_more))).mono ?_; rintro e w1 ⟨rfl, hb1⟩; have hz1 : w.heap.size < w1.heap.size := (by have := hb1.size; (try simp at this); omega); have hbx : ∀ i, w1.cell? ⟨w.heap.size, i, none⟩ = (#[.int .i64 1, .slice A n c, .string ⟨#[]⟩, .string ⟨#[]⟩, .int .i64 2, .bool b, .int .i64 nn, .string s, .slice pA p.length pc] : Array Value)[i]? := (fun i => (hb1.cell (p := ⟨w.heap.size, i, none⟩) (by first | omega | (simp; done) | (simp; omega))).trans (by simp [go_sem])); have HB1 : Below w.heap.size w w1 := below_then (by repeat (first | exact Below.refl _ _ | assumption | apply below_more)) hb1; clear hb1)
                go_wp2_with (go_at_call 61; refine (hR _ (by repeat (first | exact Below.refl _ _ | assumption | apply below_more))).mono ?_; rintro e w2 ⟨rfl, hb2⟩; have hz2 : w1.heap.size < w2.heap.size := (by have := hb2.size; (try simp at this); omega); have hbx2 : ∀ i, w2.cell? ⟨w.heap.size, i, none⟩ = (#[.int .i64 1, .slice A n c, .string ⟨#[]⟩, .string ⟨#[]⟩, .int .i64 2, .bool b, .int .i64 nn, .string s, .slice pA p.length pc] : Array Value)[i]? := (fun i => (hb2.cell (p := ⟨w.heap.size, i, none⟩) (by first | omega | (simp; done) | (simp; omega))).trans ((((Below.refl w1.heap.size w1).alloc (Nat.le_refl _) _).cell (p := ⟨w.heap.size, i, none⟩) hz1).trans (hbx i))); have hbv : ∀ i, w2.cell? ⟨w1.heap.size, i, none⟩ = (#[.int .i64 2, .bool b, .int .i64 nn, .string s, .slice pA p.length pc] : Array Value)[i]? := (fun i => (hb2.cell (p := ⟨w1.heap.size, i, none⟩) (by first | omega | (simp; done) | (simp; omega))).trans (by simp [go_sem])); have HB2 : Below w.heap.size w w2 := below_then (by repeat (first | exact Below.refl _ _ | assumption | apply below_more)) hb2; clear hb2 hbx)
                go_ret
                exact ⟨by first | rfl | (simp; omega), by repeat (first | exact Below.refl _ _ | assumption | apply below_more)⟩
            | false =>
              have f_z2 : (k == 2) = false := beq_eq_false_iff_ne.2 (of_decide_eq_false h_z2.symm)
              have g_z2 : ¬ 2 = k := fun e => of_decide_eq_false h_z2.symm e.symm
              clear h_z2
              clear h_zg
              go_enter Tryd.func37, Tryd.ntmps37
              go_upto_region 6 with (go_at_call 61; refine (hR _ (by repeat (first | exact Below.refl _ _ | assumption | apply below_more))).mono ?_; rintro e w1 ⟨rfl, hb1⟩; have hz1 : w.heap.size < w1.heap.size := (by have := hb1.size; (try simp at this); omega); have hbx : ∀ i, w1.cell? ⟨w.heap.size, i, none⟩ = (#[.int .i64 1, .slice A n c, .string ⟨#[]⟩, .string ⟨#[]⟩, .int .i64 k, .bool b, .int .i64 nn, .string s, .slice pA p.length pc] : Array Value)[i]? := (fun i => (hb1.cell (p := ⟨w.heap.size, i, none⟩) (by first | omega | (simp; done) | (simp; omega))).trans (by simp [go_sem])); have HB1 : Below w.heap.size w w1 := below_then (by repeat (first | exact Below.refl _ _ | assumption | apply below_more)) hb1; clear hb1)
              go_wp2_with (go_at_call 61; refine (hR _ (by repeat (first | exact Below.refl _ _ | assumption | apply below_more))).mono ?_; rintro e w2 ⟨rfl, hb2⟩; have hz2 : w1.heap.size < w2.heap.size := (by have := hb2.size; (try simp at this); omega); have hbx2 : ∀ i, w2.cell? ⟨w.heap.size, i, none⟩ = (#[.int .i64 1, .slice A n c, .string ⟨#[]⟩, .string ⟨#[]⟩, .int .i64 k, .bool b, .int .i64 nn, .string s, .slice pA p.length pc] : Array Value)[i]? := (fun i => (hb2.cell (p := ⟨w.heap.size, i, none⟩) (by first | omega | (simp; done) | (simp; omega))).trans ((((Below.refl w1.heap.size w1).alloc (Nat.le_refl _) _).cell (p := ⟨w.heap.size, i, none⟩) hz1).trans (hbx i))); have hbv : ∀ i, w2.cell? ⟨w1.heap.size, i, none⟩ = (#[.int .i64 k, .bool b, .int .i64 nn, .string s, .slice pA p.length pc] : Array Value)[i]? := (fun i => (hb2.cell (p := ⟨w1.heap.size, i, none⟩) (by first | omega | (simp; done) | (simp; omega))).trans (by simp [go_sem])); have HB2 : Below w.heap.size w w2 := below_then (by repeat (first | exact Below.refl _ _ | assumption | apply below_more)) hb2; clear hb2 hbx)
              go_ret
              exact ⟨by first | rfl | (simp; omega), by repeat (first | exact Below.refl _ _ | assumption | apply below_more)⟩
          | false =>
            have hk3 : 3 < k := by have := of_decide_eq_false h_z3.symm; omega
            clear h_z3
            clear h_zg h_z2
            go_enter Tryd.func37, Tryd.ntmps37
            go_upto_region 6 with (go_at_call 61; refine (hR _ (by repeat (first | exact Below.refl _ _ | assumption | apply below_more))).mono ?_; rintro e w1 ⟨rfl, hb1⟩; have hz1 : w.heap.size < w1.heap.size := (by have := hb1.size; (try simp at this); omega); have hbx : ∀ i, w1.cell? ⟨w.heap.size, i, none⟩ = (#[.int .i64 1, .slice A n c, .string ⟨#[]⟩, .string ⟨#[]⟩, .int .i64 k, .bool b, .int .i64 nn, .string s, .slice pA p.length pc] : Array Value)[i]? := (fun i => (hb1.cell (p := ⟨w.heap.size, i, none⟩) (by first | omega | (simp; done) | (simp; omega))).trans (by simp [go_sem])); have HB1 : Below w.heap.size w w1 := below_then (by repeat (first | exact Below.refl _ _ | assumption | apply below_more)) hb1; clear hb1)
            go_wp2_with (go_at_call 61; refine (hR _ (by repeat (first | exact Below.refl _ _ | assumption | apply below_more))).mono ?_; rintro e w2 ⟨rfl, hb2⟩; have hz2 : w1.heap.size < w2.heap.size := (by have := hb2.size; (try simp at this); omega); have hbx2 : ∀ i, w2.cell? ⟨w.heap.size, i, none⟩ = (#[.int .i64 1, .slice A n c, .string ⟨#[]⟩, .string ⟨#[]⟩, .int .i64 k, .bool b, .int .i64 nn, .string s, .slice pA p.length pc] : Array Value)[i]? := (fun i => (hb2.cell (p := ⟨w.heap.size, i, none⟩) (by first | omega | (simp; done) | (simp; omega))).trans ((((Below.refl w1.heap.size w1).alloc (Nat.le_refl _) _).cell (p := ⟨w.heap.size, i, none⟩) hz1).trans (hbx i))); have hbv : ∀ i, w2.cell? ⟨w1.heap.size, i, none⟩ = (#[.int .i64 k, .bool b, .int .i64 nn, .string s, .slice pA p.length pc] : Array Value)[i]? := (fun i => (hb2.cell (p := ⟨w1.heap.size, i, none⟩) (by first | omega | (simp; done) | (simp; omega))).trans (by simp [go_sem])); have HB2 : Below w.heap.size w w2 := below_then (by repeat (first | exact Below.refl _ _ | assumption | apply below_more)) hb2; clear hb2 hbx)
            go_ret
            exact ⟨by first | rfl | (simp; omega), by repeat (first | exact Below.refl _ _ | assumption | apply below_more)⟩
      | false =>
        obtain ⟨e1_pr, e2_pr, e3_pr⟩ := text_some (of_decide_eq_false h_zp.symm)
        clear h_zp
        cases z0 with
        | true =>
          obtain rfl : k = 0 := of_decide_eq_true h_z0.symm
          clear h_z0
          clear h_zg h_z3 h_z2
          go_enter Tryd.func37, Tryd.ntmps37
          go_wp2_with (go_at_call 61; refine (hR _ (by repeat (first | exact Below.refl _ _ | assumption | apply below_more))).mono ?_; rintro e w1 ⟨rfl, hb1⟩; have hz1 : w.heap.size < w1.heap.size := (by have := hb1.size; (try simp at this); omega); have hbx : ∀ i, w1.cell? ⟨w.heap.size, i, none⟩ = (#[.int .i64 1, .slice A n c, .string ⟨#[]⟩, .string pr, .int .i64 0, .bool b, .int .i64 nn, .string s, .slice pA p.length pc] : Array Value)[i]? := (fun i => (hb1.cell (p := ⟨w.heap.size, i, none⟩) (by first | omega | (simp; done) | (simp; omega))).trans (by simp [go_sem])); have HB1 : Below w.heap.size w w1 := below_then (by repeat (first | exact Below.refl _ _ | assumption | apply below_more)) hb1; clear hb1)
          go_ret
          exact ⟨by first | rfl | (simp; omega), by repeat (first | exact Below.refl _ _ | assumption | apply below_more)⟩
        | false =>
          have f_z0 : (k == 0) = false := beq_eq_false_iff_ne.2 (of_decide_eq_false h_z0.symm)
          have g_z0 : ¬ 0 = k := fun e => of_decide_eq_false h_z0.symm e.symm
          clear h_z0
          clear h_zg h_z3 h_z2
          go_enter Tryd.func37, Tryd.ntmps37
          go_wp2_with (go_at_call 61; refine (hR _ (by repeat (first | exact Below.refl _ _ | assumption | apply below_more))).mono ?_; rintro e w1 ⟨rfl, hb1⟩; have hz1 : w.heap.size < w1.heap.size := (by have := hb1.size; (try simp at this); omega); have hbx : ∀ i, w1.cell? ⟨w.heap.size, i, none⟩ = (#[.int .i64 1, .slice A n c, .string ⟨#[]⟩, .string pr, .int .i64 k, .bool b, .int .i64 nn, .string s, .slice pA p.length pc] : Array Value)[i]? := (fun i => (hb1.cell (p := ⟨w.heap.size, i, none⟩) (by first | omega | (simp; done) | (simp; omega))).trans (by simp [go_sem])); have HB1 : Below w.heap.size w w1 := below_then (by repeat (first | exact Below.refl _ _ | assumption | apply below_more)) hb1; clear hb1)
          go_ret
          exact ⟨by first | rfl | (simp; omega), by repeat (first | exact Below.refl _ _ | assumption | apply below_more)⟩
    | false =>
      obtain ⟨e1_nm, e2_nm, e3_nm⟩ := text_some (of_decide_eq_false h_zn.symm)
      clear h_zn
      cases z0 with
      | true =>
        obtain rfl : k = 0 := of_decide_eq_true h_z0.symm
        clear h_z0
        clear h_zg h_z3 h_z2 h_zp
        go_enter Tryd.func37, Tryd.ntmps37
        go_wp2_with (go_at_call 61; refine (hR _ (by repeat (first | exact Below.refl _ _ | assumption | apply below_more))).mono ?_; rintro e w1 ⟨rfl, hb1⟩; have hz1 : w.heap.size < w1.heap.size := (by have := hb1.size; (try simp at this); omega); have hbx : ∀ i, w1.cell? ⟨w.heap.size, i, none⟩ = (#[.int .i64 1, .slice A n c, .string nm, .string pr, .int .i64 0, .bool b, .int .i64 nn, .string s, .slice pA p.length pc] : Array Value)[i]? := (fun i => (hb1.cell (p := ⟨w.heap.size, i, none⟩) (by first | omega | (simp; done) | (simp; omega))).trans (by simp [go_sem])); have HB1 : Below w.heap.size w w1 := below_then (by repeat (first | exact Below.refl _ _ | assumption | apply below_more)) hb1; clear hb1)
        go_ret
        exact ⟨by first | rfl | (simp; omega), by repeat (first | exact Below.refl _ _ | assumption | apply below_more)⟩
      | false =>
        have f_z0 : (k == 0) = false := beq_eq_false_iff_ne.2 (of_decide_eq_false h_z0.symm)
        have g_z0 : ¬ 0 = k := fun e => of_decide_eq_false h_z0.symm e.symm
        clear h_z0
        clear h_zg h_z3 h_z2 h_zp
        go_enter Tryd.func37, Tryd.ntmps37
        go_wp2_with (go_at_call 61; refine (hR _ (by repeat (first | exact Below.refl _ _ | assumption | apply below_more))).mono ?_; rintro e w1 ⟨rfl, hb1⟩; have hz1 : w.heap.size < w1.heap.size := (by have := hb1.size; (try simp at this); omega); have hbx : ∀ i, w1.cell? ⟨w.heap.size, i, none⟩ = (#[.int .i64 1, .slice A n c, .string nm, .string pr, .int .i64 k, .bool b, .int .i64 nn, .string s, .slice pA p.length pc] : Array Value)[i]? := (fun i => (hb1.cell (p := ⟨w.heap.size, i, none⟩) (by first | omega | (simp; done) | (simp; omega))).trans (by simp [go_sem])); have HB1 : Below w.heap.size w w1 := below_then (by repeat (first | exact Below.refl _ _ | assumption | apply below_more)) hb1; clear hb1)
        go_ret
        exact ⟨by first | rfl | (simp; omega), by repeat (first | exact Below.refl _ _ | assumption | apply below_more)⟩
  | false =>
    clear h_zg h_z3 h_z2 h_z0
    cases zn with
    | true =>
      obtain rfl := text_empty (of_decide_eq_true h_zn.symm)
      clear h_zn
      cases zp with
      | true =>
        obtain rfl := text_empty (of_decide_eq_true h_zp.symm)
        clear h_zp
        go_enter Tryd.func37, Tryd.ntmps37
        go_upto_region 6 with (go_at_call 61; refine (hR _ (by repeat (first | exact Below.refl _ _ | assumption | apply below_more))).mono ?_; rintro e w1 ⟨rfl, hb1⟩; have hz1 : w.heap.size < w1.heap.size := (by have := hb1.size; (try simp at this); omega); have hbx : ∀ i, w1.cell? ⟨w.heap.size, i, none⟩ = (#[.int .i64 1, .slice A n c, .string ⟨#[]⟩, .string ⟨#[]⟩, .int .i64 k, .bool b, .int .i64 nn, .string s, .slice pA p.length pc] : Array Value)[i]? := (fun i => (hb1.cell (p := ⟨w.heap.size, i, none⟩) (by first | omega | (simp; done) | (simp; omega))).trans (by simp [go_sem])); have HB1 : Below w.heap.size w w1 := below_then (by repeat (first | exact Below.refl _ _ | assumption | apply below_more)) hb1; clear hb1)
        go_wp2_with (go_at_call 61; refine (hR _ (by repeat (first | exact Below.refl _ _ | assumption | apply below_more))).mono ?_; rintro e w2 ⟨rfl, hb2⟩; have hz2 : w1.heap.size < w2.heap.size := (by have := hb2.size; (try simp at this); omega); have hbx2 : ∀ i, w2.cell? ⟨w.heap.size, i, none⟩ = (#[.int .i64 1, .slice A n c, .string ⟨#[]⟩, .string ⟨#[]⟩, .int .i64 k, .bool b, .int .i64 nn, .string s, .slice pA p.length pc] : Array Value)[i]? := (fun i => (hb2.cell (p := ⟨w.heap.size, i, none⟩) (by first | omega | (simp; done) | (simp; omega))).trans ((((Below.refl w1.heap.size w1).alloc (Nat.le_refl _) _).cell (p := ⟨w.heap.size, i, none⟩) hz1).trans (hbx i))); have hbv : ∀ i, w2.cell? ⟨w1.heap.size, i, none⟩ = (#[.int .i64 k, .bool b, .int .i64 nn, .string s, .slice pA p.length pc] : Array Value)[i]? := (fun i => (hb2.cell (p := ⟨w1.heap.size, i, none⟩) (by first | omega | (simp; done) | (simp; omega))).trans (by simp [go_sem])); have HB2 : Below w.heap.size w w2 := below_then (by repeat (first | exact Below.refl _ _ | assumption | apply below_more)) hb2; clear hb2 hbx)
        go_ret
        exact ⟨by first | rfl | (simp; omega), by repeat (first | exact Below.refl _ _ | assumption | apply below_more)⟩
      | false =>
        obtain ⟨e1_pr, e2_pr, e3_pr⟩ := text_some (of_decide_eq_false h_zp.symm)
        clear h_zp
        go_enter Tryd.func37, Tryd.ntmps37
        go_wp2_with (go_at_call 61; refine (hR _ (by repeat (first | exact Below.refl _ _ | assumption | apply below_more))).mono ?_; rintro e w1 ⟨rfl, hb1⟩; have hz1 : w.heap.size < w1.heap.size := (by have := hb1.size; (try simp at this); omega); have hbx : ∀ i, w1.cell? ⟨w.heap.size, i, none⟩ = (#[.int .i64 1, .slice A n c, .string ⟨#[]⟩, .string pr, .int .i64 k, .bool b, .int .i64 nn, .string s, .slice pA p.length pc] : Array Value)[i]? := (fun i => (hb1.cell (p := ⟨w.heap.size, i, none⟩) (by first | omega | (simp; done) | (simp; omega))).trans (by simp [go_sem])); have HB1 : Below w.heap.size w w1 := below_then (by repeat (first | exact Below.refl _ _ | assumption | apply below_more)) hb1; clear hb1)
        go_ret
        exact ⟨by first | rfl | (simp; omega), by repeat (first | exact Below.refl _ _ | assumption | apply below_more)⟩
    | false =>
      obtain ⟨e1_nm, e2_nm, e3_nm⟩ := text_some (of_decide_eq_false h_zn.symm)
      clear h_zn
      clear h_zp
      go_enter Tryd.func37, Tryd.ntmps37
      go_wp2_with (go_at_call 61; refine (hR _ (by repeat (first | exact Below.refl _ _ | assumption | apply below_more))).mono ?_; rintro e w1 ⟨rfl, hb1⟩; have hz1 : w.heap.size < w1.heap.size := (by have := hb1.size; (try simp at this); omega); have hbx : ∀ i, w1.cell? ⟨w.heap.size, i, none⟩ = (#[.int .i64 1, .slice A n c, .string nm, .string pr, .int .i64 k, .bool b, .int .i64 nn, .string s, .slice pA p.length pc] : Array Value)[i]? := (fun i => (hb1.cell (p := ⟨w.heap.size, i, none⟩) (by first | omega | (simp; done) | (simp; omega))).trans (by simp [go_sem])); have HB1 : Below w.heap.size w w1 := below_then (by repeat (first | exact Below.refl _ _ | assumption | apply below_more)) hb1; clear hb1)
      go_ret
      exact ⟨by first | rfl | (simp; omega), by repeat (first | exact Below.refl _ _ | assumption | apply below_more)⟩
set_option maxRecDepth 100000 in
set_option maxHeartbeats 1600000 in
theorem plain_len (op : Int) (A : Option Addr) (n c : Nat) (m : Int) (nm pr : ByteArray) (k : Int) (b : Bool) (nn : Int) (s : ByteArray) (pA : Option Addr) (p : List Int) (pc : Nat) (w : World) (r b1 b2 : Bool)
    (hR : ∀ W, Below w.heap.size w W → Calls Tryd.prog 61 #[.agg #[.int .i64 k, .bool b, .int .i64 nn, .string s, .slice pA p.length pc]] W fun e w' => e = .returned (.bool r) ∧ Below W.heap.size W w') (hm : ((n : Int) != m) = true) (hm2 : ¬ (n : Int) = m) (z0 : Bool) (h_z0 : z0 = decide (k = 0)) :
    Calls Tryd.prog 37 #[.agg #[.int .i64 op, .slice A n c, .string nm, .string pr, .int .i64 k, .bool b, .int .i64 nn, .string s, .slice pA p.length pc], .int .i64 m] w fun e w' => e = .returned (.bool (false)) ∧ Below w.heap.size w w' := by
  cases r with
  | true =>
    cases z0 with
    | true =>
      obtain rfl : k = 0 := of_decide_eq_true h_z0.symm
      clear h_z0
      go_enter Tryd.func37, Tryd.ntmps37
      go_wp2_with (go_at_call 61; refine (hR _ (by repeat (first | exact Below.refl _ _ | assumption | apply below_more))).mono ?_; rintro e w1 ⟨rfl, hb1⟩; have hz1 : w.heap.size < w1.heap.size := (by have := hb1.size; (try simp at this); omega); have hbx : ∀ i, w1.cell? ⟨w.heap.size, i, none⟩ = (#[.int .i64 op, .slice A n c, .string nm, .string pr, .int .i64 0, .bool b, .int .i64 nn, .string s, .slice pA p.length pc] : Array Value)[i]? := (fun i => (hb1.cell (p := ⟨w.heap.size, i, none⟩) (by first | omega | (simp; done) | (simp; omega))).trans (by simp [go_sem])); have HB1 : Below w.heap.size w w1 := below_then (by repeat (first | exact Below.refl _ _ | assumption | apply below_more)) hb1; clear hb1)
      go_ret
      exact ⟨by first | rfl | (simp; omega), by repeat (first | exact Below.refl _ _ | assumption | apply below_more)⟩
    | false =>
      have f_z0 : (k == 0) = false := beq_eq_false_iff_ne.2 (of_decide_eq_false h_z0.symm)
      have g_z0 : ¬ 0 = k := fun e => of_decide_eq_false h_z0.symm e.symm
      clear h_z0
      go_enter Tryd.func37, Tryd.ntmps37
      go_wp2_with (go_at_call 61; refine (hR _ (by repeat (first | exact Below.refl _ _ | assumption | apply below_more))).mono ?_; rintro e w1 ⟨rfl, hb1⟩; have hz1 : w.heap.size < w1.heap.size := (by have := hb1.size; (try simp at this); omega); have hbx : ∀ i, w1.cell? ⟨w.heap.size, i, none⟩ = (#[.int .i64 op, .slice A n c, .string nm, .string pr, .int .i64 k, .bool b, .int .i64 nn, .string s, .slice pA p.length pc] : Array Value)[i]? := (fun i => (hb1.cell (p := ⟨w.heap.size, i, none⟩) (by first | omega | (simp; done) | (simp; omega))).trans (by simp [go_sem])); have HB1 : Below w.heap.size w w1 := below_then (by repeat (first | exact Below.refl _ _ | assumption | apply below_more)) hb1; clear hb1)
      go_ret
      exact ⟨by first | rfl | (simp; omega), by repeat (first | exact Below.refl _ _ | assumption | apply below_more)⟩
  | false =>
    clear h_z0
    go_enter Tryd.func37, Tryd.ntmps37
    go_wp2_with (go_at_call 61; refine (hR _ (by repeat (first | exact Below.refl _ _ | assumption | apply below_more))).mono ?_; rintro e w1 ⟨rfl, hb1⟩; have hz1 : w.heap.size < w1.heap.size := (by have := hb1.size; (try simp at this); omega); have hbx : ∀ i, w1.cell? ⟨w.heap.size, i, none⟩ = (#[.int .i64 op, .slice A n c, .string nm, .string pr, .int .i64 k, .bool b, .int .i64 nn, .string s, .slice pA p.length pc] : Array Value)[i]? := (fun i => (hb1.cell (p := ⟨w.heap.size, i, none⟩) (by first | omega | (simp; done) | (simp; omega))).trans (by simp [go_sem])); have HB1 : Below w.heap.size w w1 := below_then (by repeat (first | exact Below.refl _ _ | assumption | apply below_more)) hb1; clear hb1)
    go_ret
    exact ⟨by first | rfl | (simp; omega), by repeat (first | exact Below.refl _ _ | assumption | apply below_more)⟩
set_option maxRecDepth 100000 in
set_option maxHeartbeats 1600000 in
theorem plain_2 (A : Option Addr) (n c : Nat) (m : Int) (nm pr : ByteArray) (k : Int) (b : Bool) (nn : Int) (s : ByteArray) (pA : Option Addr) (p : List Int) (pc : Nat) (w : World) (r b1 b2 : Bool)
    (hR : ∀ W, Below w.heap.size w W → Calls Tryd.prog 61 #[.agg #[.int .i64 k, .bool b, .int .i64 nn, .string s, .slice pA p.length pc]] W fun e w' => e = .returned (.bool r) ∧ Below W.heap.size W w')
    (hN1 : ∀ W, Below w.heap.size w W → Calls Tryd.prog 48 #[.string nm] W fun e w' => e = .returned (.bool b1) ∧ Below W.heap.size W w')  (hm : m = (n : Int)) (z0 : Bool) (h_z0 : z0 = decide (k = 0)) (zp : Bool) (h_zp : zp = decide (pr.size = 0)) :
    Calls Tryd.prog 37 #[.agg #[.int .i64 2, .slice A n c, .string nm, .string pr, .int .i64 k, .bool b, .int .i64 nn, .string s, .slice pA p.length pc], .int .i64 m] w fun e w' => e = .returned (.bool (r && (z0 && (b1 && zp)))) ∧ Below w.heap.size w w' := by
  subst hm
  cases r with
  | true =>
    cases z0 with
    | true =>
      obtain rfl : k = 0 := of_decide_eq_true h_z0.symm
      clear h_z0
      cases b1 with
      | true =>
        cases zp with
        | true =>
          obtain rfl := text_empty (of_decide_eq_true h_zp.symm)
          clear h_zp
          go_enter Tryd.func37, Tryd.ntmps37
          go_wp2_with (first | (go_at_call 61; refine (hR _ (by repeat (first | exact Below.refl _ _ | assumption | apply below_more))).mono ?_; rintro e w1 ⟨rfl, hb1⟩; have hz1 : w.heap.size < w1.heap.size := (by have := hb1.size; (try simp at this); omega); have hbx : ∀ i, w1.cell? ⟨w.heap.size, i, none⟩ = (#[.int .i64 2, .slice A n c, .string nm, .string ⟨#[]⟩, .int .i64 0, .bool b, .int .i64 nn, .string s, .slice pA p.length pc] : Array Value)[i]? := (fun i => (hb1.cell (p := ⟨w.heap.size, i, none⟩) (by first | omega | (simp; done) | (simp; omega))).trans (by simp [go_sem])); have HB1 : Below w.heap.size w w1 := below_then (by repeat (first | exact Below.refl _ _ | assumption | apply below_more)) hb1; clear hb1) | (go_at_call 48; refine (hN1 _ (by repeat (first | exact Below.refl _ _ | assumption | apply below_more))).mono ?_; clear hN1; rintro e wn1 ⟨rfl, hn1⟩; have hzn1 : w.heap.size < wn1.heap.size := (by have := hn1.size; omega); have hbn1 : ∀ i, wn1.cell? ⟨w.heap.size, i, none⟩ = (#[.int .i64 2, .slice A n c, .string nm, .string ⟨#[]⟩, .int .i64 0, .bool b, .int .i64 nn, .string s, .slice pA p.length pc] : Array Value)[i]? := (fun i => (hn1.cell (p := ⟨w.heap.size, i, none⟩) (by first | omega | (simp; done) | (simp; omega))).trans (hbx i)); have HBn1 : Below w.heap.size w wn1 := below_then (by repeat (first | exact Below.refl _ _ | assumption | apply below_more)) hn1; clear hn1 hbx))
          go_ret
          exact ⟨by first | rfl | (simp; omega), by repeat (first | exact Below.refl _ _ | assumption | apply below_more)⟩
        | false =>
          obtain ⟨e1_pr, e2_pr, e3_pr⟩ := text_some (of_decide_eq_false h_zp.symm)
          clear h_zp
          go_enter Tryd.func37, Tryd.ntmps37
          go_wp2_with (first | (go_at_call 61; refine (hR _ (by repeat (first | exact Below.refl _ _ | assumption | apply below_more))).mono ?_; rintro e w1 ⟨rfl, hb1⟩; have hz1 : w.heap.size < w1.heap.size := (by have := hb1.size; (try simp at this); omega); have hbx : ∀ i, w1.cell? ⟨w.heap.size, i, none⟩ = (#[.int .i64 2, .slice A n c, .string nm, .string pr, .int .i64 0, .bool b, .int .i64 nn, .string s, .slice pA p.length pc] : Array Value)[i]? := (fun i => (hb1.cell (p := ⟨w.heap.size, i, none⟩) (by first | omega | (simp; done) | (simp; omega))).trans (by simp [go_sem])); have HB1 : Below w.heap.size w w1 := below_then (by repeat (first | exact Below.refl _ _ | assumption | apply below_more)) hb1; clear hb1) | (go_at_call 48; refine (hN1 _ (by repeat (first | exact Below.refl _ _ | assumption | apply below_more))).mono ?_; clear hN1; rintro e wn1 ⟨rfl, hn1⟩; have hzn1 : w.heap.size < wn1.heap.size := (by have := hn1.size; omega); have hbn1 : ∀ i, wn1.cell? ⟨w.heap.size, i, none⟩ = (#[.int .i64 2, .slice A n c, .string nm, .string pr, .int .i64 0, .bool b, .int .i64 nn, .string s, .slice pA p.length pc] : Array Value)[i]? := (fun i => (hn1.cell (p := ⟨w.heap.size, i, none⟩) (by first | omega | (simp; done) | (simp; omega))).trans (hbx i)); have HBn1 : Below w.heap.size w wn1 := below_then (by repeat (first | exact Below.refl _ _ | assumption | apply below_more)) hn1; clear hn1 hbx))
          go_ret
          exact ⟨by first | rfl | (simp; omega), by repeat (first | exact Below.refl _ _ | assumption | apply below_more)⟩
      | false =>
        clear h_zp
        go_enter Tryd.func37, Tryd.ntmps37
        go_wp2_with (first | (go_at_call 61; refine (hR _ (by repeat (first | exact Below.refl _ _ | assumption | apply below_more))).mono ?_; rintro e w1 ⟨rfl, hb1⟩; have hz1 : w.heap.size < w1.heap.size := (by have := hb1.size; (try simp at this); omega); have hbx : ∀ i, w1.cell? ⟨w.heap.size, i, none⟩ = (#[.int .i64 2, .slice A n c, .string nm, .string pr, .int .i64 0, .bool b, .int .i64 nn, .string s, .slice pA p.length pc] : Array Value)[i]? := (fun i => (hb1.cell (p := ⟨w.heap.size, i, none⟩) (by first | omega | (simp; done) | (simp; omega))).trans (by simp [go_sem])); have HB1 : Below w.heap.size w w1 := below_then (by repeat (first | exact Below.refl _ _ | assumption | apply below_more)) hb1; clear hb1) | (go_at_call 48; refine (hN1 _ (by repeat (first | exact Below.refl _ _ | assumption | apply below_more))).mono ?_; clear hN1; rintro e wn1 ⟨rfl, hn1⟩; have hzn1 : w.heap.size < wn1.heap.size := (by have := hn1.size; omega); have hbn1 : ∀ i, wn1.cell? ⟨w.heap.size, i, none⟩ = (#[.int .i64 2, .slice A n c, .string nm, .string pr, .int .i64 0, .bool b, .int .i64 nn, .string s, .slice pA p.length pc] : Array Value)[i]? := (fun i => (hn1.cell (p := ⟨w.heap.size, i, none⟩) (by first | omega | (simp; done) | (simp; omega))).trans (hbx i)); have HBn1 : Below w.heap.size w wn1 := below_then (by repeat (first | exact Below.refl _ _ | assumption | apply below_more)) hn1; clear hn1 hbx))
        go_ret
        exact ⟨by first | rfl | (simp; omega), by repeat (first | exact Below.refl _ _ | assumption | apply below_more)⟩
    | false =>
      have f_z0 : (k == 0) = false := beq_eq_false_iff_ne.2 (of_decide_eq_false h_z0.symm)
      have g_z0 : ¬ 0 = k := fun e => of_decide_eq_false h_z0.symm e.symm
      clear h_z0
      clear h_zp
      go_enter Tryd.func37, Tryd.ntmps37
      go_wp2_with (go_at_call 61; refine (hR _ (by repeat (first | exact Below.refl _ _ | assumption | apply below_more))).mono ?_; rintro e w1 ⟨rfl, hb1⟩; have hz1 : w.heap.size < w1.heap.size := (by have := hb1.size; (try simp at this); omega); have hbx : ∀ i, w1.cell? ⟨w.heap.size, i, none⟩ = (#[.int .i64 2, .slice A n c, .string nm, .string pr, .int .i64 k, .bool b, .int .i64 nn, .string s, .slice pA p.length pc] : Array Value)[i]? := (fun i => (hb1.cell (p := ⟨w.heap.size, i, none⟩) (by first | omega | (simp; done) | (simp; omega))).trans (by simp [go_sem])); have HB1 : Below w.heap.size w w1 := below_then (by repeat (first | exact Below.refl _ _ | assumption | apply below_more)) hb1; clear hb1)
      go_ret
      exact ⟨by first | rfl | (simp; omega), by repeat (first | exact Below.refl _ _ | assumption | apply below_more)⟩
  | false =>
    clear h_zp h_z0
    go_enter Tryd.func37, Tryd.ntmps37
    go_wp2_with (go_at_call 61; refine (hR _ (by repeat (first | exact Below.refl _ _ | assumption | apply below_more))).mono ?_; rintro e w1 ⟨rfl, hb1⟩; have hz1 : w.heap.size < w1.heap.size := (by have := hb1.size; (try simp at this); omega); have hbx : ∀ i, w1.cell? ⟨w.heap.size, i, none⟩ = (#[.int .i64 2, .slice A n c, .string nm, .string pr, .int .i64 k, .bool b, .int .i64 nn, .string s, .slice pA p.length pc] : Array Value)[i]? := (fun i => (hb1.cell (p := ⟨w.heap.size, i, none⟩) (by first | omega | (simp; done) | (simp; omega))).trans (by simp [go_sem])); have HB1 : Below w.heap.size w w1 := below_then (by repeat (first | exact Below.refl _ _ | assumption | apply below_more)) hb1; clear hb1)
    go_ret
    exact ⟨by first | rfl | (simp; omega), by repeat (first | exact Below.refl _ _ | assumption | apply below_more)⟩
set_option maxRecDepth 100000 in
set_option maxHeartbeats 1600000 in
theorem plain_3 (A : Option Addr) (n c : Nat) (m : Int) (nm pr : ByteArray) (k : Int) (b : Bool) (nn : Int) (s : ByteArray) (pA : Option Addr) (p : List Int) (pc : Nat) (w : World) (r b1 b2 : Bool)
    (hR : ∀ W, Below w.heap.size w W → Calls Tryd.prog 61 #[.agg #[.int .i64 k, .bool b, .int .i64 nn, .string s, .slice pA p.length pc]] W fun e w' => e = .returned (.bool r) ∧ Below W.heap.size W w')
    (hN1 : ∀ W, Below w.heap.size w W → Calls Tryd.prog 48 #[.string nm] W fun e w' => e = .returned (.bool b1) ∧ Below W.heap.size W w') 
    (hN2 : ∀ W, Below w.heap.size w W → Calls Tryd.prog 48 #[.string pr] W fun e w' => e = .returned (.bool b2) ∧ Below W.heap.size W w')  (hm : m = (n : Int)) (z0 : Bool) (h_z0 : z0 = decide (k = 0)) :
    Calls Tryd.prog 37 #[.agg #[.int .i64 3, .slice A n c, .string nm, .string pr, .int .i64 k, .bool b, .int .i64 nn, .string s, .slice pA p.length pc], .int .i64 m] w fun e w' => e = .returned (.bool (r && (z0 && (b1 && b2)))) ∧ Below w.heap.size w w' := by
  subst hm
  cases r with
  | true =>
    cases z0 with
    | true =>
      obtain rfl : k = 0 := of_decide_eq_true h_z0.symm
      clear h_z0
      cases b1 with
      | true =>
        cases b2 with
        | true =>
          go_enter Tryd.func37, Tryd.ntmps37
          go_wp2_with (go_at_call 61; refine (hR _ (by repeat (first | exact Below.refl _ _ | assumption | apply below_more))).mono ?_; rintro e w1 ⟨rfl, hb1⟩; have hz1 : w.heap.size < w1.heap.size := (by have := hb1.size; (try simp at this); omega); have hbx : ∀ i, w1.cell? ⟨w.heap.size, i, none⟩ = (#[.int .i64 3, .slice A n c, .string nm, .string pr, .int .i64 0, .bool b, .int .i64 nn, .string s, .slice pA p.length pc] : Array Value)[i]? := (fun i => (hb1.cell (p := ⟨w.heap.size, i, none⟩) (by first | omega | (simp; done) | (simp; omega))).trans (by simp [go_sem])); have HB1 : Below w.heap.size w w1 := below_then (by repeat (first | exact Below.refl _ _ | assumption | apply below_more)) hb1; clear hb1)
          go_wp2_with (go_at_call 48; refine (hN1 _ (by repeat (first | exact Below.refl _ _ | assumption | apply below_more))).mono ?_; clear hN1; rintro e wn1 ⟨rfl, hn1⟩; have hzn1 : w.heap.size < wn1.heap.size := (by have := hn1.size; omega); have hbn1 : ∀ i, wn1.cell? ⟨w.heap.size, i, none⟩ = (#[.int .i64 3, .slice A n c, .string nm, .string pr, .int .i64 0, .bool b, .int .i64 nn, .string s, .slice pA p.length pc] : Array Value)[i]? := (fun i => (hn1.cell (p := ⟨w.heap.size, i, none⟩) (by first | omega | (simp; done) | (simp; omega))).trans (hbx i)); have HBn1 : Below w.heap.size w wn1 := below_then (by repeat (first | exact Below.refl _ _ | assumption | apply below_more)) hn1; clear hn1 hbx)
          go_wp2_with (go_at_call 48; refine (hN2 _ (by repeat (first | exact Below.refl _ _ | assumption | apply below_more))).mono ?_; clear hN2; rintro e wn2 ⟨rfl, hn2⟩; have hzn2 : w.heap.size < wn2.heap.size := (by have := hn2.size; omega); have hbn2 : ∀ i, wn2.cell? ⟨w.heap.size, i, none⟩ = (#[.int .i64 3, .slice A n c, .string nm, .string pr, .int .i64 0, .bool b, .int .i64 nn, .string s, .slice pA p.length pc] : Array Value)[i]? := (fun i => (hn2.cell (p := ⟨w.heap.size, i, none⟩) (by first | omega | (simp; done) | (simp; omega))).trans (hbn1 i)); have HBn2 : Below w.heap.size w wn2 := below_then (by repeat (first | exact Below.refl _ _ | assumption | apply below_more)) hn2; clear hn2 hbn1)
          go_ret
          exact ⟨by first | rfl | (simp; omega), by repeat (first | exact Below.refl _ _ | assumption | apply below_more)⟩
        | false =>
          go_enter Tryd.func37, Tryd.ntmps37
          go_wp2_with (go_at_call 61; refine (hR _ (by repeat (first | exact Below.refl _ _ | assumption | apply below_more))).mono ?_; rintro e w1 ⟨rfl, hb1⟩; have hz1 : w.heap.size < w1.heap.size := (by have := hb1.size; (try simp at this); omega); have hbx : ∀ i, w1.cell? ⟨w.heap.size, i, none⟩ = (#[.int .i64 3, .slice A n c, .string nm, .string pr, .int .i64 0, .bool b, .int .i64 nn, .string s, .slice pA p.length pc] : Array Value)[i]? := (fun i => (hb1.cell (p := ⟨w.heap.size, i, none⟩) (by first | omega | (simp; done) | (simp; omega))).trans (by simp [go_sem])); have HB1 : Below w.heap.size w w1 := below_then (by repeat (first | exact Below.refl _ _ | assumption | apply below_more)) hb1; clear hb1)
          go_wp2_with (go_at_call 48; refine (hN1 _ (by repeat (first | exact Below.refl _ _ | assumption | apply below_more))).mono ?_; clear hN1; rintro e wn1 ⟨rfl, hn1⟩; have hzn1 : w.heap.size < wn1.heap.size := (by have := hn1.size; omega); have hbn1 : ∀ i, wn1.cell? ⟨w.heap.size, i, none⟩ = (#[.int .i64 3, .slice A n c, .string nm, .string pr, .int .i64 0, .bool b, .int .i64 nn, .string s, .slice pA p.length pc] : Array Value)[i]? := (fun i => (hn1.cell (p := ⟨w.heap.size, i, none⟩) (by first | omega | (simp; done) | (simp; omega))).trans (hbx i)); have HBn1 : Below w.heap.size w wn1 := below_then (by repeat (first | exact Below.refl _ _ | assumption | apply below_more)) hn1; clear hn1 hbx)
          go_wp2_with (go_at_call 48; refine (hN2 _ (by repeat (first | exact Below.refl _ _ | assumption | apply below_more))).mono ?_; clear hN2; rintro e wn2 ⟨rfl, hn2⟩; have hzn2 : w.heap.size < wn2.heap.size := (by have := hn2.size; omega); have hbn2 : ∀ i, wn2.cell? ⟨w.heap.size, i, none⟩ = (#[.int .i64 3, .slice A n c, .string nm, .string pr, .int .i64 0, .bool b, .int .i64 nn, .string s, .slice pA p.length pc] : Array Value)[i]? := (fun i => (hn2.cell (p := ⟨w.heap.size, i, none⟩) (by first | omega | (simp; done) | (simp; omega))).trans (hbn1 i)); have HBn2 : Below w.heap.size w wn2 := below_then (by repeat (first | exact Below.refl _ _ | assumption | apply below_more)) hn2; clear hn2 hbn1)
          go_ret
          exact ⟨by first | rfl | (simp; omega), by repeat (first | exact Below.refl _ _ | assumption | apply below_more)⟩
      | false =>
        go_enter Tryd.func37, Tryd.ntmps37
        go_wp2_with (go_at_call 61; refine (hR _ (by repeat (first | exact Below.refl _ _ | assumption | apply below_more))).mono ?_; rintro e w1 ⟨rfl, hb1⟩; have hz1 : w.heap.size < w1.heap.size := (by have := hb1.size; (try simp at this); omega); have hbx : ∀ i, w1.cell? ⟨w.heap.size, i, none⟩ = (#[.int .i64 3, .slice A n c, .string nm, .string pr, .int .i64 0, .bool b, .int .i64 nn, .string s, .slice pA p.length pc] : Array Value)[i]? := (fun i => (hb1.cell (p := ⟨w.heap.size, i, none⟩) (by first | omega | (simp; done) | (simp; omega))).trans (by simp [go_sem])); have HB1 : Below w.heap.size w w1 := below_then (by repeat (first | exact Below.refl _ _ | assumption | apply below_more)) hb1; clear hb1)
        go_wp2_with (go_at_call 48; refine (hN1 _ (by repeat (first | exact Below.refl _ _ | assumption | apply below_more))).mono ?_; clear hN1; rintro e wn1 ⟨rfl, hn1⟩; have hzn1 : w.heap.size < wn1.heap.size := (by have := hn1.size; omega); have hbn1 : ∀ i, wn1.cell? ⟨w.heap.size, i, none⟩ = (#[.int .i64 3, .slice A n c, .string nm, .string pr, .int .i64 0, .bool b, .int .i64 nn, .string s, .slice pA p.length pc] : Array Value)[i]? := (fun i => (hn1.cell (p := ⟨w.heap.size, i, none⟩) (by first | omega | (simp; done) | (simp; omega))).trans (hbx i)); have HBn1 : Below w.heap.size w wn1 := below_then (by repeat (first | exact Below.refl _ _ | assumption | apply below_more)) hn1; clear hn1 hbx)
        go_ret
        exact ⟨by first | rfl | (simp; omega), by repeat (first | exact Below.refl _ _ | assumption | apply below_more)⟩
    | false =>
      have f_z0 : (k == 0) = false := beq_eq_false_iff_ne.2 (of_decide_eq_false h_z0.symm)
      have g_z0 : ¬ 0 = k := fun e => of_decide_eq_false h_z0.symm e.symm
      clear h_z0
      go_enter Tryd.func37, Tryd.ntmps37
      go_wp2_with (go_at_call 61; refine (hR _ (by repeat (first | exact Below.refl _ _ | assumption | apply below_more))).mono ?_; rintro e w1 ⟨rfl, hb1⟩; have hz1 : w.heap.size < w1.heap.size := (by have := hb1.size; (try simp at this); omega); have hbx : ∀ i, w1.cell? ⟨w.heap.size, i, none⟩ = (#[.int .i64 3, .slice A n c, .string nm, .string pr, .int .i64 k, .bool b, .int .i64 nn, .string s, .slice pA p.length pc] : Array Value)[i]? := (fun i => (hb1.cell (p := ⟨w.heap.size, i, none⟩) (by first | omega | (simp; done) | (simp; omega))).trans (by simp [go_sem])); have HB1 : Below w.heap.size w w1 := below_then (by repeat (first | exact Below.refl _ _ | assumption | apply below_more)) hb1; clear hb1)
      go_ret
      exact ⟨by first | rfl | (simp; omega), by repeat (first | exact Below.refl _ _ | assumption | apply below_more)⟩
  | false =>
    clear h_z0
    go_enter Tryd.func37, Tryd.ntmps37
    go_wp2_with (go_at_call 61; refine (hR _ (by repeat (first | exact Below.refl _ _ | assumption | apply below_more))).mono ?_; rintro e w1 ⟨rfl, hb1⟩; have hz1 : w.heap.size < w1.heap.size := (by have := hb1.size; (try simp at this); omega); have hbx : ∀ i, w1.cell? ⟨w.heap.size, i, none⟩ = (#[.int .i64 3, .slice A n c, .string nm, .string pr, .int .i64 k, .bool b, .int .i64 nn, .string s, .slice pA p.length pc] : Array Value)[i]? := (fun i => (hb1.cell (p := ⟨w.heap.size, i, none⟩) (by first | omega | (simp; done) | (simp; omega))).trans (by simp [go_sem])); have HB1 : Below w.heap.size w w1 := below_then (by repeat (first | exact Below.refl _ _ | assumption | apply below_more)) hb1; clear hb1)
    go_ret
    exact ⟨by first | rfl | (simp; omega), by repeat (first | exact Below.refl _ _ | assumption | apply below_more)⟩
set_option maxRecDepth 100000 in
set_option maxHeartbeats 1600000 in
theorem plain_x (op : Int) (A : Option Addr) (n c : Nat) (m : Int) (nm pr : ByteArray) (k : Int) (b : Bool) (nn : Int) (s : ByteArray) (pA : Option Addr) (p : List Int) (pc : Nat) (w : World) (r b1 b2 : Bool)
    (hR : ∀ W, Below w.heap.size w W → Calls Tryd.prog 61 #[.agg #[.int .i64 k, .bool b, .int .i64 nn, .string s, .slice pA p.length pc]] W fun e w' => e = .returned (.bool r) ∧ Below W.heap.size W w') (hm : m = (n : Int)) (e1 : (op == 1) = false) (e2 : (op == 2) = false) (e3 : (op == 3) = false) (z0 : Bool) (h_z0 : z0 = decide (k = 0)) (zn : Bool) (h_zn : zn = decide (nm.size = 0)) (zp : Bool) (h_zp : zp = decide (pr.size = 0)) :
    Calls Tryd.prog 37 #[.agg #[.int .i64 op, .slice A n c, .string nm, .string pr, .int .i64 k, .bool b, .int .i64 nn, .string s, .slice pA p.length pc], .int .i64 m] w fun e w' => e = .returned (.bool (r && (z0 && (zn && zp)))) ∧ Below w.heap.size w w' := by
  subst hm
  cases r with
  | true =>
    cases z0 with
    | true =>
      obtain rfl : k = 0 := of_decide_eq_true h_z0.symm
      clear h_z0
      cases zn with
      | true =>
        obtain rfl := text_empty (of_decide_eq_true h_zn.symm)
        clear h_zn
        cases zp with
        | true =>
          obtain rfl := text_empty (of_decide_eq_true h_zp.symm)
          clear h_zp
          go_enter Tryd.func37, Tryd.ntmps37
          go_wp2_with (go_at_call 61; refine (hR _ (by repeat (first | exact Below.refl _ _ | assumption | apply below_more))).mono ?_; rintro e w1 ⟨rfl, hb1⟩; have hz1 : w.heap.size < w1.heap.size := (by have := hb1.size; (try simp at this); omega); have hbx : ∀ i, w1.cell? ⟨w.heap.size, i, none⟩ = (#[.int .i64 op, .slice A n c, .string ⟨#[]⟩, .string ⟨#[]⟩, .int .i64 0, .bool b, .int .i64 nn, .string s, .slice pA p.length pc] : Array Value)[i]? := (fun i => (hb1.cell (p := ⟨w.heap.size, i, none⟩) (by first | omega | (simp; done) | (simp; omega))).trans (by simp [go_sem])); have HB1 : Below w.heap.size w w1 := below_then (by repeat (first | exact Below.refl _ _ | assumption | apply below_more)) hb1; clear hb1)
          go_ret
          exact ⟨by first | rfl | (simp; omega), by repeat (first | exact Below.refl _ _ | assumption | apply below_more)⟩
        | false =>
          obtain ⟨e1_pr, e2_pr, e3_pr⟩ := text_some (of_decide_eq_false h_zp.symm)
          clear h_zp
          go_enter Tryd.func37, Tryd.ntmps37
          go_wp2_with (go_at_call 61; refine (hR _ (by repeat (first | exact Below.refl _ _ | assumption | apply below_more))).mono ?_; rintro e w1 ⟨rfl, hb1⟩; have hz1 : w.heap.size < w1.heap.size := (by have := hb1.size; (try simp at this); omega); have hbx : ∀ i, w1.cell? ⟨w.heap.size, i, none⟩ = (#[.int .i64 op, .slice A n c, .string ⟨#[]⟩, .string pr, .int .i64 0, .bool b, .int .i64 nn, .string s, .slice pA p.length pc] : Array Value)[i]? := (fun i => (hb1.cell (p := ⟨w.heap.size, i, none⟩) (by first | omega | (simp; done) | (simp; omega))).trans (by simp [go_sem])); have HB1 : Below w.heap.size w w1 := below_then (by repeat (first | exact Below.refl _ _ | assumption | apply below_more)) hb1; clear hb1)
          go_ret
          exact ⟨by first | rfl | (simp; omega), by repeat (first | exact Below.refl _ _ | assumption | apply below_more)⟩
      | false =>
        obtain ⟨e1_nm, e2_nm, e3_nm⟩ := text_some (of_decide_eq_false h_zn.symm)
        clear h_zn
        clear h_zp
        go_enter Tryd.func37, Tryd.ntmps37
        go_wp2_with (go_at_call 61; refine (hR _ (by repeat (first | exact Below.refl _ _ | assumption | apply below_more))).mono ?_; rintro e w1 ⟨rfl, hb1⟩; have hz1 : w.heap.size < w1.heap.size := (by have := hb1.size; (try simp at this); omega); have hbx : ∀ i, w1.cell? ⟨w.heap.size, i, none⟩ = (#[.int .i64 op, .slice A n c, .string nm, .string pr, .int .i64 0, .bool b, .int .i64 nn, .string s, .slice pA p.length pc] : Array Value)[i]? := (fun i => (hb1.cell (p := ⟨w.heap.size, i, none⟩) (by first | omega | (simp; done) | (simp; omega))).trans (by simp [go_sem])); have HB1 : Below w.heap.size w w1 := below_then (by repeat (first | exact Below.refl _ _ | assumption | apply below_more)) hb1; clear hb1)
        go_ret
        exact ⟨by first | rfl | (simp; omega), by repeat (first | exact Below.refl _ _ | assumption | apply below_more)⟩
    | false =>
      have f_z0 : (k == 0) = false := beq_eq_false_iff_ne.2 (of_decide_eq_false h_z0.symm)
      have g_z0 : ¬ 0 = k := fun e => of_decide_eq_false h_z0.symm e.symm
      clear h_z0
      clear h_zp h_zn
      go_enter Tryd.func37, Tryd.ntmps37
      go_wp2_with (go_at_call 61; refine (hR _ (by repeat (first | exact Below.refl _ _ | assumption | apply below_more))).mono ?_; rintro e w1 ⟨rfl, hb1⟩; have hz1 : w.heap.size < w1.heap.size := (by have := hb1.size; (try simp at this); omega); have hbx : ∀ i, w1.cell? ⟨w.heap.size, i, none⟩ = (#[.int .i64 op, .slice A n c, .string nm, .string pr, .int .i64 k, .bool b, .int .i64 nn, .string s, .slice pA p.length pc] : Array Value)[i]? := (fun i => (hb1.cell (p := ⟨w.heap.size, i, none⟩) (by first | omega | (simp; done) | (simp; omega))).trans (by simp [go_sem])); have HB1 : Below w.heap.size w w1 := below_then (by repeat (first | exact Below.refl _ _ | assumption | apply below_more)) hb1; clear hb1)
      go_ret
      exact ⟨by first | rfl | (simp; omega), by repeat (first | exact Below.refl _ _ | assumption | apply below_more)⟩
  | false =>
    clear h_zp h_zn h_z0
    go_enter Tryd.func37, Tryd.ntmps37
    go_wp2_with (go_at_call 61; refine (hR _ (by repeat (first | exact Below.refl _ _ | assumption | apply below_more))).mono ?_; rintro e w1 ⟨rfl, hb1⟩; have hz1 : w.heap.size < w1.heap.size := (by have := hb1.size; (try simp at this); omega); have hbx : ∀ i, w1.cell? ⟨w.heap.size, i, none⟩ = (#[.int .i64 op, .slice A n c, .string nm, .string pr, .int .i64 k, .bool b, .int .i64 nn, .string s, .slice pA p.length pc] : Array Value)[i]? := (fun i => (hb1.cell (p := ⟨w.heap.size, i, none⟩) (by first | omega | (simp; done) | (simp; omega))).trans (by simp [go_sem])); have HB1 : Below w.heap.size w w1 := below_then (by repeat (first | exact Below.refl _ _ | assumption | apply below_more)) hb1; clear hb1)
    go_ret
    exact ⟨by first | rfl | (simp; omega), by repeat (first | exact Below.refl _ _ | assumption | apply below_more)⟩
end Go.Proofs.YtkchpgjjkckfbaaDoor
